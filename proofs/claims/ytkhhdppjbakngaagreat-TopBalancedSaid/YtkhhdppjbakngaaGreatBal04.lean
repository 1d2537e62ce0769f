/-
  A part of the proof of a statement of the seat YtkhhdppjbakngaaGreat.
-/
import Derived.Test.YtkhhdppjbakngaaGreatBal03
set_option linter.unusedVariables false
namespace Go.Proofs
open Go Go.Abs
set_option maxRecDepth 100000
def NK (n:Nat) (a0z:List UInt8) (a1at:Int) (a2kind:Int):Option (Y1 × Int × Int) :=
 cond (Qs a2kind 3)
  ((CB n a0z a1at).bind fun r1 =>
  cond (QL 12 (wi (r1 - a1at)))
   (some ((⟨0,[],0,0⟩:Y1),r1,3))
   (cond (sliceB a1at r1 (List.length a0z)) (
    some ((⟨1,List.drop (Int.toNat a1at) (List.take (Int.toNat r1) a0z),0,a1at⟩:Y1),r1,0)) none))
  (cond (Qs a2kind 4)
   ((CE n a0z a1at).bind fun r2 =>
   cond (sliceB a1at r2 (List.length a0z)) (
    (NJ n (List.drop (Int.toNat a1at) (List.take (Int.toNat r2) a0z))).bind fun r3 =>
    cond (!Qs r3.2 0)
     (some ((⟨0,[],0,0⟩:Y1),r2,r3.2))
     (some ((⟨2,[],r3.1,a1at⟩:Y1),r2,0))) none)
   (cond (Qs a2kind 5)
    (cond (sliceB a1at (wi (a1at+1)) (List.length a0z)) (
     some ((⟨3,List.drop (Int.toNat a1at) (List.take (Int.toNat (wi (a1at+1))) a0z),0,a1at⟩:Y1),wi (a1at+1),0)) none)
    (some ((⟨0,[],0,0⟩:Y1),a1at,7))))
def ji:=fun x0 x1 x2=>([(6, .box 105 [I x0,S [],I x1,I x2])]:List (Nat × Blk))
def sq1:=fun x0 x1 x2 x3 x4=>(⟨[(6, .ptr 6 0),(7,I x0),(8,I x1)],ji x2 x3 x4⟩:St)
def bq0:=fun x0 x1 x2 x3=>(.box 105 [I x0,S x1,I x2,I x3]:Blk)
theorem O9 (n:Nat) (a0z:List UInt8) (a1at:Int) (a2kind:Int):∀ r,NK n a0z a1at a2kind=some r→Q0 Tryz.prog 76 [S a0z,I a1at,I a2kind] (.ret (.tup [ag (Y1.cs r.1),I r.2.1,I r.2.2])):=by
 refine Qp Tryz.func76 rfl Tryz.ntmps76 rfl ?_
 unfold NK
 refine Qg Qe ⟨[(0,S a0z),(1,I a1at),(2,I a2kind),qq 6],ji 0 0 0⟩ Qa (sS (Qg Qe ⟨[(0,S a0z),(1,I a1at),qq 6,(13,I a2kind)],ji 0 0 0⟩ Qa (sB (Qg Qe ⟨[(0,S a0z),(1,I a1at),qq 6,(13,I a2kind),(14,B (Qs a2kind 3))],ji 0 0 0⟩ Qa (sC (Qs a2kind 3) Qa ?_ ?_)))))
 ·refine sS (sG (xR 2 Qa ?_))
  refine xC [] Qa (Il n a0z a1at) Qa Qa QW (fun r1=>?_)
  exact xR 1 Qa (xE (Qk ⟨[(0,S a0z),(1,I a1at),qq 6,(9,I r1)],ji 0 0 0⟩ Qa (sS (Qg Qe ⟨[(0,S a0z),(1,I a1at),qq 6,(9,I r1),(22,B (QL 12 (wi (r1 - a1at))))],ji 0 0 0⟩ Qa (sC (QL 12 (wi (r1 - a1at))) Qa (Qg Qe (sq1 r1 3 0 0 0) Qa (sT (QY (Q9 (QY (qR (.id) Qa Qa Qa)))))) (sK (Qk ⟨[(0,S a0z),(1,I a1at),qq 6,(9,I r1)],ji 0 0 0⟩ Qa (sS (sG (xR 3 Qa (xF Qa Qa (Cf (l:=a0z) (a:=a1at) (b:=r1) rfl Qa Qa Qa Qa) (xR 6 Qa (xE (Qk ⟨[qq 6,(7,I r1),(8,I 0)],[(6,(bq0 1 (List.drop (Int.toNat a1at) (List.take (Int.toNat r1) a0z)) 0 a1at))]⟩ Qa (sT (Q9 (QY (qR (.id) Qa Qa Qa))))))))))))))))))
 refine Qg Qe ⟨[(0,S a0z),(1,I a1at),qq 6,(13,I a2kind),(32,B (Qs a2kind 4))],ji 0 0 0⟩ Qa (sC (Qs a2kind 4) Qa (sS (sG (xR 2 Qa ?_))) (Qg Qe ⟨[(0,S a0z),(1,I a1at),qq 6,(54,B (Qs a2kind 5))],ji 0 0 0⟩ Qa (sC (Qs a2kind 5) Qa (sS (sG (xR 4 Qa (xF Qa Qa (Cf (l:=a0z) (a:=a1at) (b:=wi (a1at+1)) rfl Qa Qa Qa Qa) (xR 7 Qa (xE (Qk ⟨[qq 6,(7,I (wi (a1at+1))),(8,I 0)],[(6,(bq0 3 (List.drop (Int.toNat a1at) (List.take (Int.toNat (wi (a1at+1))) a0z)) 0 a1at))]⟩ Qa (sT (Q9 (QY (qR (.id) Qa Qa Qa))))))))))) (sK (QT (Qk ⟨[(1,I a1at),qq 6],ji 0 0 0⟩ Qa (Qg Qe (sq1 a1at 7 0 0 0) Qa (sT (qR (.id) Qa Qa Qa)))))))))
 refine xC [] Qa (Io n a0z a1at) Qa Qa QW (fun r2=>?_)
 refine xR 1 Qa (xE (Qk ⟨[(0,S a0z),(1,I a1at),qq 6,(10,I r2)],ji 0 0 0⟩ Qa (sS (sG (xR 3 Qa (xF Qa Qa (Cf (l:=a0z) (a:=a1at) (b:=r2) rfl Qa Qa Qa Qa) ?_))))))
 refine xC [] Qa (O8 n (List.drop (Int.toNat a1at) (List.take (Int.toNat r2) a0z))) Qa Qa QW (fun r3=>?_)
 exact xR 5 Qa (xE (Qk ⟨[(1,I a1at),qq 6,(10,I r2),(11,I r3.1),(12,I r3.2)],ji 0 0 0⟩ Qa (sS (Qg Qe ⟨[(1,I a1at),qq 6,(10,I r2),(11,I r3.1),(12,I r3.2),(46,B (!Qs r3.2 0))],ji 0 0 0⟩ Qa (sC (!Qs r3.2 0) Qa (Qg Qe (sq1 r2 r3.2 0 0 0) Qa (sT (QY (Q9 (QY (qR (.id) Qa Qa Qa)))))) (sK (Qk ⟨[(1,I a1at),qq 6,(10,I r2),(11,I r3.1)],ji 0 0 0⟩ Qa (Qg Qe (sq1 r2 0 2 r3.1 a1at) Qa (sT (Q9 (QY (qR (.id) Qa Qa Qa))))))))))))
def CF (n:Nat) (a0z:List UInt8) (recl1:((List Y1) × Int)→Option ((List Y1) × Int × Int)) (l1_1:List Y1) (l1_2:Int):Option ((List Y1) × Int × Int) :=
 cond (QL l1_2 (Qc a0z))
  ((Zc a0z l1_2).bind fun x2 =>
  (Cm n (YY x2)).bind fun r3 =>
  cond (Qs r3 1)
   ((Ak n a0z l1_2).bind fun r4 =>
   recl1 (l1_1,r4))
   (cond (Qs r3 2)
    ((Cn n a0z l1_2).bind fun r5 =>
    recl1 (l1_1,r5))
    (cond (Qs (Qc (List.map Y1.cs l1_1)) 2000)
     (some ([],2,l1_2))
     ((NK n a0z l1_2 r3).bind fun r6 =>
     cond (!Qs r6.2.2 0)
      (some ([],r6.2.2,l1_2))
      (cond (ZB (List.length (l1_1++[r6.1])) 40) (
       recl1 (l1_1++[r6.1],r6.2.1)) none)))))
  (some (l1_1,0,0))
def qa (n:Nat) (a0z:List UInt8):Option ((List Y1) × Int × Int) :=
 cond (QL 8000 (Qc a0z))
  (some ([],2,0))
  (Q4 (fun recl1 (l1_1,l1_2)=>CF n a0z recl1 l1_1 l1_2) n ([],0))
def tq4:=fun x0 x1=>([(2, .p (.val (.slice none 0 0))),(3,I x0),(4,I x1)]:List (Nat × AV))
def tq5:=fun x0=>([(0,S x0),(5, .p (.val (.slice none 0 0))),(6, .p (.val (.func (.func 72) #[] #[]))),(7,I 0)]:List (Nat × AV))
def tq6:=fun x0 x1 x2=>([(0,S x0),(5, .tsl 4 (List.map Y1.cs x1) 54),(6, .p (.val (.func (.func 72) #[] #[]))),(7,I x2)]:List (Nat × AV))
def bq1:=fun x0=>(.arr 105 4 (List.map Y1.cs x0).length:Blk)
def Dt:=fun x0=>([(54,(bq1 x0))]:List (Nat × Blk))
def tq7:=fun x0 x1 x2 x3=>([(0,S x0),(5, .tsl 4 (List.map Y1.cs x1) 54),(6, .p (.val (.func (.func 72) #[] #[]))),(7,I x2),(8,I x3)]:List (Nat × AV))
def Lr:=fun x0 x1=>([(9, .box 105 (Kw (Y1.cs x0))),(54,(bq1 x1))]:List (Nat × Blk))
theorem vO (n:Nat) (a0z:List UInt8):∀ r,qa n a0z=some r→Q0 Tryz.prog 42 [S a0z] (.ret (.tup [.p (.sl 4 (GH r.1)),I r.2.1,I r.2.2])):=by
 refine Qp Tryz.func42 rfl Tryz.ntmps42 rfl ?_
 unfold qa
 refine Qg Qe ⟨[(0,S a0z)],[]⟩ Qa (xJ (sS (Qg Qe ⟨[(0,S a0z),(14,B (QL 8000 (Qc a0z)))],[]⟩ Qa (sC (QL 8000 (Qc a0z)) Qa (Qg Qe ⟨tq4 2 0,[]⟩ Qa (sT (QY (qR (.agg [.sl 4, .id, .id]) Qa Qa Qa)))) (sK (Qk ⟨[(0,S a0z)],[]⟩ Qa (Qg Qe ⟨[(0,S a0z),(5,zS)],[]⟩ Qa (Qg Qe ⟨[(0,S a0z),(5,zS),(6, .p (.val (.func (.func 72) #[] #[])))],[]⟩ Qa (Qg Qe ⟨tq5 a0z,[]⟩ Qa (sS (xI (Qk ⟨tq5 a0z,[]⟩ Qa (sS (sB (M3 ⟨tq5 a0z,[]⟩ Qa (Zq (KZ 105 4 54 [5] [] Qa) (Qw (fun (l1_1,l1_2)=>⟨tq6 a0z l1_1 l1_2,Dt l1_1⟩:((List Y1) × Int)→St) (Wq Qa) ?_)))))))))))))))))
 rintro recl1 ⟨l1_1,l1_2⟩
 show QU (CF n a0z recl1 l1_1 l1_2) _ _ _ _ _ _
 unfold CF
 refine sS (Qg Qe ⟨[(0,S a0z),(5, .tsl 4 (GH l1_1) 54),(6, .p (.val (.func (.func 72) #[] #[]))),(7,I l1_2),(18,B (QL l1_2 (Qc a0z)))],Dt l1_1⟩ Qa (sC (QL l1_2 (Qc a0z)) Qa (sK (Qk ⟨tq6 a0z l1_1 l1_2,Dt l1_1⟩ Qa (sB (sS (sG (xR 2 Qa (xG Qa Qa (WR (l:=a0z) (k:=.i64) (n:=l1_2) rfl Qa Qa Qa) (fun x2=>?_)))))))) (Qm (Zu (ZP (QG (Qk ⟨[(5, .tsl 4 (GH l1_1) 54)],Dt l1_1⟩ Qa (Qg Qe ⟨[(2, .tsl 4 (GH l1_1) 54),(3,I 0),(4,I 0)],Dt l1_1⟩ Qa (sT (qR (.agg [.sl 4, .id, .id]) Qa Qa Qa))))))))))
 refine xC [] Qa (Ij n (YY x2)) Qa Qa QW (fun r3=>?_)
 refine xR 1 Qa (xE (Qk ⟨tq7 a0z l1_1 l1_2 r3,Dt l1_1⟩ Qa (sS (Qg Qe ⟨[(0,S a0z),(5, .tsl 4 (GH l1_1) 54),(6, .p (.val (.func (.func 72) #[] #[]))),(7,I l1_2),(8,I r3),(23,I r3)],Dt l1_1⟩ Qa (sB (Qg Qe ⟨[(0,S a0z),(5, .tsl 4 (GH l1_1) 54),(6, .p (.val (.func (.func 72) #[] #[]))),(7,I l1_2),(8,I r3),(23,I r3),(24,B (Qs r3 1))],Dt l1_1⟩ Qa (sC (Qs r3 1) Qa ?_ ?_)))))))
 ·refine sS (sG (xR 2 Qa ?_))
  refine xC [] Qa (kJ n a0z l1_2) Qa Qa QW (fun r4=>?_)
  exact xR 1 Qa (xE (Qk ⟨tq6 a0z l1_1 r4,Dt l1_1⟩ Qa (Qm (Ee rfl (Zu (QG (Ky (l1_1,r4) Qa)))))))
 refine Qg Qe ⟨[(0,S a0z),(5, .tsl 4 (GH l1_1) 54),(6, .p (.val (.func (.func 72) #[] #[]))),(7,I l1_2),(8,I r3),(29,B (Qs r3 2))],Dt l1_1⟩ Qa (sC (Qs r3 2) Qa ?_ ?_)
 ·refine sS (sG (xR 3 Qa ?_))
  refine xC [] Qa (Ik n a0z l1_2) Qa Qa QW (fun r5=>?_)
  exact xR 1 Qa (xE (Qk ⟨tq6 a0z l1_1 r5,Dt l1_1⟩ Qa (Qm (Ee rfl (Zu (QG (Ky (l1_1,r5) Qa)))))))
 refine sK (QT (Qk ⟨tq7 a0z l1_1 l1_2 r3,Dt l1_1⟩ Qa (sS (Qg Qe ⟨[(0,S a0z),(5, .tsl 4 (GH l1_1) 54),(6, .p (.val (.func (.func 72) #[] #[]))),(7,I l1_2),(8,I r3),(37,B (Qs (Qc (GH l1_1)) 2000))],Dt l1_1⟩ Qa (sC (Qs (Qc (GH l1_1)) 2000) Qa (Qg Qe ⟨tq4 2 l1_2,[]⟩ Qa (sT (QY (Q9 (KC (Q9 (QY (qR (.agg [.sl 4, .id, .id]) Qa Qa Qa)))))))) (sK (Qk ⟨tq7 a0z l1_1 l1_2 r3,Dt l1_1⟩ Qa (sS (sG (xR 3 Qa ?_))))))))))
 refine xC [] Qa (O9 n a0z l1_2 r3) Qa Qa QW (fun r6=>?_)
 exact xR 8 Qa (xE (Qk ⟨[(0,S a0z),(5, .tsl 4 (GH l1_1) 54),(6, .p (.val (.func (.func 72) #[] #[]))),(7,I l1_2),qq 9,(10,I r6.2.1),(11,I r6.2.2)],Lr r6.1 l1_1⟩ Qa (sS (Qg Qe ⟨[(0,S a0z),(5, .tsl 4 (GH l1_1) 54),(6, .p (.val (.func (.func 72) #[] #[]))),(7,I l1_2),qq 9,(10,I r6.2.1),(11,I r6.2.2),(48,B (!Qs r6.2.2 0))],Lr r6.1 l1_1⟩ Qa (sC (!Qs r6.2.2 0) Qa (Qg Qe ⟨tq4 r6.2.2 l1_2,[]⟩ Qa (sT (QY (Q9 (KC (Q9 (QY (qR (.agg [.sl 4, .id, .id]) Qa Qa Qa)))))))) (sK (Qk ⟨[(0,S a0z),(5, .tsl 4 (GH l1_1) 54),(6, .p (.val (.func (.func 72) #[] #[]))),qq 9,(10,I r6.2.1)],Lr r6.1 l1_1⟩ Qa (sS (sG (xR 3 Qa (xF Qa Qa (ZM (e:=105) (S:=4) (by_:=40) (enc:=Y1.cs) (tk:=54) (l:=l1_1) (l2:=[r6.1]) (xv:=.tsl 4 (GH [r6.1]) 53) rfl Qa Qa rfl Qa Qa Qa rfl Qa) (xR 1 Qa (xE (Qk ⟨[(0,S a0z),(5, .tsl 4 (GH (l1_1++[r6.1])) 54),(6, .p (.val (.func (.func 72) #[] #[]))),(10,I r6.2.1)],Dt (l1_1++[r6.1])⟩ Qa (sL Qe Qa (QT (Ky (l1_1++[r6.1],r6.2.1) Qa)))))))))))))))))
def Mj (n:Nat) (a0r:KL):Option Bool :=
 some (leI 20 (Qc (List.map KG.cs a0r.dg)))
theorem PH (n:Nat) (a0r:KL):∀ r,Mj n a0r=some r→Q0 Tryz.prog 77 [.eptr (KL.cs a0r)] (.ret (B r)):=by
 refine Qp Tryz.func77 rfl Tryz.ntmps77 rfl ?_
 unfold Mj
 exact Qg Qe ⟨[(0, .eptr (KL.cs a0r))],[]⟩ Qa (Qg Qe ⟨[(2,B (leI 20 (Qc (Fa a0r.dg))))],[]⟩ Qa (sT (qR (.id) Qa Qa Qa)))
def Gp (n:Nat) (a0r:KL):Option Y1 :=
 cond (QL a0r.pos (Qc (List.map Y1.cs a0r.tks)))
  ((Zc a0r.tks a0r.pos).bind fun x1 =>
  some x1)
  (some (⟨0,[],0,a0r.length⟩:Y1))
def tq8:=fun x0=>([(0,x0),(2, .ptr 2 0)]:List (Nat × AV))
def tH:=fun x0=>([(2, .box 105 [I 0,S [],I 0,I x0])]:List (Nat × Blk))
def hq4:=fun x0=>([(2, .box 105 (Kw (Y1.cs x0)))]:List (Nat × Blk))
theorem UG (n:Nat) (a0r:KL) (h03w:Option Addr) (h03l h03c:Nat):∀ r,Gp n a0r=some r→Q0 Tryz.prog 145 [.eptr [.sl 4 (GH a0r.tks),VI a0r.pos,VI a0r.length, .val (.slice h03w h03l h03c)]] (.ret (ag (Y1.cs r))):=by
 refine Qp Tryz.func145 rfl Tryz.ntmps145 rfl ?_
 unfold Gp
 exact Qg Qe ⟨tq8 (.eptr [.sl 4 (GH a0r.tks),VI a0r.pos,VI a0r.length, .val (.slice h03w h03l h03c)]),tH 0⟩ Qa (sS (Qg Qe ⟨[(0, .eptr [.sl 4 (GH a0r.tks),VI a0r.pos,VI a0r.length, .val (.slice h03w h03l h03c)]),qq 2,(12,B (QL a0r.pos (Qc (GH a0r.tks))))],tH 0⟩ Qa (sC (QL a0r.pos (Qc (GH a0r.tks))) Qa (sS (YK Qe rfl (xR 8 Qa (xG Qa Qa (QC (e:=105) (S:=4) (enc:=Y1.cs) (l:=a0r.tks) (k:=.i64) (n:=a0r.pos) (sv:=.p (.sl 4 (GH a0r.tks))) rfl Qa Qa Qa Qa Qa) (fun x1=>xR 2 Qa (Yh Qa (Qk ⟨[qq 2],hq4 x1⟩ Qa (sT (QY (qR (.id) Qa Qa Qa)))))))))) (sK (Qk ⟨tq8 (.eptr [.sl 4 (GH a0r.tks),VI a0r.pos,VI a0r.length, .val (.slice h03w h03l h03c)]),tH 0⟩ Qa (Qg Qe ⟨[qq 2],tH a0r.length⟩ Qa (sT (qR (.id) Qa Qa Qa))))))))
def Uc (n:Nat) (a0w:List UInt8):Option Int :=
 cond (Q8 a0w [102,101,101,100,101,114])
  (some 1)
  (cond (Q8 a0w [99,97,98,108,101])
   (some 2)
   (cond (Q8 a0w [111,119,110,101,114])
    (some 3)
    (cond (Q8 a0w [99,111,110,116,114,97,99,116])
     (some 4)
     (cond (Q8 a0w [99,104,97,114,103,101,114])
      (some 5)
      (cond (Q8 a0w [98,97,121])
       (some 6)
       (cond (Q8 a0w [116,97,114,105,102,102])
        (some 7)
        (some 0)))))))
def tq9:=fun x0 x1=>([(3,S x0),(4,B x1)]:List (Nat × AV))
def Al:=fun x0 x1=>(⟨tq9 x0 x1,[]⟩:St)
theorem FB (n:Nat) (a0w:List UInt8):∀ r,Uc n a0w=some r→Q0 Tryz.prog 121 [S a0w] (.ret (I r)):=by
 refine Qp Tryz.func121 rfl Tryz.ntmps121 rfl ?_
 unfold Uc
 exact Qg Qe ⟨[(0,S a0w)],[]⟩ Qa (sS (Qg Qe ⟨[(3,S a0w)],[]⟩ Qa (sB (Qg Qe (Al a0w (Q8 a0w [102,101,101,100,101,114])) Qa (sC (Q8 a0w [102,101,101,100,101,114]) Qa (Qg Qe ⟨[(2,I 1)],[]⟩ Qa (sT (Q9 (QY (qR (.id) Qa Qa Qa))))) (Qg Qe ⟨[(3,S a0w),(6,B (Q8 a0w [99,97,98,108,101]))],[]⟩ Qa (sC (Q8 a0w [99,97,98,108,101]) Qa (Qg Qe ⟨[(2,I 2)],[]⟩ Qa (sT (Q9 (QY (qR (.id) Qa Qa Qa))))) (Qg Qe ⟨[(3,S a0w),(8,B (Q8 a0w [111,119,110,101,114]))],[]⟩ Qa (sC (Q8 a0w [111,119,110,101,114]) Qa (Qg Qe ⟨[(2,I 3)],[]⟩ Qa (sT (Q9 (QY (qR (.id) Qa Qa Qa))))) (Qg Qe ⟨[(3,S a0w),(10,B (Q8 a0w [99,111,110,116,114,97,99,116]))],[]⟩ Qa (sC (Q8 a0w [99,111,110,116,114,97,99,116]) Qa (Qg Qe ⟨[(2,I 4)],[]⟩ Qa (sT (Q9 (QY (qR (.id) Qa Qa Qa))))) (Qg Qe ⟨[(3,S a0w),(12,B (Q8 a0w [99,104,97,114,103,101,114]))],[]⟩ Qa (sC (Q8 a0w [99,104,97,114,103,101,114]) Qa (Qg Qe ⟨[(2,I 5)],[]⟩ Qa (sT (Q9 (QY (qR (.id) Qa Qa Qa))))) (Qg Qe ⟨[(3,S a0w),(14,B (Q8 a0w [98,97,121]))],[]⟩ Qa (sC (Q8 a0w [98,97,121]) Qa (Qg Qe ⟨[(2,I 6)],[]⟩ Qa (sT (Q9 (QY (qR (.id) Qa Qa Qa))))) (Qg Qe ⟨[(16,B (Q8 a0w [116,97,114,105,102,102]))],[]⟩ Qa (sC (Q8 a0w [116,97,114,105,102,102]) Qa (Qg Qe ⟨[(2,I 7)],[]⟩ Qa (sT (Q9 (QY (qR (.id) Qa Qa Qa))))) (sK (QT (Qk ⟨[],[]⟩ Qa (Qg Qe ⟨[(2,I 0)],[]⟩ Qa (sT (qR (.id) Qa Qa Qa)))))))))))))))))))))))
def CG (n:Nat) (a0text:List UInt8):Option Bool :=
 (Uc n a0text).bind fun r1 =>
 some (!Qs r1 0)
theorem Ip (n:Nat) (a0text:List UInt8):∀ r,CG n a0text=some r→Q0 Tryz.prog 120 [S a0text] (.ret (B r)):=by
 refine Qp Tryz.func120 rfl Tryz.ntmps120 rfl ?_
 unfold CG
 refine Qg Qe ⟨[(0,S a0text)],[]⟩ Qa (sS (sG (xR 1 Qa ?_)))
 refine xC [] Qa (FB n a0text) Qa Qa QW (fun r1=>?_)
 exact xR 2 Qa (xE (Qk ⟨[(2,B (!Qs r1 0))],[]⟩ Qa (sT (qR (.id) Qa Qa Qa))))
def Mo (n:Nat) (a0r:KL):Option (Except Int Unit) :=
 (Gp n (⟨a0r.tks,a0r.pos,a0r.length,[]⟩:KL)).bind fun r1 =>
 some (.error r1.At)
theorem PI (n:Nat) (a0r:KL) (h03w:Option Addr) (h03l h03c:Nat):∀ r,Mo n a0r=some r→Q0 Tryz.prog 146 [.eptr [.sl 4 (GH a0r.tks),VI a0r.pos,VI a0r.length, .val (.slice h03w h03l h03c)]] (vg (fun r:Unit=>(.tup []:AV)) (fun e:Int=>(.ifc 176 (.agg [I e]):AV)) r):=by
 refine Qp Tryz.func146 rfl Tryz.ntmps146 rfl ?_
 unfold Mo
 refine sG (xR 1 Qa ?_)
 refine xC [] Qa (UG n (⟨a0r.tks,a0r.pos,a0r.length,[]⟩:KL) h03w h03l h03c) Qa Qa QW (fun r1=>?_)
 exact xR 3 Qa (X8 176 (.agg [I r1.At]) Qa rfl Qa (zQ Qa Qa))
def J9 (n:Nat) (a0w:List UInt8):Option Bool :=
 (cond (Q8 a0w [108,105,109,105,116])
  (some (Q8 a0w [108,105,109,105,116]))
  (cond (Q8 a0w [110,101,117,116,114,97,108])
   (some (Q8 a0w [110,101,117,116,114,97,108]))
   (cond (Q8 a0w [102,117,115,101])
    (some (Q8 a0w [102,117,115,101]))
    (cond (Q8 a0w [116,104,101,114,109,97,108])
     (some (Q8 a0w [116,104,101,114,109,97,108]))
     (cond (Q8 a0w [102,114,111,109])
      (some (Q8 a0w [102,114,111,109]))
      (cond (Q8 a0w [97,116])
       (some (Q8 a0w [97,116]))
       (cond (Q8 a0w [112,104,97,115,101,115])
        (some (Q8 a0w [112,104,97,115,101,115]))
        (cond (Q8 a0w [97,109,112,115])
         (some (Q8 a0w [97,109,112,115]))
         (cond (Q8 a0w [102,97,108,108,98,97,99,107])
          (some (Q8 a0w [102,97,108,108,98,97,99,107]))
          (cond (Q8 a0w [111,119,110,101,114])
           (some (Q8 a0w [111,119,110,101,114]))
           (cond (Q8 a0w [99,97,114,100])
            (some (Q8 a0w [99,97,114,100]))
            (cond (Q8 a0w [114,97,110,107])
             (some (Q8 a0w [114,97,110,107]))
             (some (Q8 a0w [99,104,97,114,103,101,114])))))))))))))).bind fun j1 =>
 cond j1
  (some true)
  (some false)
theorem Un (n:Nat) (a0w:List UInt8):∀ r,J9 n a0w=some r→Q0 Tryz.prog 150 [S a0w] (.ret (B r)):=by
 refine Qp Tryz.func150 rfl Tryz.ntmps150 rfl ?_
 unfold J9
 refine Qg Qe ⟨[(0,S a0w)],[]⟩ Qa (sS (Qg Qe ⟨[(3,S a0w)],[]⟩ Qa (sB (KM (fun j1=>⟨[(4,B j1)],[]⟩:Bool→St) ?_ ?_))))
 rotate_left
 ·rintro j1
  exact sC j1 Qa (Qg Qe ⟨[(2,B true)],[]⟩ Qa (sT (Q9 (QY (qR (.id) Qa Qa Qa))))) (sK (QT (Qk ⟨[],[]⟩ Qa (Qg Qe ⟨[(2,B false)],[]⟩ Qa (sT (qR (.id) Qa Qa Qa))))))
 exact Qg Qe (Al a0w (Q8 a0w [108,105,109,105,116])) Qa (sC (Q8 a0w [108,105,109,105,116]) Qa (sK (QV (Q8 a0w [108,105,109,105,116]) Qa)) (Qg Qe (Al a0w (Q8 a0w [110,101,117,116,114,97,108])) Qa (sC (Q8 a0w [110,101,117,116,114,97,108]) Qa (sK (QV (Q8 a0w [110,101,117,116,114,97,108]) Qa)) (Qg Qe (Al a0w (Q8 a0w [102,117,115,101])) Qa (sC (Q8 a0w [102,117,115,101]) Qa (sK (QV (Q8 a0w [102,117,115,101]) Qa)) (Qg Qe (Al a0w (Q8 a0w [116,104,101,114,109,97,108])) Qa (sC (Q8 a0w [116,104,101,114,109,97,108]) Qa (sK (QV (Q8 a0w [116,104,101,114,109,97,108]) Qa)) (Qg Qe (Al a0w (Q8 a0w [102,114,111,109])) Qa (sC (Q8 a0w [102,114,111,109]) Qa (sK (QV (Q8 a0w [102,114,111,109]) Qa)) (Qg Qe ⟨tq9 a0w (Q8 a0w [97,116]),[]⟩ Qa (sC (Q8 a0w [97,116]) Qa (sK (QV (Q8 a0w [97,116]) Qa)) (Qg Qe (Al a0w (Q8 a0w [112,104,97,115,101,115])) Qa (sC (Q8 a0w [112,104,97,115,101,115]) Qa (sK (QV (Q8 a0w [112,104,97,115,101,115]) Qa)) (Qg Qe (Al a0w (Q8 a0w [97,109,112,115])) Qa (sC (Q8 a0w [97,109,112,115]) Qa (sK (QV (Q8 a0w [97,109,112,115]) Qa)) (Qg Qe (Al a0w (Q8 a0w [102,97,108,108,98,97,99,107])) Qa (sC (Q8 a0w [102,97,108,108,98,97,99,107]) Qa (sK (QV (Q8 a0w [102,97,108,108,98,97,99,107]) Qa)) (Qg Qe (Al a0w (Q8 a0w [111,119,110,101,114])) Qa (sC (Q8 a0w [111,119,110,101,114]) Qa (sK (QV (Q8 a0w [111,119,110,101,114]) Qa)) (Qg Qe (Al a0w (Q8 a0w [99,97,114,100])) Qa (sC (Q8 a0w [99,97,114,100]) Qa (sK (QV (Q8 a0w [99,97,114,100]) Qa)) (Qg Qe (Al a0w (Q8 a0w [114,97,110,107])) Qa (sC (Q8 a0w [114,97,110,107]) Qa (sK (QV (Q8 a0w [114,97,110,107]) Qa)) (sL Qe Qa (QV (Q8 a0w [99,104,97,114,103,101,114]) Qa)))))))))))))))))))))))))
def Ws (n:Nat) (a0w:List UInt8):Option Bool :=
 (cond (Q8 a0w [115,116,97,114,116])
  (some (Q8 a0w [115,116,97,114,116]))
  (cond (Q8 a0w [101,110,101,114,103,121])
   (some (Q8 a0w [101,110,101,114,103,121]))
   (cond (Q8 a0w [116,105,109,101])
    (some (Q8 a0w [116,105,109,101]))
    (cond (Q8 a0w [105,100,108,101])
     (some (Q8 a0w [105,100,108,101]))
     (cond (Q8 a0w [99,97,112])
      (some (Q8 a0w [99,97,112]))
      (some (Q8 a0w [116,97,120]))))))).bind fun j1 =>
 cond j1
  (some true)
  (some false)
theorem Ud (n:Nat) (a0w:List UInt8):∀ r,Ws n a0w=some r→Q0 Tryz.prog 156 [S a0w] (.ret (B r)):=by
 refine Qp Tryz.func156 rfl Tryz.ntmps156 rfl ?_
 unfold Ws
 refine Qg Qe ⟨[(0,S a0w)],[]⟩ Qa (sS (Qg Qe ⟨[(3,S a0w)],[]⟩ Qa (sB (KM (fun j1=>⟨[(4,B j1)],[]⟩:Bool→St) ?_ ?_))))
 rotate_left
 ·rintro j1
  exact sC j1 Qa (Qg Qe ⟨[(2,B true)],[]⟩ Qa (sT (Q9 (QY (qR (.id) Qa Qa Qa))))) (sK (QT (Qk ⟨[],[]⟩ Qa (Qg Qe ⟨[(2,B false)],[]⟩ Qa (sT (qR (.id) Qa Qa Qa))))))
 exact Qg Qe (Al a0w (Q8 a0w [115,116,97,114,116])) Qa (sC (Q8 a0w [115,116,97,114,116]) Qa (sK (QV (Q8 a0w [115,116,97,114,116]) Qa)) (Qg Qe (Al a0w (Q8 a0w [101,110,101,114,103,121])) Qa (sC (Q8 a0w [101,110,101,114,103,121]) Qa (sK (QV (Q8 a0w [101,110,101,114,103,121]) Qa)) (Qg Qe (Al a0w (Q8 a0w [116,105,109,101])) Qa (sC (Q8 a0w [116,105,109,101]) Qa (sK (QV (Q8 a0w [116,105,109,101]) Qa)) (Qg Qe (Al a0w (Q8 a0w [105,100,108,101])) Qa (sC (Q8 a0w [105,100,108,101]) Qa (sK (QV (Q8 a0w [105,100,108,101]) Qa)) (Qg Qe (Al a0w (Q8 a0w [99,97,112])) Qa (sC (Q8 a0w [99,97,112]) Qa (sK (QV (Q8 a0w [99,97,112]) Qa)) (sL Qe Qa (QV (Q8 a0w [116,97,120]) Qa)))))))))))
def Ue (n:Nat) (a0w:List UInt8):Option Bool :=
 (cond (Q8 a0w [111,110])
  (some (Q8 a0w [111,110]))
  (cond (Q8 a0w [119,111,114,107])
   (some (Q8 a0w [119,111,114,107]))
   (cond (Q8 a0w [115,97,116,117,114,100,97,121])
    (some (Q8 a0w [115,97,116,117,114,100,97,121]))
    (cond (Q8 a0w [115,117,110,100,97,121])
     (some (Q8 a0w [115,117,110,100,97,121]))
     (cond (Q8 a0w [98,101,116,119,101,101,110])
      (some (Q8 a0w [98,101,116,119,101,101,110]))
      (cond (Q8 a0w [112,101,114])
       (some (Q8 a0w [112,101,114]))
       (some (Q8 a0w [102,114,101,101])))))))).bind fun j1 =>
 cond j1
  (some true)
  (some false)
theorem FC (n:Nat) (a0w:List UInt8):∀ r,Ue n a0w=some r→Q0 Tryz.prog 159 [S a0w] (.ret (B r)):=by
 refine Qp Tryz.func159 rfl Tryz.ntmps159 rfl ?_
 unfold Ue
 refine Qg Qe ⟨[(0,S a0w)],[]⟩ Qa (sS (Qg Qe ⟨[(3,S a0w)],[]⟩ Qa (sB (KM (fun j1=>⟨[(4,B j1)],[]⟩:Bool→St) ?_ ?_))))
 rotate_left
 ·rintro j1
  exact sC j1 Qa (Qg Qe ⟨[(2,B true)],[]⟩ Qa (sT (Q9 (QY (qR (.id) Qa Qa Qa))))) (sK (QT (Qk ⟨[],[]⟩ Qa (Qg Qe ⟨[(2,B false)],[]⟩ Qa (sT (qR (.id) Qa Qa Qa))))))
 exact Qg Qe (Al a0w (Q8 a0w [111,110])) Qa (sC (Q8 a0w [111,110]) Qa (sK (QV (Q8 a0w [111,110]) Qa)) (Qg Qe (Al a0w (Q8 a0w [119,111,114,107])) Qa (sC (Q8 a0w [119,111,114,107]) Qa (sK (QV (Q8 a0w [119,111,114,107]) Qa)) (Qg Qe (Al a0w (Q8 a0w [115,97,116,117,114,100,97,121])) Qa (sC (Q8 a0w [115,97,116,117,114,100,97,121]) Qa (sK (QV (Q8 a0w [115,97,116,117,114,100,97,121]) Qa)) (Qg Qe (Al a0w (Q8 a0w [115,117,110,100,97,121])) Qa (sC (Q8 a0w [115,117,110,100,97,121]) Qa (sK (QV (Q8 a0w [115,117,110,100,97,121]) Qa)) (Qg Qe (Al a0w (Q8 a0w [98,101,116,119,101,101,110])) Qa (sC (Q8 a0w [98,101,116,119,101,101,110]) Qa (sK (QV (Q8 a0w [98,101,116,119,101,101,110]) Qa)) (Qg Qe (Al a0w (Q8 a0w [112,101,114])) Qa (sC (Q8 a0w [112,101,114]) Qa (sK (QV (Q8 a0w [112,101,114]) Qa)) (sL Qe Qa (QV (Q8 a0w [102,114,101,101]) Qa)))))))))))))
def Ht (n:Nat) (a0w:List UInt8):Option Bool :=
 (Uc n a0w).bind fun r1 =>
 cond (!Qs r1 0)
  (some true)
  ((J9 n a0w).bind fun r3 =>
  cond r3
   (some true)
   ((Ws n a0w).bind fun r5 =>
   cond r5
    (some true)
    ((Ue n a0w).bind fun r7 =>
    some r7)))
theorem Mq (n:Nat) (a0w:List UInt8):∀ r,Ht n a0w=some r→Q0 Tryz.prog 148 [S a0w] (.ret (B r)):=by
 refine Qp Tryz.func148 rfl Tryz.ntmps148 rfl ?_
 unfold Ht
 refine Qg Qe ⟨[(0,S a0w)],[]⟩ Qa (sS (sG (xR 1 Qa ?_)))
 refine xC [] Qa (FB n a0w) Qa Qa QW (fun r1=>?_)
 refine xR 2 Qa (xS (!Qs r1 0) (fun h2=>xN (QB Qa h2) Qa (xR 11 Qa (xE (Qk ⟨[(2,B true)],[]⟩ Qa (sT (qR (.id) Qa Qa Qa)))))) (fun h2=>xO (QA Qa h2) Qa ?_))
 refine xC [] Qa (Un n a0w) Qa Qa QW (fun r3=>?_)
 refine xR 2 Qa (xS r3 (fun h4=>xN (QB Qa h4) Qa (xR 7 Qa (xE (Qk ⟨[(2,B true)],[]⟩ Qa (sT (qR (.id) Qa Qa Qa)))))) (fun h4=>xO (QA Qa h4) Qa ?_))
 refine xC [] Qa (Ud n a0w) Qa Qa QW (fun r5=>?_)
 refine xR 2 Qa (xS r5 (fun h6=>xN (QB Qa h6) Qa (xR 3 Qa (xE (Qk ⟨[(2,B true)],[]⟩ Qa (sT (qR (.id) Qa Qa Qa)))))) (fun h6=>xO (QA Qa h6) Qa ?_))
 refine xC [] Qa (FC n a0w) Qa Qa QW (fun r7=>?_)
 exact xR 2 Qa (xE (Qk ⟨[(2,B r7)],[]⟩ Qa (sT (qR (.id) Qa Qa Qa))))
def Gq (n:Nat) (a0text:List UInt8):Option Bool :=
 (Ht n a0text).bind fun r1 =>
 some (!r1)
theorem FD (n:Nat) (a0text:List UInt8):∀ r,Gq n a0text=some r→Q0 Tryz.prog 122 [S a0text] (.ret (B r)):=by
 refine Qp Tryz.func122 rfl Tryz.ntmps122 rfl ?_
 unfold Gq
 refine Qg Qe ⟨[(0,S a0text)],[]⟩ Qa (sS (sG (xR 1 Qa ?_)))
 refine xC [] Qa (Mq n a0text) Qa Qa QW (fun r1=>?_)
 exact xR 2 Qa (xE (Qk ⟨[(2,B (!r1))],[]⟩ Qa (sT (qR (.id) Qa Qa Qa))))
def FE (n:Nat) (a0r:KL) (recl1:((List (List PV)) × Int)→Option ((List (List PV)) × KL)) (l1_1:List (List PV)) (l1_2:Int):Option ((List (List PV)) × KL) :=
 (Gp n (⟨a0r.tks,l1_2,a0r.length,[]⟩:KL)).bind fun r2 =>
 cond (Qs r2.Kind 2)
  ((some ()).bind fun _ =>
  cond (ZB (List.length (l1_1++[GN.cs (⟨6,[],r2.N,r2.At,[]⟩:GN)])) 64) (
   recl1 (l1_1++[GN.cs (⟨6,[],r2.N,r2.At,[]⟩:GN)],wi (l1_2+1))) none)
  ((cond (Qs r2.Kind 1)
   ((Gq n r2.Text).bind fun r6 =>
   some r6)
   (some false)).bind fun j4 =>
  cond j4
   ((some ()).bind fun _ =>
   cond (ZB (List.length (l1_1++[GN.cs (⟨5,r2.Text,0,r2.At,[]⟩:GN)])) 64) (
    recl1 (l1_1++[GN.cs (⟨5,r2.Text,0,r2.At,[]⟩:GN)],wi (l1_2+1))) none)
   (some (l1_1,(⟨a0r.tks,l1_2,a0r.length,[]⟩:KL))))
def LY (n:Nat) (a0r:KL):Option ((List (List PV)) × KL) :=
 Q4 (fun recl1 (l1_1,l1_2)=>FE n a0r recl1 l1_1 l1_2) n ([],a0r.pos)
def bq2:=fun x0 x1 x2 x3=>(.box 102 [.p (.sl 4 (List.map Y1.cs x0)),I x1,I x2, .p (.val x3)]:Blk)
def RB:=fun x0 x1 x2 x3=>([(1000,(bq2 x0 x1 x2 x3))]:List (Nat × Blk))
def dD:=fun x0=>([(0, .ptr 1000 0),(1, .p (.val x0)),(5, .p (.val (.slice none 0 0)))]:List (Nat × AV))
def au:=fun x0 x1=>([(0, .ptr 1000 0),(1, .p (.val x0)),(5, .tsl 5 (List.map YC x1) 300)]:List (Nat × AV))
def DL:=fun x0=>([(300, .arr 61 5 (List.map YC x0).length)]:List (Nat × Blk))
def QaN:=fun x0 x1=>([(0, .ptr 1000 0),(1, .p (.val x0)),(5, .tsl 5 (List.map YC x1) 300),(6, .ptr 6 0)]:List (Nat × AV))
def iY:=fun x0=>([(6, .box 105 (Kw (Y1.cs x0)))]:List (Nat × Blk))
def QaO:=fun x0 x1 x2=>([(0, .ptr 1000 0),(1, .p (.val x0)),(5, .tsl 5 (List.map YC x1) 300),(6, .ptr 6 0),(10,B x2)]:List (Nat × AV))
def dE:=fun x0 x1 x2=>([(1,I x0),(2,S x1),(3,I x2),(4, .p (.val (.slice none 0 0))),(5, .ptr 5 0),(10, .ptr 10 0)]:List (Nat × AV))
def RH:=fun x0 x1 x2 x3=>(.box 61 [I x0,S x1,I x2,I x3, .p (.val (.slice none 0 0))]:Blk)
def av:=fun x0=>([(5, .box 105 (Kw (Y1.cs x0))),(10,(RH 0 [] 0 0))]:List (Nat × Blk))
def dF:List (Nat × AV):=[(4, .p (.val (.slice none 0 0))),(10, .ptr 10 0),(11, .ptr 11 0)]
def CJ:=fun x0 x1 x2 x3=>([(10,(RH 0 [] 0 0)),(11,(RH x0 x1 x2 x3))]:List (Nat × Blk))
def sq3:=fun x0 x1 x2 x3=>(⟨[(10, .ptr 10 0),(11, .ptr 11 0)],CJ x0 x1 x2 x3⟩:St)
def dG:List (Nat × AV):=[(10, .ptr 10 0),(11, .ptr 11 0),(20, .p (.val (.slice none 0 0))),(21,I 0),(22,I 0)]
def dH:List (Nat × AV):=[(10, .ptr 10 0),(11, .ptr 11 0),(20, .p (.val (.slice none 0 0))),(21,I 0),(22,I 0),(23,B false)]
def sq4:=fun x0 x1 x2 x3=>(⟨[(10, .ptr 10 0)],[(10,(RH x0 x1 x2 x3))]⟩:St)
def bq4:=fun x0=>(.arr 61 5 (List.map YC x0).length:Blk)
def FH:=fun x0=>([(300,(bq4 x0))]:List (Nat × Blk))
def sq5:=fun x0 x1 x2 x3 x4 x5=>(⟨au x0 x1,FH x1++RB x2 x3 x4 x5⟩:St)
def QaP:=fun x0 x1 x2=>([(0, .ptr 1000 0),(1, .p (.val x0)),(5, .tsl 5 (List.map YC x1) 300),(6, .ptr 6 0),(21,B x2)]:List (Nat × AV))
theorem DN (n:Nat) (a0r:KL) (h03w:Option Addr) (h03l h03c:Nat):∀ r,LY n a0r=some r→Wz Tryz.prog 152 [Ka, .p (.val (.func (.func 122) #[] #[]))] (Go.Abs.look [(1000, .box 102 [.p (.sl 4 (GH a0r.tks)),I a0r.pos,I a0r.length,hS h03w h03l h03c])]) (Xw (fun r:(List (List PV)) × KL=>((.ret (.p (.sl 5 (mI r.1))),[(1000, .box 102 [.p (.sl 4 (GH r.2.tks)),I r.2.pos,I r.2.length,hS h03w h03l h03c])]):Z0 × List (Nat × Blk))) r):=by
 refine Y2 (RB a0r.tks a0r.pos a0r.length (.slice h03w h03l h03c)) Tryz.func152 rfl Tryz.ntmps152 rfl ?_
 unfold LY
 refine Qg Qe ⟨[(0,Ka),(1, .p (.val (.func (.func 122) #[] #[])))],RB a0r.tks a0r.pos a0r.length (.slice h03w h03l h03c)⟩ Qa (Qg Qe ⟨dD (.func (.func 122) #[] #[]),RB a0r.tks a0r.pos a0r.length (.slice h03w h03l h03c)⟩ Qa (sB (M3 ⟨dD (.func (.func 122) #[] #[]),RB a0r.tks a0r.pos a0r.length (.slice h03w h03l h03c)⟩ Qa (Zq (KZ 61 5 300 [5] [] Qa) (Qw (fun (l1_1,l1_2)=>⟨au (.func (.func 122) #[] #[]) l1_1,DL l1_1++RB a0r.tks l1_2 a0r.length (.slice h03w h03l h03c)⟩:((List (List PV)) × Int)→St) (Wq Qa) ?_)))))
 rintro recl1 ⟨l1_1,l1_2⟩
 show QU (FE n a0r recl1 l1_1 l1_2) _ _ _ _ _ _
 unfold FE
 refine sB (sS (sG (xR 1 Qa ?_)))
 refine Gh [.ro []] Qa (UG n (⟨a0r.tks,l1_2,a0r.length,[]⟩:KL) h03w h03l h03c) Qa Qa QW (fun r2=>?_)
 refine xR 2 Qa (xE (Qk ⟨QaN (.func (.func 122) #[] #[]) l1_1,iY r2++DL l1_1++RB a0r.tks l1_2 a0r.length (.slice h03w h03l h03c)⟩ Qa (sS (sB (Qg Qe ⟨QaO (.func (.func 122) #[] #[]) l1_1 (Qs r2.Kind 2),iY r2++DL l1_1++RB a0r.tks l1_2 a0r.length (.slice h03w h03l h03c)⟩ Qa (sC (Qs r2.Kind 2) Qa ?_ ?_))))))
 ·refine sG (xR 4 Qa (Yr [] [.agg [I r2.Kind,S r2.Text,I r2.N,I r2.At],I 6,S [],I r2.N,zS] [] [] [] Qa Tryz.func43 rfl Tryz.ntmps43 rfl Qa Qa Qa (Qg Qe ⟨dE 6 [] r2.N,av r2⟩ Qa (Qg Qe ⟨dF,CJ 6 [] r2.N r2.At⟩ Qa (KM (fun _=>(sq3 6 [] r2.N r2.At):Unit→St) (Qg Qe ⟨dG,CJ 6 [] r2.N r2.At⟩ Qa (sB (Yx 0 (Qg Qe ⟨dH,CJ 6 [] r2.N r2.At⟩ Qa (sS (QZ Qa (Qm (Zu (LV (QG (QV () Qa))))))))))) ?_)))))
  rintro _
  exact Qg Qe (sq4 6 [] r2.N r2.At) Qa (sT (QN (.agg [.id, .id, .id, .id, .sl 5]) [] [] (.agg [I 6,S [],I r2.N,I r2.At, .p (.sl 5 (mI []))]) Qa Qa (Yq (xR 1 Qa (xF Qa Qa (ZM (e:=61) (S:=5) (by_:=64) (enc:=YC) (tk:=300) (l:=l1_1) (l2:=[GN.cs (⟨6,[],r2.N,r2.At,[]⟩:GN)]) (xv:=.tsl 5 (mI [GN.cs (⟨6,[],r2.N,r2.At,[]⟩:GN)]) 19) rfl Qa Qa rfl Qa Qa Qa rfl Qa) (xR 1 Qa (xE (QT (Qk (sq5 (.func (.func 122) #[] #[]) (l1_1++[GN.cs (⟨6,[],r2.N,r2.At,[]⟩:GN)]) a0r.tks l1_2 a0r.length (.slice h03w h03l h03c)) Qa (sL Qe Qa (QT (Ky (l1_1++[GN.cs (⟨6,[],r2.N,r2.At,[]⟩:GN)],wi (l1_2+1)) Qa))))))))))))
 refine KM (fun j4=>⟨QaP (.func (.func 122) #[] #[]) l1_1 j4,iY r2++DL l1_1++RB a0r.tks l1_2 a0r.length (.slice h03w h03l h03c)⟩:Bool→St) ?_ ?_
 ·refine sG (xR 4 Qa (xS (Qs r2.Kind 1) (fun h5=>?_) (fun h5=>?_)))
  ·refine xO (Qt Qa h5) Qa (xR 2 Qa ?_)
   refine xC [] Qa (FD n r2.Text) Qa Qa QW (fun r6=>?_)
   exact xR 2 Qa (xE (QV r6 Qa))
  exact xN (Qu Qa h5) Qa (xR 5 Qa (xE (QV false Qa)))
 rintro j4
 refine sC j4 Qa (sG (xR 4 Qa (Yr [] [.agg [I r2.Kind,S r2.Text,I r2.N,I r2.At],I 5,S r2.Text,I 0,zS] [] [] [] Qa Tryz.func43 rfl Tryz.ntmps43 rfl Qa Qa Qa (Qg Qe ⟨dE 5 r2.Text 0,av r2⟩ Qa (Qg Qe ⟨dF,CJ 5 r2.Text 0 r2.At⟩ Qa (KM (fun _=>(sq3 5 r2.Text 0 r2.At):Unit→St) (Qg Qe ⟨dG,CJ 5 r2.Text 0 r2.At⟩ Qa (sB (Yx 0 (Qg Qe ⟨dH,CJ 5 r2.Text 0 r2.At⟩ Qa (sS (QZ Qa (Qm (Zu (LV (QG (QV () Qa))))))))))) ?_)))))) (Qg Qe ⟨[(4, .tsl 5 (mI l1_1) 300)],DL l1_1++RB a0r.tks l1_2 a0r.length (.slice h03w h03l h03c)⟩ Qa (sT (Q9 (QY (Q9 (KC (Q9 (YQ (.sl 5) [1000] [] Qa Qa Qa Qa))))))))
 rintro _
 exact Qg Qe (sq4 5 r2.Text 0 r2.At) Qa (sT (QN (.agg [.id, .id, .id, .id, .sl 5]) [] [] (.agg [I 5,S r2.Text,I 0,I r2.At, .p (.sl 5 (mI []))]) Qa Qa (Yq (xR 1 Qa (xF Qa Qa (ZM (e:=61) (S:=5) (by_:=64) (enc:=YC) (tk:=300) (l:=l1_1) (l2:=[GN.cs (⟨5,r2.Text,0,r2.At,[]⟩:GN)]) (xv:=.tsl 5 (mI [GN.cs (⟨5,r2.Text,0,r2.At,[]⟩:GN)]) 36) rfl Qa Qa rfl Qa Qa Qa rfl Qa) (xR 1 Qa (xE (QT (Qk (sq5 (.func (.func 122) #[] #[]) (l1_1++[GN.cs (⟨5,r2.Text,0,r2.At,[]⟩:GN)]) a0r.tks l1_2 a0r.length (.slice h03w h03l h03c)) Qa (sL Qe Qa (QT (Ky (l1_1++[GN.cs (⟨5,r2.Text,0,r2.At,[]⟩:GN)],wi (l1_2+1)) Qa))))))))))))
def Yy (n:Nat) (a0r:KL):Option Y1 :=
 cond (QL a0r.pos (Qc (List.map Y1.cs a0r.tks)))
  ((Zc a0r.tks a0r.pos).bind fun x1 =>
  some x1)
  (some (⟨0,[],0,a0r.length⟩:Y1))
theorem KR (n:Nat) (a0r:KL):∀ r,Yy n a0r=some r→Q0 Tryz.prog 145 [.eptr (KL.cs a0r)] (.ret (ag (Y1.cs r))):=by
 refine Qp Tryz.func145 rfl Tryz.ntmps145 rfl ?_
 unfold Yy
 exact Qg Qe ⟨tq8 (.eptr (KL.cs a0r)),tH 0⟩ Qa (sS (Qg Qe ⟨[(0, .eptr (KL.cs a0r)),qq 2,(12,B (QL a0r.pos (Qc (GH a0r.tks))))],tH 0⟩ Qa (sC (QL a0r.pos (Qc (GH a0r.tks))) Qa (sS (YK Qe rfl (xR 8 Qa (xG Qa Qa (QC (e:=105) (S:=4) (enc:=Y1.cs) (l:=a0r.tks) (k:=.i64) (n:=a0r.pos) (sv:=.p (.sl 4 (GH a0r.tks))) rfl Qa Qa Qa Qa Qa) (fun x1=>xR 2 Qa (Yh Qa (Qk ⟨[qq 2],hq4 x1⟩ Qa (sT (QY (qR (.id) Qa Qa Qa)))))))))) (sK (Qk ⟨tq8 (.eptr (KL.cs a0r)),tH 0⟩ Qa (Qg Qe ⟨[qq 2],tH a0r.length⟩ Qa (sT (qR (.id) Qa Qa Qa))))))))
def Uf (n:Nat) (a0r:KL):Option (Except Int Unit) :=
 (Yy n a0r).bind fun r1 =>
 some (.error r1.At)
theorem Uo (n:Nat) (a0r:KL):∀ r,Uf n a0r=some r→Q0 Tryz.prog 146 [.eptr (KL.cs a0r)] (vg (fun r:Unit=>(.tup []:AV)) (fun e:Int=>(.ifc 176 (.agg [I e]):AV)) r):=by
 refine Qp Tryz.func146 rfl Tryz.ntmps146 rfl ?_
 unfold Uf
 refine sG (xR 1 Qa ?_)
 refine xC [] Qa (KR n a0r) Qa Qa QW (fun r1=>?_)
 exact xR 3 Qa (X8 176 (.agg [I r1.At]) Qa rfl Qa (zQ Qa Qa))
def UQ (n:Nat) (a0text:List UInt8):Option Bool :=
 (Gq n a0text).bind fun r1 =>
 cond r1
  (some true)
  ((Ue n a0text).bind fun r3 =>
  some r3)
theorem CK (n:Nat) (a0text:List UInt8):∀ r,UQ n a0text=some r→Q0 Tryz.prog 161 [S a0text] (.ret (B r)):=by
 refine Qp Tryz.func161 rfl Tryz.ntmps161 rfl ?_
 unfold UQ
 refine Qg Qe ⟨[(0,S a0text)],[]⟩ Qa (sS (sG (xR 1 Qa ?_)))
 refine xC [] Qa (FD n a0text) Qa Qa QW (fun r1=>?_)
 refine xR 1 Qa (xS r1 (fun h2=>xN (QB Qa h2) Qa (xR 3 Qa (xE (Qk ⟨[(2,B true)],[]⟩ Qa (sT (qR (.id) Qa Qa Qa)))))) (fun h2=>xO (QA Qa h2) Qa ?_))
 refine xC [] Qa (FC n a0text) Qa Qa QW (fun r3=>?_)
 exact xR 2 Qa (xE (Qk ⟨[(2,B r3)],[]⟩ Qa (sT (qR (.id) Qa Qa Qa))))
def UR (n:Nat) (a0r:KL) (recl1:((List (List PV)) × Int)→Option ((List (List PV)) × KL)) (l1_1:List (List PV)) (l1_2:Int):Option ((List (List PV)) × KL) :=
 (Gp n (⟨a0r.tks,l1_2,a0r.length,[]⟩:KL)).bind fun r2 =>
 cond (Qs r2.Kind 2)
  ((some ()).bind fun _ =>
  cond (ZB (List.length (l1_1++[GN.cs (⟨6,[],r2.N,r2.At,[]⟩:GN)])) 64) (
   recl1 (l1_1++[GN.cs (⟨6,[],r2.N,r2.At,[]⟩:GN)],wi (l1_2+1))) none)
  ((cond (Qs r2.Kind 1)
   ((UQ n r2.Text).bind fun r6 =>
   some r6)
   (some false)).bind fun j4 =>
  cond j4
   ((some ()).bind fun _ =>
   cond (ZB (List.length (l1_1++[GN.cs (⟨5,r2.Text,0,r2.At,[]⟩:GN)])) 64) (
    recl1 (l1_1++[GN.cs (⟨5,r2.Text,0,r2.At,[]⟩:GN)],wi (l1_2+1))) none)
   (some (l1_1,(⟨a0r.tks,l1_2,a0r.length,[]⟩:KL))))
def LZ (n:Nat) (a0r:KL):Option ((List (List PV)) × KL) :=
 Q4 (fun recl1 (l1_1,l1_2)=>UR n a0r recl1 l1_1 l1_2) n ([],a0r.pos)
theorem PT (n:Nat) (a0r:KL) (h03w:Option Addr) (h03l h03c:Nat):∀ r,LZ n a0r=some r→Wz Tryz.prog 152 [Ka, .p (.val (.func (.func 161) #[] #[]))] (Go.Abs.look [(1000, .box 102 [.p (.sl 4 (GH a0r.tks)),I a0r.pos,I a0r.length,hS h03w h03l h03c])]) (Xw (fun r:(List (List PV)) × KL=>((.ret (.p (.sl 5 (mI r.1))),[(1000, .box 102 [.p (.sl 4 (GH r.2.tks)),I r.2.pos,I r.2.length,hS h03w h03l h03c])]):Z0 × List (Nat × Blk))) r):=by
 refine Y2 (RB a0r.tks a0r.pos a0r.length (.slice h03w h03l h03c)) Tryz.func152 rfl Tryz.ntmps152 rfl ?_
 unfold LZ
 refine Qg Qe ⟨[(0,Ka),(1, .p (.val (.func (.func 161) #[] #[])))],RB a0r.tks a0r.pos a0r.length (.slice h03w h03l h03c)⟩ Qa (Qg Qe ⟨dD (.func (.func 161) #[] #[]),RB a0r.tks a0r.pos a0r.length (.slice h03w h03l h03c)⟩ Qa (sB (M3 ⟨dD (.func (.func 161) #[] #[]),RB a0r.tks a0r.pos a0r.length (.slice h03w h03l h03c)⟩ Qa (Zq (KZ 61 5 300 [5] [] Qa) (Qw (fun (l1_1,l1_2)=>⟨au (.func (.func 161) #[] #[]) l1_1,DL l1_1++RB a0r.tks l1_2 a0r.length (.slice h03w h03l h03c)⟩:((List (List PV)) × Int)→St) (Wq Qa) ?_)))))
 rintro recl1 ⟨l1_1,l1_2⟩
 show QU (UR n a0r recl1 l1_1 l1_2) _ _ _ _ _ _
 unfold UR
 refine sB (sS (sG (xR 1 Qa ?_)))
 refine Gh [.ro []] Qa (UG n (⟨a0r.tks,l1_2,a0r.length,[]⟩:KL) h03w h03l h03c) Qa Qa QW (fun r2=>?_)
 refine xR 2 Qa (xE (Qk ⟨QaN (.func (.func 161) #[] #[]) l1_1,iY r2++DL l1_1++RB a0r.tks l1_2 a0r.length (.slice h03w h03l h03c)⟩ Qa (sS (sB (Qg Qe ⟨QaO (.func (.func 161) #[] #[]) l1_1 (Qs r2.Kind 2),iY r2++DL l1_1++RB a0r.tks l1_2 a0r.length (.slice h03w h03l h03c)⟩ Qa (sC (Qs r2.Kind 2) Qa ?_ ?_))))))
 ·refine sG (xR 4 Qa (Yr [] [.agg [I r2.Kind,S r2.Text,I r2.N,I r2.At],I 6,S [],I r2.N,zS] [] [] [] Qa Tryz.func43 rfl Tryz.ntmps43 rfl Qa Qa Qa (Qg Qe ⟨dE 6 [] r2.N,av r2⟩ Qa (Qg Qe ⟨dF,CJ 6 [] r2.N r2.At⟩ Qa (KM (fun _=>(sq3 6 [] r2.N r2.At):Unit→St) (Qg Qe ⟨dG,CJ 6 [] r2.N r2.At⟩ Qa (sB (Yx 0 (Qg Qe ⟨dH,CJ 6 [] r2.N r2.At⟩ Qa (sS (QZ Qa (Qm (Zu (LV (QG (QV () Qa))))))))))) ?_)))))
  rintro _
  exact Qg Qe (sq4 6 [] r2.N r2.At) Qa (sT (QN (.agg [.id, .id, .id, .id, .sl 5]) [] [] (.agg [I 6,S [],I r2.N,I r2.At, .p (.sl 5 (mI []))]) Qa Qa (Yq (xR 1 Qa (xF Qa Qa (ZM (e:=61) (S:=5) (by_:=64) (enc:=YC) (tk:=300) (l:=l1_1) (l2:=[GN.cs (⟨6,[],r2.N,r2.At,[]⟩:GN)]) (xv:=.tsl 5 (mI [GN.cs (⟨6,[],r2.N,r2.At,[]⟩:GN)]) 19) rfl Qa Qa rfl Qa Qa Qa rfl Qa) (xR 1 Qa (xE (QT (Qk (sq5 (.func (.func 161) #[] #[]) (l1_1++[GN.cs (⟨6,[],r2.N,r2.At,[]⟩:GN)]) a0r.tks l1_2 a0r.length (.slice h03w h03l h03c)) Qa (sL Qe Qa (QT (Ky (l1_1++[GN.cs (⟨6,[],r2.N,r2.At,[]⟩:GN)],wi (l1_2+1)) Qa))))))))))))
 refine KM (fun j4=>⟨QaP (.func (.func 161) #[] #[]) l1_1 j4,iY r2++DL l1_1++RB a0r.tks l1_2 a0r.length (.slice h03w h03l h03c)⟩:Bool→St) ?_ ?_
 ·refine sG (xR 4 Qa (xS (Qs r2.Kind 1) (fun h5=>?_) (fun h5=>?_)))
  ·refine xO (Qt Qa h5) Qa (xR 2 Qa ?_)
   refine xC [] Qa (CK n r2.Text) Qa Qa QW (fun r6=>?_)
   exact xR 2 Qa (xE (QV r6 Qa))
  exact xN (Qu Qa h5) Qa (xR 5 Qa (xE (QV false Qa)))
 rintro j4
 refine sC j4 Qa (sG (xR 4 Qa (Yr [] [.agg [I r2.Kind,S r2.Text,I r2.N,I r2.At],I 5,S r2.Text,I 0,zS] [] [] [] Qa Tryz.func43 rfl Tryz.ntmps43 rfl Qa Qa Qa (Qg Qe ⟨dE 5 r2.Text 0,av r2⟩ Qa (Qg Qe ⟨dF,CJ 5 r2.Text 0 r2.At⟩ Qa (KM (fun _=>(sq3 5 r2.Text 0 r2.At):Unit→St) (Qg Qe ⟨dG,CJ 5 r2.Text 0 r2.At⟩ Qa (sB (Yx 0 (Qg Qe ⟨dH,CJ 5 r2.Text 0 r2.At⟩ Qa (sS (QZ Qa (Qm (Zu (LV (QG (QV () Qa))))))))))) ?_)))))) (Qg Qe ⟨[(4, .tsl 5 (mI l1_1) 300)],DL l1_1++RB a0r.tks l1_2 a0r.length (.slice h03w h03l h03c)⟩ Qa (sT (Q9 (QY (Q9 (KC (Q9 (YQ (.sl 5) [1000] [] Qa Qa Qa Qa))))))))
 rintro _
 exact Qg Qe (sq4 5 r2.Text 0 r2.At) Qa (sT (QN (.agg [.id, .id, .id, .id, .sl 5]) [] [] (.agg [I 5,S r2.Text,I 0,I r2.At, .p (.sl 5 (mI []))]) Qa Qa (Yq (xR 1 Qa (xF Qa Qa (ZM (e:=61) (S:=5) (by_:=64) (enc:=YC) (tk:=300) (l:=l1_1) (l2:=[GN.cs (⟨5,r2.Text,0,r2.At,[]⟩:GN)]) (xv:=.tsl 5 (mI [GN.cs (⟨5,r2.Text,0,r2.At,[]⟩:GN)]) 36) rfl Qa Qa rfl Qa Qa Qa rfl Qa) (xR 1 Qa (xE (QT (Qk (sq5 (.func (.func 161) #[] #[]) (l1_1++[GN.cs (⟨5,r2.Text,0,r2.At,[]⟩:GN)]) a0r.tks l1_2 a0r.length (.slice h03w h03l h03c)) Qa (sL Qe Qa (QT (Ky (l1_1++[GN.cs (⟨5,r2.Text,0,r2.At,[]⟩:GN)],wi (l1_2+1)) Qa))))))))))))
abbrev Vq:=(Except (Int × KL) (GN × KL))
def YR (r1:Y1) (j3_1:List (List PV)) (j3_2:List Y1) (j3_3:Int) (j3_4:Int):Option Vq :=
 some (.ok ((⟨4,r1.Text,0,r1.At,j3_1⟩:GN),(⟨j3_2,wi (j3_3+1),j3_4,[]⟩:KL)))
def YS (n:Nat) (a0r:KL) (r1:Y1):Option Vq :=
 ((LZ n (⟨a0r.tks,wi (a0r.pos+1),a0r.length,[]⟩:KL)).bind fun r4 =>
 cond (ZB (List.length ([]++r4.1)) 64) (
  some ([]++r4.1,r4.2.tks,r4.2.pos,r4.2.length)) none).bind fun (j3_1,j3_2,j3_3,j3_4) =>
 (Gp n (⟨j3_2,j3_3,j3_4,[]⟩:KL)).bind fun r5 =>
 (cond (Qs r5.Kind 0)
  (some true)
  ((cond (Qs r5.Kind 3)
   (some (Q8 r5.Text [59]))
   (some false)).bind fun j9 =>
  some (!j9))).bind fun j7 =>
 cond j7
  ((Mo n (⟨j3_2,j3_3,j3_4,[]⟩:KL)).bind (MZ (fun r11 =>
   YR r1 j3_1 j3_2 j3_3 j3_4) fun e12=>some (.error (e12,(⟨j3_2,j3_3,j3_4,[]⟩:KL)))))
  (YR r1 j3_1 j3_2 j3_3 j3_4)
def TD (n:Nat) (a0r:KL):Option Vq :=
 (Gp n (⟨a0r.tks,a0r.pos,a0r.length,[]⟩:KL)).bind fun r1 =>
 (cond (Qs r1.Kind 0)
  (some true)
  ((cond (Qs r1.Kind 1)
   ((Ws n r1.Text).bind fun r17 =>
   some r17)
   (some false)).bind fun j15 =>
  some (!j15))).bind fun j13 =>
 cond j13
  ((Mo n (⟨a0r.tks,a0r.pos,a0r.length,[]⟩:KL)).bind (MZ (fun r18 =>
   YS n a0r r1) fun e19=>some (.error (e19,(⟨a0r.tks,a0r.pos,a0r.length,[]⟩:KL)))))
  (YS n a0r r1)
def dJ:List (Nat × Blk):=[(1, .box 100 [.ptr 1000 0]),(2,(RH 0 [] 0 0))]
def bq5:=fun x0=>(.box 126 [.p (.val x0)]:Blk)
def sq6:=fun x0=>(⟨[(1, .ptr 1 0)],[(1,(bq5 x0))]⟩:St)
def sq7:=fun x0=>(⟨[(2, .fn (.func 147) [] [.ptr 1 0])],[(1,(bq5 x0))]⟩:St)
def vP:=fun x0 x1 x2 x3=>([(1000,(bq2 x0 x1 x2 x3)),(1001,(bq5 (.func (.func 156) #[] #[])))]:List (Nat × Blk))
def QaR:=fun x0=>([(0, .ptr 1000 0),(1, .fn x0 [] [.ptr 1001 0]),(4, .ptr 4 0)]:List (Nat × AV))
def uq:List (Nat × Blk):=[(4, .box 105 [I 0,S [],I 0,I 0])]
def QaS:=fun x0=>([(0, .ptr 1000 0),(1, .fn x0 [] [.ptr 1001 0]),(4, .ptr 4 0),(5, .ptr 5 0)]:List (Nat × AV))
def U9:=fun x0=>([(4, .box 105 [I 0,S [],I 0,I 0]),(5, .box 105 (Kw (Y1.cs x0)))]:List (Nat × Blk))
def ut:List (Nat × AV):=[(0, .ptr 1000 0),(4, .ptr 4 0),(5, .ptr 5 0)]
def uu:=fun x0=>([(0, .ptr 1000 0),(4, .ptr 4 0),(5, .ptr 5 0),(16,B x0)]:List (Nat × AV))
def vQ:=fun x0=>([(1000,(bq5 x0))]:List (Nat × Blk))
def ax:=fun x0 x1=>(⟨[(1, .ptr 1000 0),(2, .ptr 2 0)],hq4 x0++vQ x1⟩:St)
def uw:=fun x0=>([(4, .box 105 (Kw (Y1.cs x0)))]:List (Nat × Blk))
def QaT:List (Nat × AV):=[(1, .ptr 1 0),(2, .ptr 2 0),(3, .ptr 3 0)]
def kK:=fun x0=>([(1, .box 100 [.ptr 1000 0]),(2,(RH 0 [] 0 0)),(3, .box 105 (Kw (Y1.cs x0)))]:List (Nat × Blk))
def bq6:Blk:=.box 106 [.fn (.func 160) [] [.ptr 1001 0]]
def NL:=fun x0 x1 x2 x3=>([(1000,(bq2 x0 x1 x2 x3)),(1001, .box 100 [.ptr 1000 0]),(1002,bq6)]:List (Nat × Blk))
def ay:=fun x0 x1 x2 x3=>([(1,I x0),(2,S (Y1.Text x1)),(3,I x2),(4,x3),(5, .ptr 5 0),(10, .ptr 10 0)]:List (Nat × AV))
def uy:=fun x0=>([(4,x0),(10, .ptr 10 0),(11, .ptr 11 0)]:List (Nat × AV))
def bq7:=fun x0=>(.box 61 [I 4,S (Y1.Text x0),I 0,I (Y1.At x0), .p (.val (.slice none 0 0))]:Blk)
def uz:=fun x0=>([(10,(RH 0 [] 0 0)),(11,(bq7 x0))]:List (Nat × Blk))
def bq8:=fun x0 x1=>(.box 61 [I 4,S (Y1.Text x0),I 0,I (Y1.At x0), .tsl 5 (List.map YC x1) 300]:Blk)
abbrev pg:=((List (List PV)) × (List Y1) × Int × Int)
def FI:=fun x0 x1 x2=>([(10, .ptr 10 0),(11, .ptr 11 0),(20,x0),(21,I x1),(22,I x2)]:List (Nat × AV))
def CL:=fun x0 x1 x2 x3=>([(10, .ptr 10 0),(11, .ptr 11 0),(20,x0),(21,I x1),(22,I x2),(23,B x3)]:List (Nat × AV))
def QaV:List (Nat × AV):=[(10, .ptr 10 0),(11, .ptr 11 0),(13, .fn (.func 160) [] [.ptr 1001 0]),(20,(.bsl 1002 1)),(21,I 1),(22,I 0)]
def az:=fun x0 x1 x2 x3=>([(1000,(bq2 x0 x1 x2 x3)),(1001, .box 100 [.ptr 1000 0])]:List (Nat × Blk))
def jk:=fun x0=>(.box 61 (Kw (GN.cs x0)):Blk)
def nC:=fun x0=>([(1, .box 9 [S x0])]:List (Nat × Blk))
def sq8:=fun x0=>(⟨[(2, .fn (.func 149) [] [.ptr 1 0])],nC x0⟩:St)
def vR:=fun x0 x1 x2 x3=>([(1000,(bq2 x0 x1 x2 x3)),(1001, .box 9 [S [59]])]:List (Nat × Blk))
def qb:=fun x0=>([(1000, .box 9 [S x0])]:List (Nat × Blk))
def sq9:=fun x0 x1=>(⟨[(1, .ptr 1000 0),(2, .ptr 2 0)],hq4 x0++qb x1⟩:St)
theorem Am (n:Nat) (a0r:KL) (h03w:Option Addr) (h03l h03c:Nat):∀ r,TD n a0r=some r→Wz Tryz.prog 154 [Ka] (Go.Abs.look [(1000, .box 102 [.p (.sl 4 (GH a0r.tks)),I a0r.pos,I a0r.length,hS h03w h03l h03c])]) (Xw (vv (fun r:GN × KL=>((.ret (ag (GN.cs r.1)),[(1000, .box 102 [.p (.sl 4 (GH r.2.tks)),I r.2.pos,I r.2.length,hS h03w h03l h03c])]):Z0 × List (Nat × Blk))) (fun e:Int × KL=>((.panic (.ifc 176 (.agg [I e.1])),[(1000, .box 102 [.p (.sl 4 (GH e.2.tks)),I e.2.pos,I e.2.length,hS h03w h03l h03c])]):Z0 × List (Nat × Blk)))) r):=by
 refine Y2 (RB a0r.tks a0r.pos a0r.length (.slice h03w h03l h03c)) Tryz.func154 rfl Tryz.ntmps154 rfl ?_
 unfold TD
 refine Qg Qe ⟨[qq 1,qq 2],dJ++RB a0r.tks a0r.pos a0r.length (.slice h03w h03l h03c)⟩ Qa (sS (M3 ⟨[qq 1,qq 2],dJ++RB a0r.tks a0r.pos a0r.length (.slice h03w h03l h03c)⟩ Qa (SV [0] 3 3 [1,2,3,4] Qe rfl Qa Qa (Qo (Qz Ka Qa rfl) (Ql)) Qa (BO (f:=119) (args:=[.p (.val (.func (.func 156) #[] #[]))]) (dst:=some 6) Qa Qa rfl (Zn (hc:=[]) (args':=[.p (.val (.func (.func 156) #[] #[]))]) [(1,401)] [] [] Tryz.func119 rfl Tryz.ntmps119 rfl Qa Qa Qa (Qg Qe (sq6 (.func (.func 156) #[] #[])) Qa (Qg Qe (sq7 (.func (.func 156) #[] #[])) Qa (sT (QN (.id) [1] [] (.fn (.func 147) [] [.ptr 1 0]) Qa Qa (kf [0] Qa (Qo (Qz Ka Qa rfl) (Ql)) Qa (BO (f:=118) (args:=[Ka, .fn (.func 147) [] [.ptr 401 0]]) (dst:=some 7) Qa Qa rfl (Zn (hc:=(vP a0r.tks a0r.pos a0r.length (.slice h03w h03l h03c))) (args':=[Ka, .fn (.func 147) [] [Gl]]) [(1001,401),(1000,1000)] [] [] Tryz.func118 rfl Tryz.ntmps118 rfl Qa Qa Qa (Qg Qe ⟨QaR (.func 147),uq++vP a0r.tks a0r.pos a0r.length (.slice h03w h03l h03c)⟩ Qa (sS (sG (xR 1 Qa ?_))))))))))))))))
 refine Gh [.ro []] Qa (UG n (⟨a0r.tks,a0r.pos,a0r.length,[]⟩:KL) h03w h03l h03c) Qa Qa QW (fun r1=>?_)
 refine xR 2 Qa (xE (Qk ⟨QaS (.func 147),U9 r1++vP a0r.tks a0r.pos a0r.length (.slice h03w h03l h03c)⟩ Qa (ZY (fun _=>⟨ut,U9 r1++vP a0r.tks a0r.pos a0r.length (.slice h03w h03l h03c)⟩:Unit→St) (fun _=>YS n a0r r1) ?_ ?_)))
 rotate_left
 ·refine KM (fun j13=>⟨uu j13,U9 r1++vP a0r.tks a0r.pos a0r.length (.slice h03w h03l h03c)⟩:Bool→St) ?_ ?_
  rotate_left
  ·rintro j13
   refine sC j13 Qa ?_ ?_
   ·refine sG (xR 1 Qa ?_)
    refine NA [.ro []] Qa (PI n (⟨a0r.tks,a0r.pos,a0r.length,[]⟩:KL) h03w h03l h03c) Qa Qa QW QW (fun r18=>?_) (fun e19=>?_)
    ·exact xE (Ky (k:=fun _=>YS n a0r r1) () Qa)
    exact Zp (ZO [1000,1001] [] Qa (zY _ rfl (Kk (Kv [1000] [] Qa Qa Qa))))
   exact sK (Ky (k:=fun _=>YS n a0r r1) () Qa)
  refine sG (xR 4 Qa (xS (Qs r1.Kind 0) (fun h14=>xN (QB Qa h14) Qa (xR 4 Qa (xE (QV true Qa)))) (fun h14=>xO (QA Qa h14) Qa (xR 1 Qa (Yr (vQ (.func (.func 156) #[] #[])) [.agg [I r1.Kind,S r1.Text,I r1.N,I r1.At],Ka] [(1000,1001)] [] [] Qa Tryz.func147 rfl Tryz.ntmps147 rfl Qa Qa Qa (Qg Qe (ax r1 (.func (.func 156) #[] #[])) Qa (KM (fun j15=>⟨[(3,B j15)],vQ (.func (.func 156) #[] #[])⟩:Bool→St) ?_ ?_)))))))
  ·refine sG (xR 4 Qa (xS (Qs r1.Kind 1) (fun h16=>?_) (fun h16=>?_)))
   ·refine xO (Qt Qa h16) Qa (xR 2 Qa ?_)
    refine xC [] Qa (Ud n r1.Text) Qa Qa QW (fun r17=>?_)
    exact xR 2 Qa (xE (QV r17 Qa))
   exact xN (Qu Qa h16) Qa (xR 5 Qa (xE (QV false Qa)))
  rintro j15
  exact sT (QN (.id) [1000] [] (B j15) Qa Qa (Yq (xR 2 Qa (xE (QV (!j15) Qa)))))
 rintro _
 show QU (YS n a0r r1) _ _ _ _ _ _
 unfold YS
 refine Qg Qe ⟨[qq 4,qq 5],U9 r1++vP a0r.tks (wi (a0r.pos+1)) a0r.length (.slice h03w h03l h03c)⟩ Qa (Qg Qe ⟨[qq 4],uw r1++vP a0r.tks (wi (a0r.pos+1)) a0r.length (.slice h03w h03l h03c)⟩ Qa (sT (QN (.id) [1000,1001] [] (.agg [I r1.Kind,S r1.Text,I r1.N,I r1.At]) Qa Qa (kf [] Qa (Ql) Qa (f_q [0] Qa Qa (Qo (Qz Ka Qa rfl) (Ql)) (df [] rfl Qa Qa (Ql) Qa (mP (Qk ⟨QaT,kK r1++RB a0r.tks (wi (a0r.pos+1)) a0r.length (.slice h03w h03l h03c)⟩ Qa (sS (sG (xR 5 Qa (Yr (NL a0r.tks (wi (a0r.pos+1)) a0r.length (.slice h03w h03l h03c)) [.agg [I r1.Kind,S r1.Text,I r1.N,I r1.At],I 4,S r1.Text,I 0, .bsl 1002 1] [(1001,1),(1002,12),(1000,1000)] [] [] Qa Tryz.func43 rfl Tryz.ntmps43 rfl Qa Qa Qa (Qg Qe ⟨ay 4 r1 0 (.bsl 1002 1),av r1++NL a0r.tks (wi (a0r.pos+1)) a0r.length (.slice h03w h03l h03c)⟩ Qa (Qg Qe ⟨uy (.bsl 1002 1),uz r1++NL a0r.tks (wi (a0r.pos+1)) a0r.length (.slice h03w h03l h03c)⟩ Qa (KM (fun (j3_1,j3_2,j3_3,j3_4)=>⟨[qq 10,qq 11],[(10,(RH 0 [] 0 0)),(11,(bq8 r1 j3_1))]++DL j3_1++NL j3_2 j3_3 j3_4 (.slice h03w h03l h03c)⟩:pg→St) ?_ ?_)))))))))))))))
 ·refine Qg Qe ⟨FI (.bsl 1002 1) 1 0,uz r1++NL a0r.tks (wi (a0r.pos+1)) a0r.length (.slice h03w h03l h03c)⟩ Qa (sB (Yx 1 (Qg Qe ⟨CL (.bsl 1002 1) 1 0 true,uz r1++NL a0r.tks (wi (a0r.pos+1)) a0r.length (.slice h03w h03l h03c)⟩ Qa (sS (Q3 Qa (sK (Qk ⟨FI (.bsl 1002 1) 1 0,uz r1++NL a0r.tks (wi (a0r.pos+1)) a0r.length (.slice h03w h03l h03c)⟩ Qa (sS (sB (Qg Qe ⟨QaV,uz r1++NL a0r.tks (wi (a0r.pos+1)) a0r.length (.slice h03w h03l h03c)⟩ Qa (M3 ⟨QaV,uz r1++NL a0r.tks (wi (a0r.pos+1)) a0r.length (.slice h03w h03l h03c)⟩ Qa (Zq (KZ 61 5 300 [] [(11,4)] Qa) (Vu [0,1,2] [0,1] [(3,[]),(4,[]),(5,[]),(6,[])] Qe rfl Qa Qa (KY (f:=160) (args:=[Gl]) (dst:=some 29) Qa Qa (Zn (hc:=(az a0r.tks (wi (a0r.pos+1)) a0r.length (.slice h03w h03l h03c))) (args':=[Gl]) [(1000,1000),(1001,1001)] [] [] Tryz.func160 rfl Tryz.ntmps160 rfl Qa Qa Qa (Qg Qe ⟨[(0,Gl)],az a0r.tks (wi (a0r.pos+1)) a0r.length (.slice h03w h03l h03c)⟩ Qa (sS (sG (xR 1 Qa ?_)))))))))))))))))))
  refine OY [(1000,1000)] [] [] Qa (PT n (⟨a0r.tks,wi (a0r.pos+1),a0r.length,[]⟩:KL) h03w h03l h03c) Qa Qa Qa QW QW (fun r4=>?_)
  exact xR 1 Qa (xE (Qk ⟨[(1, .p (.sl 5 (mI r4.1)))],az r4.2.tks r4.2.pos r4.2.length (.slice h03w h03l h03c)⟩ Qa (sT (QN (.id) [1000,1001] [] (.p (.sl 5 (mI r4.1))) Qa Qa (kh [0,1] Qa (Qo (Qz (.ptr 11 4) Qa rfl) (Qo (WU (S:=5) (t:=300) (ty:=61) (es:=mI []) Qa Qa rfl) (Ql))) Qa (SL [] rfl Qa Qa (WS (e:=61) (S:=5) (by_:=64) (enc:=YC) (tk:=300) (l:=[]) (l2:=r4.1) (xv:=.p (.sl 5 (mI r4.1))) rfl Qa Qa rfl Qa Qa Qa Qa) (fun _=>Ql) (WJ [] Qa Qa (Ql) (WJ [] Qa Qa (Ql) (WV (QT (Qk ⟨FI (.bsl 1002 1) 1 0,[(10,(RH 0 [] 0 0)),(11,(bq8 r1 ([]++r4.1)))]++FH ([]++r4.1)++NL r4.2.tks r4.2.pos r4.2.length (.slice h03w h03l h03c)⟩ Qa (sL Qe Qa (UB ⟨[10,11,20,21,22],[10,11,300,1000,1001,1002],[],[]⟩ ⟨FI (.bsl 1002 1) 1 1,[(10,(RH 0 [] 0 0)),(11,(bq8 r1 ([]++r4.1)))]++FH ([]++r4.1)++NL r4.2.tks r4.2.pos r4.2.length (.slice h03w h03l h03c)⟩ Qa (Qg Qe ⟨CL (.bsl 1002 1) 1 1 false,[(10,(RH 0 [] 0 0)),(11,(bq8 r1 ([]++r4.1)))]++FH ([]++r4.1)++NL r4.2.tks r4.2.pos r4.2.length (.slice h03w h03l h03c)⟩ Qa (sS (QZ Qa (Qm (Zu (LV (QG (QV ([]++r4.1,r4.2.tks,r4.2.pos,r4.2.length) Qa)))))))))))))))))))))
 rintro ⟨j3_1,j3_2,j3_3,j3_4⟩
 refine Qg Qe ⟨[qq 10],[(10,(bq8 r1 j3_1))]++DL j3_1++NL j3_2 j3_3 j3_4 (.slice h03w h03l h03c)⟩ Qa (sT (QN (.agg [.id, .id, .id, .id, .sl 5]) [1000,1001,1002] [] (.agg [I 4,S r1.Text,I 0,I r1.At, .p (.sl 5 (mI j3_1))]) Qa Qa (Yq (xR 2 Qa (xE (Qk ⟨[qq 1,qq 2,qq 4],[(1, .box 100 [Ka]),(2,(RH 0 [] 0 0)),(4,(jk ⟨4,r1.Text,0,r1.At,j3_1⟩))]++RB j3_2 j3_3 j3_4 (.slice h03w h03l h03c)⟩ Qa (sS (Vu [0] [0] [(1,[]),(2,[])] Qe rfl Qa Qa (KY (f:=124) (args:=[S [59]]) (dst:=some 15) Qa Qa (Zn (hc:=[]) (args':=[S [59]]) [(1,401)] [] [] Tryz.func124 rfl Tryz.ntmps124 rfl Qa Qa Qa (Qg Qe ⟨[qq 1],nC [59]⟩ Qa (Qg Qe (sq8 [59]) Qa (sT (QN (.id) [1] [] (.fn (.func 149) [] [.ptr 1 0]) Qa Qa (kh [0] Qa (Qo (Qz Ka Qa rfl) (Ql)) Qa (KY (f:=118) (args:=[Ka, .fn (.func 149) [] [.ptr 401 0]]) (dst:=some 16) Qa Qa (Zn (hc:=(vR j3_2 j3_3 j3_4 (.slice h03w h03l h03c))) (args':=[Ka, .fn (.func 149) [] [Gl]]) [(1001,401),(1000,1000)] [] [] Tryz.func118 rfl Tryz.ntmps118 rfl Qa Qa Qa (Qg Qe ⟨QaR (.func 149),uq++vR j3_2 j3_3 j3_4 (.slice h03w h03l h03c)⟩ Qa (sS (sG (xR 1 Qa ?_)))))))))))))))))))))
 refine Gh [.ro []] Qa (UG n (⟨j3_2,j3_3,j3_4,[]⟩:KL) h03w h03l h03c) Qa Qa QW (fun r5=>?_)
 refine xR 2 Qa (xE (Qk ⟨QaS (.func 149),U9 r5++vR j3_2 j3_3 j3_4 (.slice h03w h03l h03c)⟩ Qa (ZY (fun _=>⟨ut,U9 r5++vR j3_2 j3_3 j3_4 (.slice h03w h03l h03c)⟩:Unit→St) (fun _=>YR r1 j3_1 j3_2 j3_3 j3_4) ?_ ?_)))
 ·rintro _
  show QU (YR r1 j3_1 j3_2 j3_3 j3_4) _ _ _ _ _ _
  unfold YR
  exact Qg Qe ⟨[qq 4,qq 5],U9 r5++vR j3_2 (wi (j3_3+1)) j3_4 (.slice h03w h03l h03c)⟩ Qa (Qg Qe ⟨[qq 4],uw r5++vR j3_2 (wi (j3_3+1)) j3_4 (.slice h03w h03l h03c)⟩ Qa (sT (QN (.id) [1000,1001] [] (.agg [I r5.Kind,S r5.Text,I r5.N,I r5.At]) Qa Qa (kh [] Qa (Ql) Qa (WV (Qk ⟨[qq 2,qq 4],[(2,(RH 0 [] 0 0)),(4,(jk ⟨4,r1.Text,0,r1.At,j3_1⟩))]++RB j3_2 (wi (j3_3+1)) j3_4 (.slice h03w h03l h03c)⟩ Qa (Qg Qe ⟨[qq 2],[(2,(jk ⟨4,r1.Text,0,r1.At,j3_1⟩))]++RB j3_2 (wi (j3_3+1)) j3_4 (.slice h03w h03l h03c)⟩ Qa (sT (YQ (.id) [1000] [] Qa Qa Qa Qa)))))))))
 refine KM (fun j7=>⟨uu j7,U9 r5++vR j3_2 j3_3 j3_4 (.slice h03w h03l h03c)⟩:Bool→St) ?_ ?_
 rotate_left
 ·rintro j7
  refine sC j7 Qa ?_ ?_
  ·refine sG (xR 1 Qa ?_)
   refine NA [.ro []] Qa (PI n (⟨j3_2,j3_3,j3_4,[]⟩:KL) h03w h03l h03c) Qa Qa QW QW (fun r11=>?_) (fun e12=>?_)
   ·exact xE (Ky (k:=fun _=>YR r1 j3_1 j3_2 j3_3 j3_4) () Qa)
   exact Zp (ZO [1000,1001] [] Qa (zY _ rfl (Kk (Kv [1000] [] Qa Qa Qa))))
  exact sK (Ky (k:=fun _=>YR r1 j3_1 j3_2 j3_3 j3_4) () Qa)
 refine sG (xR 4 Qa (xS (Qs r5.Kind 0) (fun h8=>xN (QB Qa h8) Qa (xR 4 Qa (xE (QV true Qa)))) (fun h8=>xO (QA Qa h8) Qa (xR 1 Qa (Yr (qb [59]) [.agg [I r5.Kind,S r5.Text,I r5.N,I r5.At],Ka] [(1000,1001)] [] [] Qa Tryz.func149 rfl Tryz.ntmps149 rfl Qa Qa Qa (Qg Qe (sq9 r5 [59]) Qa (KM (fun j9=>⟨[(3,B j9)],qb [59]⟩:Bool→St) (sG (xR 4 Qa (xS (Qs r5.Kind 3) (fun h10=>xO (Qt Qa h10) Qa (xR 5 Qa (xE (QV (Q8 r5.Text [59]) Qa)))) (fun h10=>xN (Qu Qa h10) Qa (xR 5 Qa (xE (QV false Qa))))))) ?_)))))))
 rintro j9
 exact sT (QN (.id) [1000] [] (B j9) Qa Qa (Yq (xR 2 Qa (xE (QV (!j9) Qa)))))
def TE (a0r:KL) (recl1:Int→Option ((List UInt8) × KL)) (l1:Int):Option ((List UInt8) × KL) :=
 cond (QL l1 (Qc (List.map Y1.cs a0r.tks)))
  ((Zc a0r.tks l1).bind fun x2 =>
  (cond (Qs x2.Kind 3)
   (some (!Q8 x2.Text [123]))
   (some false)).bind fun j3 =>
  cond j3
   (some (x2.Text,(⟨a0r.tks,wi (l1+1),a0r.length,[]⟩:KL)))
   (recl1 (wi (l1+1))))
  (some ([],(⟨a0r.tks,l1,a0r.length,[]⟩:KL)))
def Mv (n:Nat) (a0r:KL):Option ((List UInt8) × KL) :=
 Q4 (fun recl1 l1=>TE a0r recl1 l1) n a0r.pos
def aA:=fun x0=>([(3, .box 105 (Kw (Y1.cs x0)))]:List (Nat × Blk))
theorem PK (n:Nat) (a0r:KL) (h03w:Option Addr) (h03l h03c:Nat):∀ r,Mv n a0r=some r→Wz Tryz.prog 117 [Ka] (Go.Abs.look [(1000, .box 102 [.p (.sl 4 (GH a0r.tks)),I a0r.pos,I a0r.length,hS h03w h03l h03c])]) (Xw (fun r:(List UInt8) × KL=>((.ret (S r.1),[(1000, .box 102 [.p (.sl 4 (GH r.2.tks)),I r.2.pos,I r.2.length,hS h03w h03l h03c])]):Z0 × List (Nat × Blk))) r):=by
 refine Y2 (RB a0r.tks a0r.pos a0r.length (.slice h03w h03l h03c)) Tryz.func117 rfl Tryz.ntmps117 rfl ?_
 unfold Mv
 refine Qg Qe ⟨[(0,Ka)],RB a0r.tks a0r.pos a0r.length (.slice h03w h03l h03c)⟩ Qa (sS (sB (Qw (fun l1=>⟨[(0,Ka)],RB a0r.tks l1 a0r.length (.slice h03w h03l h03c)⟩:Int→St) (Wq Qa) ?_)))
 rintro recl1 l1
 show QU (TE a0r recl1 l1) _ _ _ _ _ _
 unfold TE
 refine sS (Qg Qe ⟨[(0,Ka),(13,B (QL l1 (Qc (GH a0r.tks))))],RB a0r.tks l1 a0r.length (.slice h03w h03l h03c)⟩ Qa (sC (QL l1 (Qc (GH a0r.tks))) Qa (sK (Qk ⟨[(0,Ka)],RB a0r.tks l1 a0r.length (.slice h03w h03l h03c)⟩ Qa (sB (sS (YK Qe rfl (xR 8 Qa (xG Qa Qa (QC (e:=105) (S:=4) (enc:=Y1.cs) (l:=a0r.tks) (k:=.i64) (n:=l1) (sv:=.p (.sl 4 (GH a0r.tks))) rfl Qa Qa Qa Qa Qa) (fun x2=>xR 3 Qa (Yh Qa (Qk ⟨[(0,Ka),qq 3],aA x2++RB a0r.tks l1 a0r.length (.slice h03w h03l h03c)⟩ Qa (Qg Qe ⟨[(0,Ka),qq 3],aA x2++RB a0r.tks (wi (l1+1)) a0r.length (.slice h03w h03l h03c)⟩ Qa (KM (fun j3=>⟨[(0,Ka),qq 3,(38,B j3)],aA x2++RB a0r.tks (wi (l1+1)) a0r.length (.slice h03w h03l h03c)⟩:Bool→St) (sG (xR 4 Qa (xS (Qs x2.Kind 3) (fun h4=>xO (Qt Qa h4) Qa (xR 3 Qa (xE (QV (!Q8 x2.Text [123]) Qa)))) (fun h4=>xN (Qu Qa h4) Qa (xR 3 Qa (xE (QV false Qa))))))) ?_)))))))))))) (Qm (Zu (ZP (QG (Qk ⟨[],RB a0r.tks l1 a0r.length (.slice h03w h03l h03c)⟩ Qa (Qg Qe ⟨[(2,S [])],RB a0r.tks l1 a0r.length (.slice h03w h03l h03c)⟩ Qa (sT (YQ (.id) [1000] [] Qa Qa Qa Qa))))))))))
 rintro j3
 exact sC j3 Qa (Qg Qe ⟨[(2,S x2.Text)],RB a0r.tks (wi (l1+1)) a0r.length (.slice h03w h03l h03c)⟩ Qa (sT (Q9 (KC (Q9 (QY (YQ (.id) [1000] [] Qa Qa Qa Qa))))))) (sK (QT (Ky (wi (l1+1)) Qa)))
def UH (r1:Y1) (r3:Y1) (r5:Int) (j6_1:List (List PV)) (j6_2:List Y1) (j6_3:Int) (j6_4:Int) (j6_5:List KG):Option Vq :=
 some (.ok ((⟨2,r3.Text,r5,r1.At,j6_1⟩:GN),(⟨j6_2,j6_3,j6_4,j6_5⟩:KL)))
abbrev ty5:=((List (List PV)) × (List Y1) × Int × Int × Int × (List UInt8) × Int × Int)
def TF (n:Nat) (a0r:KL) (recl9:ty5→Option pg) (l9_1:List (List PV)) (l9_2:List Y1) (l9_3:Int) (l9_4:Int) (l9_5:Int) (l9_6:List UInt8) (l9_7:Int) (l9_8:Int):Option pg :=
 (cond (Qs l9_5 1)
  ((J9 n l9_6).bind fun r12 =>
  some r12)
  (some false)).bind fun j10 =>
 cond j10
  (((LY n (⟨l9_2,wi (l9_3+1),l9_4,[]⟩:KL)).bind fun r14 =>
  cond (ZB (List.length ([]++r14.1)) 64) (
   some ([]++r14.1,r14.2.tks,r14.2.pos,r14.2.length)) none).bind fun (j13_1,j13_2,j13_3,j13_4) =>
  cond (ZB (List.length (l9_1++[GN.cs (⟨3,l9_6,0,l9_8,j13_1⟩:GN)])) 64) (
   (Yy n (⟨j13_2,j13_3,j13_4,a0r.dg⟩:KL)).bind fun r15 =>
   recl9 (l9_1++[GN.cs (⟨3,l9_6,0,l9_8,j13_1⟩:GN)],j13_2,j13_3,j13_4,r15.Kind,r15.Text,r15.N,r15.At)) none)
  (some (l9_1,l9_2,l9_3,l9_4))
abbrev NM:=((List (List PV)) × (List Y1) × Int × Int × (List KG))
def Xz (j7_1:List (List PV)) (j19_1:List (List PV)) (j19_2:List Y1) (j19_3:Int) (j19_4:Int) (j19_5:List KG):Option NM :=
 cond (ZB (List.length ((([]++j7_1)++[])++j19_1)) 64) (
  some ((([]++j7_1)++[])++j19_1,j19_2,j19_3,j19_4,j19_5)) none
def L6 (n:Nat) (j7_1:List (List PV)) (recl20:NM→Option NM) (l20_1:List (List PV)) (l20_2:List Y1) (l20_3:Int) (l20_4:Int) (l20_5:List KG):Option NM :=
 (Mj n (⟨l20_2,l20_3,l20_4,l20_5⟩:KL)).bind fun r21 =>
 cond (!r21)
  ((Yy n (⟨l20_2,l20_3,l20_4,l20_5⟩:KL)).bind fun r22 =>
  (cond (Qs r22.Kind 3)
   (some (Q8 r22.Text [125]))
   (some false)).bind fun j23 =>
  cond j23
   (cond (ZB (List.length ((([]++j7_1)++[])++l20_1)) 64) (
    some ((([]++j7_1)++[])++l20_1,l20_2,wi (l20_3+1),l20_4,l20_5)) none)
   (((TD n (⟨l20_2,l20_3,l20_4,[]⟩:KL)).bind (MZ (fun r26 =>
    some (true,[],r26.2.tks,r26.2.pos,r26.2.length,l20_5,r26.1.Kind,r26.1.Name,r26.1.N,r26.1.At,r26.1.Kids)) fun e27=>cond (ZB (List.length (l20_5++[(⟨7,e27.1⟩:KG)])) 16) (
    (Mv n (⟨e27.2.tks,e27.2.pos,e27.2.length,[]⟩:KL)).bind fun r28 =>
    some (false,r28.1,r28.2.tks,r28.2.pos,r28.2.length,l20_5++[(⟨7,e27.1⟩:KG)],0,[],0,0,[])) none)).bind fun (j25_1,j25_2,j25_3,j25_4,j25_5,j25_6,j25_7,j25_8,j25_9,j25_10,j25_11) =>
   cond j25_1
    (cond (ZB (List.length (l20_1++[GN.cs (⟨j25_7,j25_8,j25_9,j25_10,j25_11⟩:GN)])) 64) (
     recl20 (l20_1++[GN.cs (⟨j25_7,j25_8,j25_9,j25_10,j25_11⟩:GN)],j25_3,j25_4,j25_5,j25_6)) none)
    (cond (!Q8 j25_2 [59])
     (cond (ZB (List.length ((([]++j7_1)++[])++l20_1)) 64) (
      some ((([]++j7_1)++[])++l20_1,j25_3,j25_4,j25_5,j25_6)) none)
     (recl20 (l20_1,j25_3,j25_4,j25_5,j25_6)))))
  (Xz j7_1 l20_1 l20_2 l20_3 l20_4 l20_5)
def VX (n:Nat) (a0r:KL) (r1:Y1) (r3:Y1) (r5:Int) (j7_1:List (List PV)) (j7_2:List Y1) (j7_3:Int) (j7_4:Int):Option Vq :=
 cond (ZB (List.length (([]++j7_1)++[])) 64) (
  (Q4 (fun recl20 (l20_1,l20_2,l20_3,l20_4,l20_5)=>L6 n j7_1 recl20 l20_1 l20_2 l20_3 l20_4 l20_5) n ([],j7_2,wi (j7_3+1),j7_4,a0r.dg)).bind fun (j18_1,j18_2,j18_3,j18_4,j18_5) =>
  UH r1 r3 r5 j18_1 j18_2 j18_3 j18_4 j18_5) none
def XA (a0r:KL) (r1:Y1) (r3:Y1) (r5:Int) (j35_1:List (List PV)) (j35_2:List Y1) (j35_3:Int) (j35_4:Int):Option Vq :=
 some (.ok ((⟨2,r3.Text,r5,r1.At,j35_1⟩:GN),(⟨j35_2,j35_3,j35_4,a0r.dg⟩:KL)))
def L8 (n:Nat) (a0r:KL) (recl38:ty5→Option pg) (l38_1:List (List PV)) (l38_2:List Y1) (l38_3:Int) (l38_4:Int) (l38_5:Int) (l38_6:List UInt8) (l38_7:Int) (l38_8:Int):Option pg :=
 (cond (Qs l38_5 1)
  ((J9 n l38_6).bind fun r41 =>
  some r41)
  (some false)).bind fun j39 =>
 cond j39
  (((LY n (⟨l38_2,wi (l38_3+1),l38_4,[]⟩:KL)).bind fun r43 =>
  cond (ZB (List.length ([]++r43.1)) 64) (
   some ([]++r43.1,r43.2.tks,r43.2.pos,r43.2.length)) none).bind fun (j42_1,j42_2,j42_3,j42_4) =>
  cond (ZB (List.length (l38_1++[GN.cs (⟨3,l38_6,0,l38_8,j42_1⟩:GN)])) 64) (
   (Yy n (⟨j42_2,j42_3,j42_4,a0r.dg⟩:KL)).bind fun r44 =>
   recl38 (l38_1++[GN.cs (⟨3,l38_6,0,l38_8,j42_1⟩:GN)],j42_2,j42_3,j42_4,r44.Kind,r44.Text,r44.N,r44.At)) none)
  (some (l38_1,l38_2,l38_3,l38_4))
def VY (a0r:KL) (r1:Y1) (r3:Y1) (r5:Int) (j36_1:List (List PV)) (j36_2:List Y1) (j36_3:Int) (j36_4:Int):Option Vq :=
 cond (ZB (List.length (([]++j36_1)++[])) 64) (
  XA a0r r1 r3 r5 (([]++j36_1)++[]) j36_2 (wi (j36_3+1)) j36_4) none
def WW (n:Nat) (a0r:KL) (r1:Y1) (r3:Y1):Option Vq :=
 (Uc n r1.Text).bind fun r5 =>
 cond (Qs r5 7)
  (((Yy n (⟨a0r.tks,wi ((wi (a0r.pos+1))+1),a0r.length,a0r.dg⟩:KL)).bind fun r8 =>
  Q4 (fun recl9 (l9_1,l9_2,l9_3,l9_4,l9_5,l9_6,l9_7,l9_8)=>TF n a0r recl9 l9_1 l9_2 l9_3 l9_4 l9_5 l9_6 l9_7 l9_8) n ([],a0r.tks,wi ((wi (a0r.pos+1))+1),a0r.length,r8.Kind,r8.Text,r8.N,r8.At)).bind fun (j7_1,j7_2,j7_3,j7_4) =>
  cond (ZB (List.length ([]++j7_1)) 64) (
   (Yy n (⟨j7_2,j7_3,j7_4,a0r.dg⟩:KL)).bind fun r16 =>
   (cond (Qs r16.Kind 0)
    (some true)
    ((cond (Qs r16.Kind 3)
     (some (Q8 r16.Text [123]))
     (some false)).bind fun j31 =>
    some (!j31))).bind fun j29 =>
   cond j29
    ((Uf n (⟨j7_2,j7_3,j7_4,a0r.dg⟩:KL)).bind (MZ (fun r33 =>
     VX n a0r r1 r3 r5 j7_1 j7_2 j7_3 j7_4) fun e34=>some (.error (e34,(⟨j7_2,j7_3,j7_4,a0r.dg⟩:KL)))))
    (VX n a0r r1 r3 r5 j7_1 j7_2 j7_3 j7_4)) none)
  (((Yy n (⟨a0r.tks,wi ((wi (a0r.pos+1))+1),a0r.length,a0r.dg⟩:KL)).bind fun r37 =>
  Q4 (fun recl38 (l38_1,l38_2,l38_3,l38_4,l38_5,l38_6,l38_7,l38_8)=>L8 n a0r recl38 l38_1 l38_2 l38_3 l38_4 l38_5 l38_6 l38_7 l38_8) n ([],a0r.tks,wi ((wi (a0r.pos+1))+1),a0r.length,r37.Kind,r37.Text,r37.N,r37.At)).bind fun (j36_1,j36_2,j36_3,j36_4) =>
  cond (ZB (List.length ([]++j36_1)) 64) (
   (Yy n (⟨j36_2,j36_3,j36_4,a0r.dg⟩:KL)).bind fun r45 =>
   (cond (Qs r45.Kind 0)
    (some true)
    ((cond (Qs r45.Kind 3)
     (some (Q8 r45.Text [59]))
     (some false)).bind fun j49 =>
    some (!j49))).bind fun j47 =>
   cond j47
    ((Uf n (⟨j36_2,j36_3,j36_4,a0r.dg⟩:KL)).bind (MZ (fun r51 =>
     VY a0r r1 r3 r5 j36_1 j36_2 j36_3 j36_4) fun e52=>some (.error (e52,(⟨j36_2,j36_3,j36_4,a0r.dg⟩:KL)))))
    (VY a0r r1 r3 r5 j36_1 j36_2 j36_3 j36_4)) none)
def WX (n:Nat) (a0r:KL) (r1:Y1):Option Vq :=
 (Yy n (⟨a0r.tks,wi (a0r.pos+1),a0r.length,a0r.dg⟩:KL)).bind fun r3 =>
 (cond (Qs r3.Kind 0)
  (some true)
  ((cond (Qs r3.Kind 1)
   ((Gq n r3.Text).bind fun r57 =>
   some r57)
   (some false)).bind fun j55 =>
  some (!j55))).bind fun j53 =>
 cond j53
  ((Uf n (⟨a0r.tks,wi (a0r.pos+1),a0r.length,a0r.dg⟩:KL)).bind (MZ (fun r58 =>
   WW n a0r r1 r3) fun e59=>some (.error (e59,(⟨a0r.tks,wi (a0r.pos+1),a0r.length,a0r.dg⟩:KL)))))
  (WW n a0r r1 r3)
def Ao (n:Nat) (a0r:KL):Option Vq :=
 (Yy n a0r).bind fun r1 =>
 (cond (Qs r1.Kind 0)
  (some true)
  ((cond (Qs r1.Kind 1)
   ((CG n r1.Text).bind fun r64 =>
   some r64)
   (some false)).bind fun j62 =>
  some (!j62))).bind fun j60 =>
 cond j60
  ((Uf n a0r).bind (MZ (fun r65 =>
   WX n a0r r1) fun e66=>some (.error (e66,a0r))))
  (WX n a0r r1)
def QcR:=fun x0 x1 x2 x3=>(.box 102 [.p (.sl 4 (List.map Y1.cs x0)),I x1,I x2, .tsl 2 (List.map KG.cs x3) 1103]:Blk)
def Wy:=fun x0=>(.arr 99 2 (List.map KG.cs x0).length:Blk)
def PU:=fun x0 x1 x2 x3=>([(1000,(QcR x0 x1 x2 x3)),(1103,(Wy x3))]:List (Nat × Blk))
def qc:=fun x0 x1 x2 x3=>(.box 102 [.p (.sl 4 (List.map Y1.cs x0)),I x1,I x2, .tsl 2 (List.map KG.cs x3) 1001]:Blk)
def MC:=fun x0 x1 x2 x3 x4=>([(1000,(qc x0 x1 x2 x3)),(1001,(Wy x3)),(1002,(bq5 x4))]:List (Nat × Blk))
def nq0:List (Nat × Nat):=[(1002,401),(1000,1000),(1001,1103)]
def dK:=fun x0=>([(0, .ptr 1000 0),(1, .fn x0 [] [.ptr 1002 0]),(4, .ptr 4 0)]:List (Nat × AV))
def dL:=fun x0=>([(0, .ptr 1000 0),(1, .fn x0 [] [.ptr 1002 0]),(4, .ptr 4 0),(5, .ptr 5 0)]:List (Nat × AV))
def QaW:=fun x0 x1=>([(1, .ptr 1 0),(2, .ptr 2 0),(3, .ptr 3 0),(4,S (Y1.Text x0)),(5,I x1)]:List (Nat × AV))
def QcS:Blk:=.box 106 [.fn (.func 125) [.ptr 1000 0] [], .fn (.func 127) [] [.ptr 1002 0]]
def ME:=fun x0 x1 x2 x3=>([(1000,(qc x0 x1 x2 x3)),(1001,(Wy x3)),(1002, .box 100 [.ptr 1000 0]),(1003,QcS)]:List (Nat × Blk))
def QcT:=fun x0 x1 x2=>(.box 61 [I 2,S (Y1.Text x0),I x1,I (Y1.At x2), .p (.val (.slice none 0 0))]:Blk)
def PW:=fun x0 x1 x2=>([(10,(RH 0 [] 0 0)),(11,(QcT x0 x1 x2))]:List (Nat × Blk))
def aB:=fun x0 x1 x2 x3=>(.box 61 [I 2,S (Y1.Text x0),I x1,I (Y1.At x2), .tsl 5 (List.map YC x3) 300]:Blk)
def MF:=fun x0 x1 x2 x3=>([(10,(RH 0 [] 0 0)),(11,(aB x0 x1 x2 x3))]:List (Nat × Blk))
def vS:=fun x0 x1 x2 x3=>([(10, .ptr 10 0),(11, .ptr 11 0),(13, .fn x0 [.ptr 1000 0] []),(20,x1),(21,I x2),(22,I x3)]:List (Nat × AV))
def Vt:=fun x0 x1 x2 x3=>([(1000,(qc x0 x1 x2 x3)),(1001,(Wy x3))]:List (Nat × Blk))
def qf:List (Nat × Blk):=[(1, .box 100 [.ptr 1000 0])]
def aC:=fun x0 x1 x2 x3=>(⟨[(1, .ptr 1 0)],qf++Vt x0 x1 x2 x3⟩:St)
def kL:List (Nat × AV):=[(1, .ptr 1 0),(3, .p (.val (.slice none 0 0)))]
def dM:List (Nat × AV):=[(1, .ptr 1 0),(3, .p (.val (.slice none 0 0))),(4, .ptr 4 0)]
def dN:=fun x0=>([(1, .box 100 [.ptr 1000 0]),(4, .box 105 (Kw (Y1.cs x0)))]:List (Nat × Blk))
def QaX:=fun x0=>([(1, .ptr 1 0),(3, .tsl 5 (List.map YC x0) 300),(4, .ptr 4 0)]:List (Nat × AV))
def dO:=fun x0 x1 x2 x3=>([(1, .box 100 [.ptr 1000 0]),(4,(bq0 x0 x1 x2 x3))]:List (Nat × Blk))
def uA:=fun x0 x1 x2 x3 x4 x5 x6 x7 x8=>(⟨QaX x0,dO x1 x2 x3 x4++DL x0++Vt x5 x6 x7 x8⟩:St)
def QaY:=fun x0 x1=>([(1, .ptr 1 0),(3, .tsl 5 (List.map YC x0) 300),(4, .ptr 4 0),(14,B x1)]:List (Nat × AV))
def QcU:Blk:=.box 106 [.fn (.func 151) [] [.ptr 1002 0]]
def Gs:=fun x0 x1 x2 x3=>([(1000,(qc x0 x1 x2 x3)),(1001,(Wy x3)),(1002, .box 100 [.ptr 1000 0]),(1003,QcU)]:List (Nat × Blk))
def nq1:List (Nat × Nat):=[(1002,1),(1003,29),(1000,1000),(1001,1001)]
def aD:=fun x0 x1 x2=>([(1,I x0),(2,S x1),(3,I 0),(4,x2),(5, .ptr 5 0),(10, .ptr 10 0)]:List (Nat × AV))
def dP:=fun x0 x1 x2 x3=>(.box 61 [I x0,S x1,I 0,I x2, .tsl 5 (List.map YC x3) 300]:Blk)
def qg:=fun x0 x1 x2 x3=>([(10,(RH 0 [] 0 0)),(11,(dP x0 x1 x2 x3))]:List (Nat × Blk))
def dQ:=fun x0 x1 x2 x3 x4 x5 x6 x7 x8=>(⟨QaX x0,dO x1 x2 x3 x4++FH x0++Vt x5 x6 x7 x8⟩:St)
def QcV:=fun x0 x1 x2 x3 x4=>([(1, .ptr 1 0),(3, .tsl 5 (List.map YC x0) 300),(33, .agg [I x1,S x2,I x3,I x4])]:List (Nat × AV))
def QaZ:=fun x0 x1 x2 x3 x4 x5 x6 x7 x8=>(⟨QcV x0 x1 x2 x3 x4,qf++FH x0++Vt x5 x6 x7 x8⟩:St)
def uB:=fun x0 x1 x2 x3=>([(10, .ptr 10 0),(11, .ptr 11 0),(13, .fn x0 [] [.ptr 1002 0]),(20,x1),(21,I x2),(22,I x3)]:List (Nat × AV))
def Ap:=fun x0 x1 x2 x3=>([(1000,(qc x0 x1 x2 x3)),(1001,(Wy x3)),(1002, .box 100 [.ptr 1000 0])]:List (Nat × Blk))
def nq2:List (Nat × Nat):=[(1000,1000),(1001,1001),(1002,1002)]
def dR:=fun x0 x1 x2 x3=>(⟨[(0, .ptr 1002 0)],Ap x0 x1 x2 x3⟩:St)
def dS:=fun x0 x1 x2 x3 x4 x5 x6 x7=>(⟨FI (.bsl 1003 1) 1 x0,qg 3 x1 x2 x3++FH x3++Gs x4 x5 x6 x7⟩:St)
def nD:=fun x0 x1 x2 x3 x4 x5 x6 x7 x8=>(⟨FI (.bsl 1003 2) 2 x0,MF x1 x2 x3 x4++FH x4++ME x5 x6 x7 x8⟩:St)
def MG:=fun x0 x1 x2 x3 x4=>([(1000,(qc x0 x1 x2 x3)),(1001,(Wy x3)),(1002, .box 9 [S x4])]:List (Nat × Blk))
def nq3:List (Nat × Nat):=[(1002,401),(1000,1000),(1001,1001)]
def QcW:Blk:=.box 106 [.fn (.func 125) [.ptr 1000 0] [], .fn (.func 123) [] [.ptr 1002 0], .fn (.func 126) [.ptr 1000 0] []]
def RD:=fun x0 x1 x2 x3=>([(1000,(qc x0 x1 x2 x3)),(1001,(Wy x3)),(1002, .box 100 [.ptr 1000 0]),(1003,QcW)]:List (Nat × Blk))
def uC:=fun x0 x1 x2 x3 x4 x5 x6 x7 x8=>(⟨FI (.bsl 1003 3) 3 x0,MF x1 x2 x3 x4++FH x4++RD x5 x6 x7 x8⟩:St)
def aF:=fun x0=>([(32, .arr 61 5 (List.map YC x0).length)]:List (Nat × Blk))
def aG:=fun x0 x1 x2 x3 x4=>(⟨[(2, .tsl 5 (List.map YC x0) 32)],aF x0++Vt x1 x2 x3 x4⟩:St)
def nE:=fun x0=>([(1, .ptr 1 0),(3, .tsl 5 (List.map YC x0) 32)]:List (Nat × AV))
def uD:=fun x0=>([(1, .box 100 [.ptr 1000 0]),(32, .arr 61 5 (List.map YC x0).length)]:List (Nat × Blk))
def Qa1:=fun x0=>([(1, .ptr 1 0),(3, .tsl 5 (List.map YC x0) 32),(4, .ptr 4 0)]:List (Nat × AV))
def Qa2:=fun x0 x1=>([(1, .box 100 [.ptr 1000 0]),(4,(jk x0)),(32, .arr 61 5 (List.map YC x1).length)]:List (Nat × Blk))
def aH:=fun x0 x1 x2 x3=>([(1000,(qc x0 x1 x2 x3)),(1001,(Wy x3)),(1002, .box 100 [.ptr 1000 0]),(1003,(RH 0 [] 0 0))]:List (Nat × Blk))
def Qa3:=fun x0=>([(1, .fn x0 [] [.ptr 1002 0, .ptr 1003 0]),(4, .ptr 1901 0),(5, .ptr 1902 0)]:List (Nat × AV))
def aI:=fun x0=>([(1900, .box 100 [.ptr 1000 0]),(1901, .box 4 [B x0]),(1902, .box 9 [S []])]:List (Nat × Blk))
def nq4:List (Nat × Nat):=[(1000,1000),(1001,1001),(1002,1002),(1003,1003)]
def Qa4:=fun x0 x1 x2 x3 x4=>([(1000,(qc x0 x1 x2 x3)),(1001,(Wy x3)),(1002, .box 100 [.ptr 1000 0]),(1003, .box 61 (Kw (GN.cs x4)))]:List (Nat × Blk))
def nq5:List (Nat × Nat):=[(1000,1000),(1001,1001),(1002,1900),(1003,1901),(1004,1902)]
def qi:=fun x0=>([(1002, .box 100 [.ptr 1000 0]),(1003, .box 4 [B x0]),(1004, .box 9 [S []])]:List (Nat × Blk))
def Qa5:List (Nat × AV):=[(0, .ptr 1002 0),(1, .ptr 1003 0),(2, .ptr 1004 0),(3, .p (.val (.nilIface))),(8,B true)]
def Qa6:=fun x0=>([(0, .ptr 1002 0),(1, .ptr 1003 0),(2, .ptr 1004 0),(3, .ifc 176 (.agg [I x0])),(8,B false)]:List (Nat × AV))
def Qa7:=fun x0=>([(0, .ptr 1002 0),(1, .ptr 1003 0),(2, .ptr 1004 0),(3, .ifc 176 (.agg [I x0]))]:List (Nat × AV))
def Qa8:=fun x0=>([(0, .ptr 1002 0),(1, .ptr 1003 0),(2, .ptr 1004 0),(3, .ifc 176 (.agg [I x0])),(4, .ptr 4 0),(5,B true)]:List (Nat × AV))
def uE:=fun x0=>([(4, .box 176 [I x0])]:List (Nat × Blk))
def Qa9:=fun x0=>([(0, .ptr 1002 0),(1, .ptr 1003 0),(2, .ptr 1004 0),(3, .ifc 176 (.agg [I x0])),(4, .ptr 4 0),(15,B false)]:List (Nat × AV))
def Qba:List (Nat × AV):=[(0, .ptr 1002 0),(1, .ptr 1003 0),(2, .ptr 1004 0),(4, .ptr 4 0)]
def Qbb:List (Nat × AV):=[(0, .ptr 1002 0),(1, .ptr 1003 0),(2, .ptr 1004 0)]
abbrev vT (x:List KG):Go.Abs.Blk:=.arr 99 2 (Fa x).length
abbrev tJ (x:List (List PV)):Go.Abs.Blk:=.arr 61 5 (mI x).length
theorem kM (n:Nat) (a0r:KL):∀ r,Ao n a0r=some r→Wz Tryz.prog 80 [Ka] (Go.Abs.look [(1000, .box 102 [.p (.sl 4 (GH a0r.tks)),I a0r.pos,I a0r.length, .tsl 2 (Fa a0r.dg) 1103]),(1103,vT a0r.dg)]) (Xw (vv (fun r:GN × KL=>((.ret (ag (GN.cs r.1)),[(1000, .box 102 [.p (.sl 4 (GH r.2.tks)),I r.2.pos,I r.2.length, .tsl 2 (Fa r.2.dg) 1103]),(1103,vT r.2.dg)]):Z0 × List (Nat × Blk))) (fun e:Int × KL=>((.panic (.ifc 176 (.agg [I e.1])),[(1000, .box 102 [.p (.sl 4 (GH e.2.tks)),I e.2.pos,I e.2.length, .tsl 2 (Fa e.2.dg) 1103]),(1103,vT e.2.dg)]):Z0 × List (Nat × Blk)))) r):=by
 refine Y2 (PU a0r.tks a0r.pos a0r.length a0r.dg) Tryz.func80 rfl Tryz.ntmps80 rfl ?_
 unfold Ao
 refine Qg Qe ⟨[qq 1,qq 2],dJ++PU a0r.tks a0r.pos a0r.length a0r.dg⟩ Qa (sS (M3 ⟨[qq 1,qq 2],dJ++PU a0r.tks a0r.pos a0r.length a0r.dg⟩ Qa (SV [0] 3 3 [1,2,3,4] Qe rfl Qa Qa (Qo (Qz Ka Qa rfl) (Ql)) Qa (BO (f:=119) (args:=[.p (.val (.func (.func 120) #[] #[]))]) (dst:=some 9) Qa Qa rfl (Zn (hc:=[]) (args':=[.p (.val (.func (.func 120) #[] #[]))]) [(1,401)] [] [] Tryz.func119 rfl Tryz.ntmps119 rfl Qa Qa Qa (Qg Qe (sq6 (.func (.func 120) #[] #[])) Qa (Qg Qe (sq7 (.func (.func 120) #[] #[])) Qa (sT (QN (.id) [1] [] (.fn (.func 147) [] [.ptr 1 0]) Qa Qa (kf [0] Qa (Qo (Qz Ka Qa rfl) (Ql)) Qa (BO (f:=118) (args:=[Ka, .fn (.func 147) [] [.ptr 401 0]]) (dst:=some 10) Qa Qa rfl (Zn (hc:=(MC a0r.tks a0r.pos a0r.length a0r.dg (.func (.func 120) #[] #[]))) (args':=[Ka, .fn (.func 147) [] [Jo]]) nq0 [] [] Tryz.func118 rfl Tryz.ntmps118 rfl Qa Qa Qa (Qg Qe ⟨dK (.func 147),uq++MC a0r.tks a0r.pos a0r.length a0r.dg (.func (.func 120) #[] #[])⟩ Qa (sS (sG (xR 1 Qa ?_))))))))))))))))
 refine Gh [.ro [.id, .id, .id, .sl 2]] Qa (KR n a0r) Qa Qa QW (fun r1=>?_)
 refine xR 2 Qa (xE (Qk ⟨dL (.func 147),U9 r1++MC a0r.tks a0r.pos a0r.length a0r.dg (.func (.func 120) #[] #[])⟩ Qa (ZY (fun _=>⟨ut,U9 r1++MC a0r.tks a0r.pos a0r.length a0r.dg (.func (.func 120) #[] #[])⟩:Unit→St) (fun _=>WX n a0r r1) ?_ ?_)))
 rotate_left
 ·refine KM (fun j60=>⟨uu j60,U9 r1++MC a0r.tks a0r.pos a0r.length a0r.dg (.func (.func 120) #[] #[])⟩:Bool→St) ?_ ?_
  rotate_left
  ·rintro j60
   refine sC j60 Qa ?_ ?_
   ·refine sG (xR 1 Qa ?_)
    refine NA [.ro [.id, .id, .id, .sl 2]] Qa (Uo n a0r) Qa Qa QW QW (fun r65=>?_) (fun e66=>?_)
    ·exact xE (Ky (k:=fun _=>WX n a0r r1) () Qa)
    exact Zp (ZO [1000,1001,1002] [] Qa (zY _ rfl (Kk (Kv [1000,1103] [] Qa Qa Qa))))
   exact sK (Ky (k:=fun _=>WX n a0r r1) () Qa)
  refine sG (xR 4 Qa (xS (Qs r1.Kind 0) (fun h61=>xN (QB Qa h61) Qa (xR 4 Qa (xE (QV true Qa)))) (fun h61=>xO (QA Qa h61) Qa (xR 1 Qa (Yr (vQ (.func (.func 120) #[] #[])) [.agg [I r1.Kind,S r1.Text,I r1.N,I r1.At],Ka] [(1000,1002)] [] [] Qa Tryz.func147 rfl Tryz.ntmps147 rfl Qa Qa Qa (Qg Qe (ax r1 (.func (.func 120) #[] #[])) Qa (KM (fun j62=>⟨[(3,B j62)],vQ (.func (.func 120) #[] #[])⟩:Bool→St) ?_ ?_)))))))
  ·refine sG (xR 4 Qa (xS (Qs r1.Kind 1) (fun h63=>?_) (fun h63=>?_)))
   ·refine xO (Qt Qa h63) Qa (xR 2 Qa ?_)
    refine xC [] Qa (Ip n r1.Text) Qa Qa QW (fun r64=>?_)
    exact xR 2 Qa (xE (QV r64 Qa))
   exact xN (Qu Qa h63) Qa (xR 5 Qa (xE (QV false Qa)))
  rintro j62
  exact sT (QN (.id) [1000] [] (B j62) Qa Qa (Yq (xR 2 Qa (xE (QV (!j62) Qa)))))
 rintro _
 show QU (WX n a0r r1) _ _ _ _ _ _
 unfold WX
 refine Qg Qe ⟨[qq 4,qq 5],U9 r1++MC a0r.tks (wi (a0r.pos+1)) a0r.length a0r.dg (.func (.func 120) #[] #[])⟩ Qa (Qg Qe ⟨[qq 4],uw r1++MC a0r.tks (wi (a0r.pos+1)) a0r.length a0r.dg (.func (.func 120) #[] #[])⟩ Qa (sT (QN (.id) [1000,1001,1002] [] (.agg [I r1.Kind,S r1.Text,I r1.N,I r1.At]) Qa Qa (kf [] Qa (Ql) Qa (f_q [0] Qa Qa (Qo (Qz Ka Qa rfl) (Ql)) (df [] rfl Qa Qa (Ql) Qa (mP (Qk ⟨QaT,kK r1++PU a0r.tks (wi (a0r.pos+1)) a0r.length a0r.dg⟩ Qa (sS (Vu [0] [0] [(1,[]),(2,[]),(3,[]),(4,[])] Qe rfl Qa Qa (KY (f:=119) (args:=[.p (.val (.func (.func 122) #[] #[]))]) (dst:=some 12) Qa Qa (Zn (hc:=[]) (args':=[.p (.val (.func (.func 122) #[] #[]))]) [(1,401)] [] [] Tryz.func119 rfl Tryz.ntmps119 rfl Qa Qa Qa (Qg Qe (sq6 (.func (.func 122) #[] #[])) Qa (Qg Qe (sq7 (.func (.func 122) #[] #[])) Qa (sT (QN (.id) [1] [] (.fn (.func 147) [] [.ptr 1 0]) Qa Qa (kh [0] Qa (Qo (Qz Ka Qa rfl) (Ql)) Qa (KY (f:=118) (args:=[Ka, .fn (.func 147) [] [.ptr 401 0]]) (dst:=some 13) Qa Qa (Zn (hc:=(MC a0r.tks (wi (a0r.pos+1)) a0r.length a0r.dg (.func (.func 122) #[] #[]))) (args':=[Ka, .fn (.func 147) [] [Jo]]) nq0 [] [] Tryz.func118 rfl Tryz.ntmps118 rfl Qa Qa Qa (Qg Qe ⟨dK (.func 147),uq++MC a0r.tks (wi (a0r.pos+1)) a0r.length a0r.dg (.func (.func 122) #[] #[])⟩ Qa (sS (sG (xR 1 Qa ?_)))))))))))))))))))))))
 refine Gh [.ro [.id, .id, .id, .sl 2]] Qa (KR n (⟨a0r.tks,wi (a0r.pos+1),a0r.length,a0r.dg⟩:KL)) Qa Qa QW (fun r3=>?_)
 refine xR 2 Qa (xE (Qk ⟨dL (.func 147),U9 r3++MC a0r.tks (wi (a0r.pos+1)) a0r.length a0r.dg (.func (.func 122) #[] #[])⟩ Qa (ZY (fun _=>⟨ut,U9 r3++MC a0r.tks (wi (a0r.pos+1)) a0r.length a0r.dg (.func (.func 122) #[] #[])⟩:Unit→St) (fun _=>WW n a0r r1 r3) ?_ ?_)))
 rotate_left
 ·refine KM (fun j53=>⟨uu j53,U9 r3++MC a0r.tks (wi (a0r.pos+1)) a0r.length a0r.dg (.func (.func 122) #[] #[])⟩:Bool→St) ?_ ?_
  rotate_left
  ·rintro j53
   refine sC j53 Qa ?_ ?_
   ·refine sG (xR 1 Qa ?_)
    refine NA [.ro [.id, .id, .id, .sl 2]] Qa (Uo n (⟨a0r.tks,wi (a0r.pos+1),a0r.length,a0r.dg⟩:KL)) Qa Qa QW QW (fun r58=>?_) (fun e59=>?_)
    ·exact xE (Ky (k:=fun _=>WW n a0r r1 r3) () Qa)
    exact Zp (ZO [1000,1001,1002] [] Qa (zY _ rfl (Kk (Kv [1000,1103] [] Qa Qa Qa))))
   exact sK (Ky (k:=fun _=>WW n a0r r1 r3) () Qa)
  refine sG (xR 4 Qa (xS (Qs r3.Kind 0) (fun h54=>xN (QB Qa h54) Qa (xR 4 Qa (xE (QV true Qa)))) (fun h54=>xO (QA Qa h54) Qa (xR 1 Qa (Yr (vQ (.func (.func 122) #[] #[])) [.agg [I r3.Kind,S r3.Text,I r3.N,I r3.At],Ka] [(1000,1002)] [] [] Qa Tryz.func147 rfl Tryz.ntmps147 rfl Qa Qa Qa (Qg Qe (ax r3 (.func (.func 122) #[] #[])) Qa (KM (fun j55=>⟨[(3,B j55)],vQ (.func (.func 122) #[] #[])⟩:Bool→St) ?_ ?_)))))))
  ·refine sG (xR 4 Qa (xS (Qs r3.Kind 1) (fun h56=>?_) (fun h56=>?_)))
   ·refine xO (Qt Qa h56) Qa (xR 2 Qa ?_)
    refine xC [] Qa (FD n r3.Text) Qa Qa QW (fun r57=>?_)
    exact xR 2 Qa (xE (QV r57 Qa))
   exact xN (Qu Qa h56) Qa (xR 5 Qa (xE (QV false Qa)))
  rintro j55
  exact sT (QN (.id) [1000] [] (B j55) Qa Qa (Yq (xR 2 Qa (xE (QV (!j55) Qa)))))
 rintro _
 show QU (WW n a0r r1 r3) _ _ _ _ _ _
 unfold WW
 refine Qg Qe ⟨[qq 4,qq 5],U9 r3++MC a0r.tks (wi ((wi (a0r.pos+1))+1)) a0r.length a0r.dg (.func (.func 122) #[] #[])⟩ Qa (Qg Qe ⟨[qq 4],uw r3++MC a0r.tks (wi ((wi (a0r.pos+1))+1)) a0r.length a0r.dg (.func (.func 122) #[] #[])⟩ Qa (sT (QN (.id) [1000,1001,1002] [] (.agg [I r3.Kind,S r3.Text,I r3.N,I r3.At]) Qa Qa (kh [] Qa (Ql) Qa (WJ [] Qa Qa (Ql) (WJ [] Qa Qa (Ql) (WV (Qk ⟨[qq 1,qq 2,qq 3,(4,S r3.Text)],kK r1++PU a0r.tks (wi ((wi (a0r.pos+1))+1)) a0r.length a0r.dg⟩ Qa (sS (sG (xR 2 Qa ?_)))))))))))
 refine xC [] Qa (FB n r1.Text) Qa Qa QW (fun r5=>?_)
 refine xR 1 Qa (xE (Qk ⟨QaW r3 r5,kK r1++PU a0r.tks (wi ((wi (a0r.pos+1))+1)) a0r.length a0r.dg⟩ Qa (sS (Qg Qe ⟨[qq 1,qq 2,qq 3,(4,S r3.Text),(5,I r5),(19,B (Qs r5 7))],kK r1++PU a0r.tks (wi ((wi (a0r.pos+1))+1)) a0r.length a0r.dg⟩ Qa (sC (Qs r5 7) Qa ?_ ?_)))))
 rotate_left
 ·refine sK (Qk ⟨QaW r3 r5,kK r1++PU a0r.tks (wi ((wi (a0r.pos+1))+1)) a0r.length a0r.dg⟩ Qa (Qg Qe ⟨[qq 1,qq 2,qq 3,(4,S r3.Text),(5,I r5),(7, .fn (.func 127) [] [.ptr 1 0])],kK r1++PU a0r.tks (wi ((wi (a0r.pos+1))+1)) a0r.length a0r.dg⟩ Qa (sS (sG (xR 7 Qa (Yr (ME a0r.tks (wi ((wi (a0r.pos+1))+1)) a0r.length a0r.dg) [.agg [I r1.Kind,S r1.Text,I r1.N,I r1.At],I 2,S r3.Text,I r5, .bsl 1003 2] [(1002,1),(1003,38),(1000,1000),(1001,1103)] [] [] Qa Tryz.func43 rfl Tryz.ntmps43 rfl Qa Qa Qa (Qg Qe ⟨ay 2 r3 r5 (.bsl 1003 2),av r1++ME a0r.tks (wi ((wi (a0r.pos+1))+1)) a0r.length a0r.dg⟩ Qa (Qg Qe ⟨uy (.bsl 1003 2),PW r3 r5 r1++ME a0r.tks (wi ((wi (a0r.pos+1))+1)) a0r.length a0r.dg⟩ Qa (ZY (fun (j35_1,j35_2,j35_3,j35_4)=>⟨[qq 10,qq 11],MF r3 r5 r1 j35_1++DL j35_1++ME j35_2 j35_3 j35_4 a0r.dg⟩:pg→St) (fun (j35_1,j35_2,j35_3,j35_4)=>XA a0r r1 r3 r5 j35_1 j35_2 j35_3 j35_4) ?_ ?_)))))))))
  ·rintro ⟨j35_1,j35_2,j35_3,j35_4⟩
   show QU (XA a0r r1 r3 r5 j35_1 j35_2 j35_3 j35_4) _ _ _ _ _ _
   unfold XA
   exact Qg Qe ⟨[qq 10],[(10,(aB r3 r5 r1 j35_1))]++DL j35_1++ME j35_2 j35_3 j35_4 a0r.dg⟩ Qa (sT (QN (.agg [.id, .id, .id, .id, .sl 5]) [1000,1001,1002,1003] [] (.agg [I 2,S r3.Text,I r5,I r1.At, .p (.sl 5 (mI j35_1))]) Qa Qa (Yq (xR 1 Qa (xE (Qk ⟨[qq 2],[(2,(jk ⟨2,r3.Text,r5,r1.At,j35_1⟩))]++PU j35_2 j35_3 j35_4 a0r.dg⟩ Qa (sT (YQ (.id) [1000,1103] [] Qa Qa Qa Qa))))))))
  refine Qg Qe ⟨FI (.bsl 1003 2) 2 0,PW r3 r5 r1++ME a0r.tks (wi ((wi (a0r.pos+1))+1)) a0r.length a0r.dg⟩ Qa (sB (Yx 2 (Qg Qe ⟨CL (.bsl 1003 2) 2 0 true,PW r3 r5 r1++ME a0r.tks (wi ((wi (a0r.pos+1))+1)) a0r.length a0r.dg⟩ Qa (sS (Q3 Qa (sK (Qk ⟨FI (.bsl 1003 2) 2 0,PW r3 r5 r1++ME a0r.tks (wi ((wi (a0r.pos+1))+1)) a0r.length a0r.dg⟩ Qa (sS (sB (Qg Qe ⟨vS (.func 125) (.bsl 1003 2) 2 0,PW r3 r5 r1++ME a0r.tks (wi ((wi (a0r.pos+1))+1)) a0r.length a0r.dg⟩ Qa (M3 ⟨vS (.func 125) (.bsl 1003 2) 2 0,PW r3 r5 r1++ME a0r.tks (wi ((wi (a0r.pos+1))+1)) a0r.length a0r.dg⟩ Qa (Zq (KZ 61 5 300 [] [(11,4)] Qa) (Vu [0,1,2] [0,1] [(3,[]),(4,[]),(5,[]),(6,[])] Qe rfl Qa Qa (KY (f:=125) (args:=[Ka]) (dst:=some 29) Qa Qa (Zn (hc:=(Vt a0r.tks (wi ((wi (a0r.pos+1))+1)) a0r.length a0r.dg)) (args':=[Ka]) [(1000,1000),(1001,1001)] [] [] Tryz.func125 rfl Tryz.ntmps125 rfl Qa Qa Qa (Qg Qe (aC a0r.tks (wi ((wi (a0r.pos+1))+1)) a0r.length a0r.dg) Qa (Qg Qe ⟨kL,qf++Vt a0r.tks (wi ((wi (a0r.pos+1))+1)) a0r.length a0r.dg⟩ Qa (KM (fun (j36_1,j36_2,j36_3,j36_4)=>⟨[(3, .tsl 5 (mI j36_1) 300)],DL j36_1++Vt j36_2 j36_3 j36_4 a0r.dg⟩:pg→St) ?_ ?_))))))))))))))))))
  ·refine sS (sG (xR 1 Qa ?_))
   refine Gh [.ro [.id, .id, .id, .sl 2]] Qa (KR n (⟨a0r.tks,wi ((wi (a0r.pos+1))+1),a0r.length,a0r.dg⟩:KL)) Qa Qa QW (fun r37=>?_)
   refine xR 2 Qa (xE (Qk ⟨dM,dN r37++Vt a0r.tks (wi ((wi (a0r.pos+1))+1)) a0r.length a0r.dg⟩ Qa (sB (M3 ⟨dM,dN r37++Vt a0r.tks (wi ((wi (a0r.pos+1))+1)) a0r.length a0r.dg⟩ Qa (Zq (KZ 61 5 300 [3] [] Qa) (Qw (fun (l38_1,l38_2,l38_3,l38_4,l38_5,l38_6,l38_7,l38_8)=>(uA l38_1 l38_5 l38_6 l38_7 l38_8 l38_2 l38_3 l38_4 a0r.dg):ty5→St) (Wq Qa) ?_))))))
   rintro recl38 ⟨l38_1,l38_2,l38_3,l38_4,l38_5,l38_6,l38_7,l38_8⟩
   show QU (L8 n a0r recl38 l38_1 l38_2 l38_3 l38_4 l38_5 l38_6 l38_7 l38_8) _ _ _ _ _ _
   unfold L8
   refine sS (KM (fun j39=>⟨QaY l38_1 j39,dO l38_5 l38_6 l38_7 l38_8++DL l38_1++Vt l38_2 l38_3 l38_4 a0r.dg⟩:Bool→St) ?_ ?_)
   ·refine sG (xR 4 Qa (xS (Qs l38_5 1) (fun h40=>?_) (fun h40=>?_)))
    ·refine xO (Qt Qa h40) Qa (xR 1 Qa ?_)
     refine xC [] Qa (Un n l38_6) Qa Qa QW (fun r41=>?_)
     exact xR 1 Qa (xE (QV r41 Qa))
    exact xN (Qu Qa h40) Qa (xR 3 Qa (xE (QV false Qa)))
   rintro j39
   refine sC j39 Qa (sK (Qk (uA l38_1 l38_5 l38_6 l38_7 l38_8 l38_2 l38_3 l38_4 a0r.dg) Qa (sS (sB (Qg Qe (uA l38_1 l38_5 l38_6 l38_7 l38_8 l38_2 (wi (l38_3+1)) l38_4 a0r.dg) Qa (sG (xR 6 Qa (Yr (Gs l38_2 (wi (l38_3+1)) l38_4 a0r.dg) [.agg [I l38_5,S l38_6,I l38_7,I l38_8],I 3,S l38_6,I 0, .bsl 1003 1] nq1 [] [] Qa Tryz.func43 rfl Tryz.ntmps43 rfl Qa Qa Qa (Qg Qe ⟨aD 3 l38_6 (.bsl 1003 1),[(5,(bq0 l38_5 l38_6 l38_7 l38_8)),(10,(RH 0 [] 0 0))]++Gs l38_2 (wi (l38_3+1)) l38_4 a0r.dg⟩ Qa (Qg Qe ⟨uy (.bsl 1003 1),CJ 3 l38_6 0 l38_8++Gs l38_2 (wi (l38_3+1)) l38_4 a0r.dg⟩ Qa (KM (fun (j42_1,j42_2,j42_3,j42_4)=>⟨[qq 10,qq 11],qg 3 l38_6 l38_8 j42_1++DL j42_1++Gs j42_2 j42_3 j42_4 a0r.dg⟩:pg→St) ?_ ?_))))))))))) (Qm (Zu (ZP (QG (QV (l38_1,l38_2,l38_3,l38_4) Qa)))))
   rotate_left
   ·rintro ⟨j42_1,j42_2,j42_3,j42_4⟩
    refine Qg Qe ⟨[qq 10],[(10,(dP 3 l38_6 l38_8 j42_1))]++DL j42_1++Gs j42_2 j42_3 j42_4 a0r.dg⟩ Qa (sT (QN (.agg [.id, .id, .id, .id, .sl 5]) [1000,1001,1002,1003] [] (.agg [I 3,S l38_6,I 0,I l38_8, .p (.sl 5 (mI j42_1))]) Qa Qa (Yq (xR 1 Qa (xF Qa Qa (ZM (e:=61) (S:=5) (by_:=64) (enc:=YC) (tk:=300) (l:=l38_1) (l2:=[GN.cs (⟨3,l38_6,0,l38_8,j42_1⟩:GN)]) (xv:=.tsl 5 (mI [GN.cs (⟨3,l38_6,0,l38_8,j42_1⟩:GN)]) 31) rfl Qa Qa rfl Qa Qa Qa rfl Qa) (xR 1 Qa (xE (QT (Qk (dQ (l38_1++[GN.cs (⟨3,l38_6,0,l38_8,j42_1⟩:GN)]) l38_5 l38_6 l38_7 l38_8 j42_2 j42_3 j42_4 a0r.dg) Qa (sS (Qg Qe (QaZ (l38_1++[GN.cs (⟨3,l38_6,0,l38_8,j42_1⟩:GN)]) l38_5 l38_6 l38_7 l38_8 j42_2 j42_3 j42_4 a0r.dg) Qa (sL Qe Qa (Qk (dQ (l38_1++[GN.cs (⟨3,l38_6,0,l38_8,j42_1⟩:GN)]) l38_5 l38_6 l38_7 l38_8 j42_2 j42_3 j42_4 a0r.dg) Qa (sG (xR 1 Qa ?_)))))))))))))))
    refine Gh [.ro [.id, .id, .id, .sl 2]] Qa (KR n (⟨j42_2,j42_3,j42_4,a0r.dg⟩:KL)) Qa Qa QW (fun r44=>?_)
    exact xR 1 Qa (xE (Ky (l38_1++[GN.cs (⟨3,l38_6,0,l38_8,j42_1⟩:GN)],j42_2,j42_3,j42_4,r44.Kind,r44.Text,r44.N,r44.At) Qa))
   refine Qg Qe ⟨FI (.bsl 1003 1) 1 0,CJ 3 l38_6 0 l38_8++Gs l38_2 (wi (l38_3+1)) l38_4 a0r.dg⟩ Qa (sB (Yx 1 (Qg Qe ⟨CL (.bsl 1003 1) 1 0 true,CJ 3 l38_6 0 l38_8++Gs l38_2 (wi (l38_3+1)) l38_4 a0r.dg⟩ Qa (sS (Q3 Qa (sK (Qk ⟨FI (.bsl 1003 1) 1 0,CJ 3 l38_6 0 l38_8++Gs l38_2 (wi (l38_3+1)) l38_4 a0r.dg⟩ Qa (sS (sB (Qg Qe ⟨uB (.func 151) (.bsl 1003 1) 1 0,CJ 3 l38_6 0 l38_8++Gs l38_2 (wi (l38_3+1)) l38_4 a0r.dg⟩ Qa (M3 ⟨uB (.func 151) (.bsl 1003 1) 1 0,CJ 3 l38_6 0 l38_8++Gs l38_2 (wi (l38_3+1)) l38_4 a0r.dg⟩ Qa (Zq (KZ 61 5 300 [] [(11,4)] Qa) (Vu [0,1,2] [0,1] [(3,[]),(4,[]),(5,[]),(6,[])] Qe rfl Qa Qa (KY (f:=151) (args:=[Jo]) (dst:=some 29) Qa Qa (Zn (hc:=(Ap l38_2 (wi (l38_3+1)) l38_4 a0r.dg)) (args':=[Jo]) nq2 [] [] Tryz.func151 rfl Tryz.ntmps151 rfl Qa Qa Qa (Qg Qe (dR l38_2 (wi (l38_3+1)) l38_4 a0r.dg) Qa (sS (sG (xR 1 Qa (Yj (f:=152) (args:=[Ka, .p (.val (.func (.func 122) #[] #[]))]) Qa Qa Qa ?_))))))))))))))))))))
   refine BR 1000 3 1001 99 2 (Fa a0r.dg).length (Fa a0r.dg) ⟨[0,2],[1000,1002],[],[]⟩ Qa Qa rfl (fun _ _ _=>by kernel_rfl) (fun hu43w hu43l hu43c=>?_)
   refine BI [(1000,1000)] [] [] (DN n (⟨l38_2,wi (l38_3+1),l38_4,[]⟩:KL) hu43w hu43l hu43c) Qa Qa Qa QW QW (fun r43=>?_)
   exact S9 _ rfl Qa Qa (Yq (xR 1 Qa (xE (Qk ⟨[(1, .p (.sl 5 (mI r43.1)))],Ap r43.2.tks r43.2.pos r43.2.length a0r.dg⟩ Qa (sT (QN (.id) [1000,1001,1002] [] (.p (.sl 5 (mI r43.1))) Qa Qa (kh [0,1] Qa (Qo (Qz (.ptr 11 4) Qa rfl) (Qo (WU (S:=5) (t:=300) (ty:=61) (es:=mI []) Qa Qa rfl) (Ql))) Qa (SL [] rfl Qa Qa (WS (e:=61) (S:=5) (by_:=64) (enc:=YC) (tk:=300) (l:=[]) (l2:=r43.1) (xv:=.p (.sl 5 (mI r43.1))) rfl Qa Qa rfl Qa Qa Qa Qa) (fun _=>Ql) (WJ [] Qa Qa (Ql) (WJ [] Qa Qa (Ql) (WV (QT (Qk (dS 0 l38_6 l38_8 ([]++r43.1) r43.2.tks r43.2.pos r43.2.length a0r.dg) Qa (sL Qe Qa (UB ⟨[10,11,20,21,22],[10,11,300,1000,1001,1002,1003],[],[]⟩ (dS 1 l38_6 l38_8 ([]++r43.1) r43.2.tks r43.2.pos r43.2.length a0r.dg) Qa (Qg Qe ⟨CL (.bsl 1003 1) 1 1 false,qg 3 l38_6 l38_8 ([]++r43.1)++FH ([]++r43.1)++Gs r43.2.tks r43.2.pos r43.2.length a0r.dg⟩ Qa (sS (QZ Qa (Qm (Zu (LV (QG (QV ([]++r43.1,r43.2.tks,r43.2.pos,r43.2.length) Qa)))))))))))))))))))))))
  rintro ⟨j36_1,j36_2,j36_3,j36_4⟩
  refine Qg Qe ⟨[(2, .tsl 5 (mI j36_1) 300)],DL j36_1++Vt j36_2 j36_3 j36_4 a0r.dg⟩ Qa (sT (QN (.sl 5) [1000,1001] [] (.p (.sl 5 (mI j36_1))) Qa Qa (kh [0,1] Qa (Qo (Qz (.ptr 11 4) Qa rfl) (Qo (WU (S:=5) (t:=300) (ty:=61) (es:=mI []) Qa Qa rfl) (Ql))) Qa (SL [] rfl Qa Qa (WS (e:=61) (S:=5) (by_:=64) (enc:=YC) (tk:=300) (l:=[]) (l2:=j36_1) (xv:=.p (.sl 5 (mI j36_1))) rfl Qa Qa rfl Qa Qa Qa Qa) (fun _=>Ql) (WJ [] Qa Qa (Ql) (WJ [] Qa Qa (Ql) (WV (QT (Qk (nD 0 r3 r5 r1 ([]++j36_1) j36_2 j36_3 j36_4 a0r.dg) Qa (sL Qe Qa (UB ⟨[10,11,20,21,22],[10,11,300,1000,1001,1002,1003],[],[]⟩ (nD 1 r3 r5 r1 ([]++j36_1) j36_2 j36_3 j36_4 a0r.dg) Qa (Qg Qe ⟨CL (.bsl 1003 2) 2 1 true,MF r3 r5 r1 ([]++j36_1)++FH ([]++j36_1)++ME j36_2 j36_3 j36_4 a0r.dg⟩ Qa (sS (Q3 Qa (sK (Qk (nD 1 r3 r5 r1 ([]++j36_1) j36_2 j36_3 j36_4 a0r.dg) Qa (sS (sB (Qg Qe ⟨uB (.func 127) (.bsl 1003 2) 2 1,MF r3 r5 r1 ([]++j36_1)++FH ([]++j36_1)++ME j36_2 j36_3 j36_4 a0r.dg⟩ Qa (Vu [0,1,2] [0,1] [(3,[]),(4,[]),(5,[]),(6,[])] Qe rfl Qa Qa (KY (f:=127) (args:=[Jo]) (dst:=some 29) Qa Qa (Zn (hc:=(Ap j36_2 j36_3 j36_4 a0r.dg)) (args':=[Jo]) nq2 [] [] Tryz.func127 rfl Tryz.ntmps127 rfl Qa Qa Qa (Qg Qe (dR j36_2 j36_3 j36_4 a0r.dg) Qa (sS (Vu [0] [0] [(1,[]),(2,[])] Qe rfl Qa Qa (KY (f:=124) (args:=[S [59]]) (dst:=some 3) Qa Qa (Zn (hc:=[]) (args':=[S [59]]) [(1,401)] [] [] Tryz.func124 rfl Tryz.ntmps124 rfl Qa Qa Qa (Qg Qe ⟨[qq 1],nC [59]⟩ Qa (Qg Qe (sq8 [59]) Qa (sT (QN (.id) [1] [] (.fn (.func 149) [] [.ptr 1 0]) Qa Qa (kh [0] Qa (Qo (Qz Ka Qa rfl) (Ql)) Qa (KY (f:=118) (args:=[Ka, .fn (.func 149) [] [.ptr 401 0]]) (dst:=some 4) Qa Qa (Zn (hc:=(MG j36_2 j36_3 j36_4 a0r.dg [59])) (args':=[Ka, .fn (.func 149) [] [Jo]]) nq3 [] [] Tryz.func118 rfl Tryz.ntmps118 rfl Qa Qa Qa (Qg Qe ⟨dK (.func 149),uq++MG j36_2 j36_3 j36_4 a0r.dg [59]⟩ Qa (sS (sG (xR 1 Qa ?_))))))))))))))))))))))))))))))))))))))
  refine Gh [.ro [.id, .id, .id, .sl 2]] Qa (KR n (⟨j36_2,j36_3,j36_4,a0r.dg⟩:KL)) Qa Qa QW (fun r45=>?_)
  refine xR 2 Qa (xE (Qk ⟨dL (.func 149),U9 r45++MG j36_2 j36_3 j36_4 a0r.dg [59]⟩ Qa (ZY (fun _=>⟨ut,U9 r45++MG j36_2 j36_3 j36_4 a0r.dg [59]⟩:Unit→St) (fun _=>VY a0r r1 r3 r5 j36_1 j36_2 j36_3 j36_4) ?_ ?_)))
  ·rintro _
   show QU (VY a0r r1 r3 r5 j36_1 j36_2 j36_3 j36_4) _ _ _ _ _ _
   unfold VY
   exact Qg Qe ⟨[qq 4,qq 5],U9 r45++MG j36_2 (wi (j36_3+1)) j36_4 a0r.dg [59]⟩ Qa (Qg Qe ⟨[qq 4],uw r45++MG j36_2 (wi (j36_3+1)) j36_4 a0r.dg [59]⟩ Qa (sT (QN (.id) [1000,1001,1002] [] (.agg [I r45.Kind,S r45.Text,I r45.N,I r45.At]) Qa Qa (kh [] Qa (Ql) Qa (WV (Qk ⟨[],Ap j36_2 (wi (j36_3+1)) j36_4 a0r.dg⟩ Qa (Qg Qe ⟨[(1,zS)],Ap j36_2 (wi (j36_3+1)) j36_4 a0r.dg⟩ Qa (sT (QN (.sl 5) [1000,1001,1002] [] (.p (.sl 5 (mI []))) Qa Qa (kh [0,1] Qa (Qo (Qz (.ptr 11 4) Qa rfl) (Qo (WU (S:=5) (t:=300) (ty:=61) (es:=mI ([]++j36_1)) Qa Qa rfl) (Ql))) Qa (SL [] rfl Qa Qa (WS (e:=61) (S:=5) (by_:=64) (enc:=YC) (tk:=300) (l:=[]++j36_1) (l2:=[]) (xv:=.p (.sl 5 (mI []))) rfl Qa Qa rfl Qa Qa Qa Qa) (fun _=>Ql) (WJ [] Qa Qa (Ql) (WJ [] Qa Qa (Ql) (WV (QT (Qk (nD 1 r3 r5 r1 (([]++j36_1)++[]) j36_2 (wi (j36_3+1)) j36_4 a0r.dg) Qa (sL Qe Qa (UB ⟨[10,11,20,21,22],[10,11,300,1000,1001,1002,1003],[],[]⟩ (nD 2 r3 r5 r1 (([]++j36_1)++[]) j36_2 (wi (j36_3+1)) j36_4 a0r.dg) Qa (Qg Qe ⟨CL (.bsl 1003 2) 2 2 false,MF r3 r5 r1 (([]++j36_1)++[])++FH (([]++j36_1)++[])++ME j36_2 (wi (j36_3+1)) j36_4 a0r.dg⟩ Qa (sS (QZ Qa (Qm (Zu (LV (QG (Ky (k:=fun (j35_1,j35_2,j35_3,j35_4)=>XA a0r r1 r3 r5 j35_1 j35_2 j35_3 j35_4) (([]++j36_1)++[],j36_2,wi (j36_3+1),j36_4) Qa))))))))))))))))))))))))))
  refine KM (fun j47=>⟨uu j47,U9 r45++MG j36_2 j36_3 j36_4 a0r.dg [59]⟩:Bool→St) ?_ ?_
  rotate_left
  ·rintro j47
   refine sC j47 Qa (sG (xR 1 Qa ?_)) (sK (Ky (k:=fun _=>VY a0r r1 r3 r5 j36_1 j36_2 j36_3 j36_4) () Qa))
   refine NA [.ro [.id, .id, .id, .sl 2]] Qa (Uo n (⟨j36_2,j36_3,j36_4,a0r.dg⟩:KL)) Qa Qa QW QW (fun r51=>?_) (fun e52=>?_)
   ·exact xE (Ky (k:=fun _=>VY a0r r1 r3 r5 j36_1 j36_2 j36_3 j36_4) () Qa)
   exact Zp (ZO [1000,1001,1002] [] Qa (zY _ rfl (Kk (ZO [1000,1001,1002] [] Qa (zY _ rfl (Zj (Kk (QaH (Zj (Zp (ZO [1000,1001,1002,1003] [] Qa (Kk (Kv [1000,1103] [] Qa Qa Qa)))))))))))))
  refine sG (xR 4 Qa (xS (Qs r45.Kind 0) (fun h48=>xN (QB Qa h48) Qa (xR 4 Qa (xE (QV true Qa)))) (fun h48=>xO (QA Qa h48) Qa (xR 1 Qa (Yr (qb [59]) [.agg [I r45.Kind,S r45.Text,I r45.N,I r45.At],Ka] [(1000,1002)] [] [] Qa Tryz.func149 rfl Tryz.ntmps149 rfl Qa Qa Qa (Qg Qe (sq9 r45 [59]) Qa (KM (fun j49=>⟨[(3,B j49)],qb [59]⟩:Bool→St) (sG (xR 4 Qa (xS (Qs r45.Kind 3) (fun h50=>xO (Qt Qa h50) Qa (xR 5 Qa (xE (QV (Q8 r45.Text [59]) Qa)))) (fun h50=>xN (Qu Qa h50) Qa (xR 5 Qa (xE (QV false Qa))))))) ?_)))))))
  rintro j49
  exact sT (QN (.id) [1000] [] (B j49) Qa Qa (Yq (xR 2 Qa (xE (QV (!j49) Qa)))))
 refine Qg Qe ⟨[qq 1,qq 2,qq 3,(4,S r3.Text),(5,I r5),(6, .fn (.func 123) [] [.ptr 1 0])],kK r1++PU a0r.tks (wi ((wi (a0r.pos+1))+1)) a0r.length a0r.dg⟩ Qa (sS (sG (xR 9 Qa (Yr (RD a0r.tks (wi ((wi (a0r.pos+1))+1)) a0r.length a0r.dg) [.agg [I r1.Kind,S r1.Text,I r1.N,I r1.At],I 2,S r3.Text,I r5, .bsl 1003 3] [(1002,1),(1003,29),(1000,1000),(1001,1103)] [] [] Qa Tryz.func43 rfl Tryz.ntmps43 rfl Qa Qa Qa (Qg Qe ⟨ay 2 r3 r5 (.bsl 1003 3),av r1++RD a0r.tks (wi ((wi (a0r.pos+1))+1)) a0r.length a0r.dg⟩ Qa (Qg Qe ⟨uy (.bsl 1003 3),PW r3 r5 r1++RD a0r.tks (wi ((wi (a0r.pos+1))+1)) a0r.length a0r.dg⟩ Qa (ZY (fun (j6_1,j6_2,j6_3,j6_4,j6_5)=>⟨[qq 10,qq 11],MF r3 r5 r1 j6_1++DL j6_1++RD j6_2 j6_3 j6_4 j6_5⟩:NM→St) (fun (j6_1,j6_2,j6_3,j6_4,j6_5)=>UH r1 r3 r5 j6_1 j6_2 j6_3 j6_4 j6_5) ?_ ?_)))))))
 ·rintro ⟨j6_1,j6_2,j6_3,j6_4,j6_5⟩
  show QU (UH r1 r3 r5 j6_1 j6_2 j6_3 j6_4 j6_5) _ _ _ _ _ _
  unfold UH
  exact Qg Qe ⟨[qq 10],[(10,(aB r3 r5 r1 j6_1))]++DL j6_1++RD j6_2 j6_3 j6_4 j6_5⟩ Qa (sT (QN (.agg [.id, .id, .id, .id, .sl 5]) [1000,1001,1002,1003] [] (.agg [I 2,S r3.Text,I r5,I r1.At, .p (.sl 5 (mI j6_1))]) Qa Qa (Yq (xR 1 Qa (xE (Qk ⟨[qq 2],[(2,(jk ⟨2,r3.Text,r5,r1.At,j6_1⟩))]++PU j6_2 j6_3 j6_4 j6_5⟩ Qa (sT (QY (YQ (.id) [1000,1103] [] Qa Qa Qa Qa)))))))))
 refine Qg Qe ⟨FI (.bsl 1003 3) 3 0,PW r3 r5 r1++RD a0r.tks (wi ((wi (a0r.pos+1))+1)) a0r.length a0r.dg⟩ Qa (sB (Yx 3 (Qg Qe ⟨CL (.bsl 1003 3) 3 0 true,PW r3 r5 r1++RD a0r.tks (wi ((wi (a0r.pos+1))+1)) a0r.length a0r.dg⟩ Qa (sS (Q3 Qa (sK (Qk ⟨FI (.bsl 1003 3) 3 0,PW r3 r5 r1++RD a0r.tks (wi ((wi (a0r.pos+1))+1)) a0r.length a0r.dg⟩ Qa (sS (sB (Qg Qe ⟨vS (.func 125) (.bsl 1003 3) 3 0,PW r3 r5 r1++RD a0r.tks (wi ((wi (a0r.pos+1))+1)) a0r.length a0r.dg⟩ Qa (M3 ⟨vS (.func 125) (.bsl 1003 3) 3 0,PW r3 r5 r1++RD a0r.tks (wi ((wi (a0r.pos+1))+1)) a0r.length a0r.dg⟩ Qa (Zq (KZ 61 5 300 [] [(11,4)] Qa) (Vu [0,1,2] [0,1] [(3,[]),(4,[]),(5,[]),(6,[])] Qe rfl Qa Qa (KY (f:=125) (args:=[Ka]) (dst:=some 29) Qa Qa (Zn (hc:=(Vt a0r.tks (wi ((wi (a0r.pos+1))+1)) a0r.length a0r.dg)) (args':=[Ka]) [(1000,1000),(1001,1001)] [] [] Tryz.func125 rfl Tryz.ntmps125 rfl Qa Qa Qa (Qg Qe (aC a0r.tks (wi ((wi (a0r.pos+1))+1)) a0r.length a0r.dg) Qa (Qg Qe ⟨kL,qf++Vt a0r.tks (wi ((wi (a0r.pos+1))+1)) a0r.length a0r.dg⟩ Qa (KM (fun (j7_1,j7_2,j7_3,j7_4)=>⟨[(3, .tsl 5 (mI j7_1) 300)],DL j7_1++Vt j7_2 j7_3 j7_4 a0r.dg⟩:pg→St) ?_ ?_))))))))))))))))))
 ·refine sS (sG (xR 1 Qa ?_))
  refine Gh [.ro [.id, .id, .id, .sl 2]] Qa (KR n (⟨a0r.tks,wi ((wi (a0r.pos+1))+1),a0r.length,a0r.dg⟩:KL)) Qa Qa QW (fun r8=>?_)
  refine xR 2 Qa (xE (Qk ⟨dM,dN r8++Vt a0r.tks (wi ((wi (a0r.pos+1))+1)) a0r.length a0r.dg⟩ Qa (sB (M3 ⟨dM,dN r8++Vt a0r.tks (wi ((wi (a0r.pos+1))+1)) a0r.length a0r.dg⟩ Qa (Zq (KZ 61 5 300 [3] [] Qa) (Qw (fun (l9_1,l9_2,l9_3,l9_4,l9_5,l9_6,l9_7,l9_8)=>(uA l9_1 l9_5 l9_6 l9_7 l9_8 l9_2 l9_3 l9_4 a0r.dg):ty5→St) (Wq Qa) ?_))))))
  rintro recl9 ⟨l9_1,l9_2,l9_3,l9_4,l9_5,l9_6,l9_7,l9_8⟩
  show QU (TF n a0r recl9 l9_1 l9_2 l9_3 l9_4 l9_5 l9_6 l9_7 l9_8) _ _ _ _ _ _
  unfold TF
  refine sS (KM (fun j10=>⟨QaY l9_1 j10,dO l9_5 l9_6 l9_7 l9_8++DL l9_1++Vt l9_2 l9_3 l9_4 a0r.dg⟩:Bool→St) ?_ ?_)
  ·refine sG (xR 4 Qa (xS (Qs l9_5 1) (fun h11=>?_) (fun h11=>?_)))
   ·refine xO (Qt Qa h11) Qa (xR 1 Qa ?_)
    refine xC [] Qa (Un n l9_6) Qa Qa QW (fun r12=>?_)
    exact xR 1 Qa (xE (QV r12 Qa))
   exact xN (Qu Qa h11) Qa (xR 3 Qa (xE (QV false Qa)))
  rintro j10
  refine sC j10 Qa (sK (Qk (uA l9_1 l9_5 l9_6 l9_7 l9_8 l9_2 l9_3 l9_4 a0r.dg) Qa (sS (sB (Qg Qe (uA l9_1 l9_5 l9_6 l9_7 l9_8 l9_2 (wi (l9_3+1)) l9_4 a0r.dg) Qa (sG (xR 6 Qa (Yr (Gs l9_2 (wi (l9_3+1)) l9_4 a0r.dg) [.agg [I l9_5,S l9_6,I l9_7,I l9_8],I 3,S l9_6,I 0, .bsl 1003 1] nq1 [] [] Qa Tryz.func43 rfl Tryz.ntmps43 rfl Qa Qa Qa (Qg Qe ⟨aD 3 l9_6 (.bsl 1003 1),[(5,(bq0 l9_5 l9_6 l9_7 l9_8)),(10,(RH 0 [] 0 0))]++Gs l9_2 (wi (l9_3+1)) l9_4 a0r.dg⟩ Qa (Qg Qe ⟨uy (.bsl 1003 1),CJ 3 l9_6 0 l9_8++Gs l9_2 (wi (l9_3+1)) l9_4 a0r.dg⟩ Qa (KM (fun (j13_1,j13_2,j13_3,j13_4)=>⟨[qq 10,qq 11],qg 3 l9_6 l9_8 j13_1++DL j13_1++Gs j13_2 j13_3 j13_4 a0r.dg⟩:pg→St) ?_ ?_))))))))))) (Qm (Zu (ZP (QG (QV (l9_1,l9_2,l9_3,l9_4) Qa)))))
  rotate_left
  ·rintro ⟨j13_1,j13_2,j13_3,j13_4⟩
   refine Qg Qe ⟨[qq 10],[(10,(dP 3 l9_6 l9_8 j13_1))]++DL j13_1++Gs j13_2 j13_3 j13_4 a0r.dg⟩ Qa (sT (QN (.agg [.id, .id, .id, .id, .sl 5]) [1000,1001,1002,1003] [] (.agg [I 3,S l9_6,I 0,I l9_8, .p (.sl 5 (mI j13_1))]) Qa Qa (Yq (xR 1 Qa (xF Qa Qa (ZM (e:=61) (S:=5) (by_:=64) (enc:=YC) (tk:=300) (l:=l9_1) (l2:=[GN.cs (⟨3,l9_6,0,l9_8,j13_1⟩:GN)]) (xv:=.tsl 5 (mI [GN.cs (⟨3,l9_6,0,l9_8,j13_1⟩:GN)]) 31) rfl Qa Qa rfl Qa Qa Qa rfl Qa) (xR 1 Qa (xE (QT (Qk (dQ (l9_1++[GN.cs (⟨3,l9_6,0,l9_8,j13_1⟩:GN)]) l9_5 l9_6 l9_7 l9_8 j13_2 j13_3 j13_4 a0r.dg) Qa (sS (Qg Qe (QaZ (l9_1++[GN.cs (⟨3,l9_6,0,l9_8,j13_1⟩:GN)]) l9_5 l9_6 l9_7 l9_8 j13_2 j13_3 j13_4 a0r.dg) Qa (sL Qe Qa (Qk (dQ (l9_1++[GN.cs (⟨3,l9_6,0,l9_8,j13_1⟩:GN)]) l9_5 l9_6 l9_7 l9_8 j13_2 j13_3 j13_4 a0r.dg) Qa (sG (xR 1 Qa ?_)))))))))))))))
   refine Gh [.ro [.id, .id, .id, .sl 2]] Qa (KR n (⟨j13_2,j13_3,j13_4,a0r.dg⟩:KL)) Qa Qa QW (fun r15=>?_)
   exact xR 1 Qa (xE (Ky (l9_1++[GN.cs (⟨3,l9_6,0,l9_8,j13_1⟩:GN)],j13_2,j13_3,j13_4,r15.Kind,r15.Text,r15.N,r15.At) Qa))
  refine Qg Qe ⟨FI (.bsl 1003 1) 1 0,CJ 3 l9_6 0 l9_8++Gs l9_2 (wi (l9_3+1)) l9_4 a0r.dg⟩ Qa (sB (Yx 1 (Qg Qe ⟨CL (.bsl 1003 1) 1 0 true,CJ 3 l9_6 0 l9_8++Gs l9_2 (wi (l9_3+1)) l9_4 a0r.dg⟩ Qa (sS (Q3 Qa (sK (Qk ⟨FI (.bsl 1003 1) 1 0,CJ 3 l9_6 0 l9_8++Gs l9_2 (wi (l9_3+1)) l9_4 a0r.dg⟩ Qa (sS (sB (Qg Qe ⟨uB (.func 151) (.bsl 1003 1) 1 0,CJ 3 l9_6 0 l9_8++Gs l9_2 (wi (l9_3+1)) l9_4 a0r.dg⟩ Qa (M3 ⟨uB (.func 151) (.bsl 1003 1) 1 0,CJ 3 l9_6 0 l9_8++Gs l9_2 (wi (l9_3+1)) l9_4 a0r.dg⟩ Qa (Zq (KZ 61 5 300 [] [(11,4)] Qa) (Vu [0,1,2] [0,1] [(3,[]),(4,[]),(5,[]),(6,[])] Qe rfl Qa Qa (KY (f:=151) (args:=[Jo]) (dst:=some 29) Qa Qa (Zn (hc:=(Ap l9_2 (wi (l9_3+1)) l9_4 a0r.dg)) (args':=[Jo]) nq2 [] [] Tryz.func151 rfl Tryz.ntmps151 rfl Qa Qa Qa (Qg Qe (dR l9_2 (wi (l9_3+1)) l9_4 a0r.dg) Qa (sS (sG (xR 1 Qa (Yj (f:=152) (args:=[Ka, .p (.val (.func (.func 122) #[] #[]))]) Qa Qa Qa ?_))))))))))))))))))))
  refine BR 1000 3 1001 99 2 (Fa a0r.dg).length (Fa a0r.dg) ⟨[0,2],[1000,1002],[],[]⟩ Qa Qa rfl (fun _ _ _=>by kernel_rfl) (fun hu14w hu14l hu14c=>?_)
  refine BI [(1000,1000)] [] [] (DN n (⟨l9_2,wi (l9_3+1),l9_4,[]⟩:KL) hu14w hu14l hu14c) Qa Qa Qa QW QW (fun r14=>?_)
  exact S9 _ rfl Qa Qa (Yq (xR 1 Qa (xE (Qk ⟨[(1, .p (.sl 5 (mI r14.1)))],Ap r14.2.tks r14.2.pos r14.2.length a0r.dg⟩ Qa (sT (QN (.id) [1000,1001,1002] [] (.p (.sl 5 (mI r14.1))) Qa Qa (kh [0,1] Qa (Qo (Qz (.ptr 11 4) Qa rfl) (Qo (WU (S:=5) (t:=300) (ty:=61) (es:=mI []) Qa Qa rfl) (Ql))) Qa (SL [] rfl Qa Qa (WS (e:=61) (S:=5) (by_:=64) (enc:=YC) (tk:=300) (l:=[]) (l2:=r14.1) (xv:=.p (.sl 5 (mI r14.1))) rfl Qa Qa rfl Qa Qa Qa Qa) (fun _=>Ql) (WJ [] Qa Qa (Ql) (WJ [] Qa Qa (Ql) (WV (QT (Qk (dS 0 l9_6 l9_8 ([]++r14.1) r14.2.tks r14.2.pos r14.2.length a0r.dg) Qa (sL Qe Qa (UB ⟨[10,11,20,21,22],[10,11,300,1000,1001,1002,1003],[],[]⟩ (dS 1 l9_6 l9_8 ([]++r14.1) r14.2.tks r14.2.pos r14.2.length a0r.dg) Qa (Qg Qe ⟨CL (.bsl 1003 1) 1 1 false,qg 3 l9_6 l9_8 ([]++r14.1)++FH ([]++r14.1)++Gs r14.2.tks r14.2.pos r14.2.length a0r.dg⟩ Qa (sS (QZ Qa (Qm (Zu (LV (QG (QV ([]++r14.1,r14.2.tks,r14.2.pos,r14.2.length) Qa)))))))))))))))))))))))
 rintro ⟨j7_1,j7_2,j7_3,j7_4⟩
 refine Qg Qe ⟨[(2, .tsl 5 (mI j7_1) 300)],DL j7_1++Vt j7_2 j7_3 j7_4 a0r.dg⟩ Qa (sT (QN (.sl 5) [1000,1001] [] (.p (.sl 5 (mI j7_1))) Qa Qa (kh [0,1] Qa (Qo (Qz (.ptr 11 4) Qa rfl) (Qo (WU (S:=5) (t:=300) (ty:=61) (es:=mI []) Qa Qa rfl) (Ql))) Qa (SL [] rfl Qa Qa (WS (e:=61) (S:=5) (by_:=64) (enc:=YC) (tk:=300) (l:=[]) (l2:=j7_1) (xv:=.p (.sl 5 (mI j7_1))) rfl Qa Qa rfl Qa Qa Qa Qa) (fun _=>Ql) (WJ [] Qa Qa (Ql) (WJ [] Qa Qa (Ql) (WV (QT (Qk (uC 0 r3 r5 r1 ([]++j7_1) j7_2 j7_3 j7_4 a0r.dg) Qa (sL Qe Qa (UB ⟨[10,11,20,21,22],[10,11,300,1000,1001,1002,1003],[],[]⟩ (uC 1 r3 r5 r1 ([]++j7_1) j7_2 j7_3 j7_4 a0r.dg) Qa (Qg Qe ⟨CL (.bsl 1003 3) 3 1 true,MF r3 r5 r1 ([]++j7_1)++FH ([]++j7_1)++RD j7_2 j7_3 j7_4 a0r.dg⟩ Qa (sS (Q3 Qa (sK (Qk (uC 1 r3 r5 r1 ([]++j7_1) j7_2 j7_3 j7_4 a0r.dg) Qa (sS (sB (Qg Qe ⟨uB (.func 123) (.bsl 1003 3) 3 1,MF r3 r5 r1 ([]++j7_1)++FH ([]++j7_1)++RD j7_2 j7_3 j7_4 a0r.dg⟩ Qa (Vu [0,1,2] [0,1] [(3,[]),(4,[]),(5,[]),(6,[])] Qe rfl Qa Qa (KY (f:=123) (args:=[Jo]) (dst:=some 29) Qa Qa (Zn (hc:=(Ap j7_2 j7_3 j7_4 a0r.dg)) (args':=[Jo]) nq2 [] [] Tryz.func123 rfl Tryz.ntmps123 rfl Qa Qa Qa (Qg Qe (dR j7_2 j7_3 j7_4 a0r.dg) Qa (sS (Vu [0] [0] [(1,[]),(2,[])] Qe rfl Qa Qa (KY (f:=124) (args:=[S [123]]) (dst:=some 3) Qa Qa (Zn (hc:=[]) (args':=[S [123]]) [(1,401)] [] [] Tryz.func124 rfl Tryz.ntmps124 rfl Qa Qa Qa (Qg Qe ⟨[qq 1],nC [123]⟩ Qa (Qg Qe (sq8 [123]) Qa (sT (QN (.id) [1] [] (.fn (.func 149) [] [.ptr 1 0]) Qa Qa (kh [0] Qa (Qo (Qz Ka Qa rfl) (Ql)) Qa (KY (f:=118) (args:=[Ka, .fn (.func 149) [] [.ptr 401 0]]) (dst:=some 4) Qa Qa (Zn (hc:=(MG j7_2 j7_3 j7_4 a0r.dg [123])) (args':=[Ka, .fn (.func 149) [] [Jo]]) nq3 [] [] Tryz.func118 rfl Tryz.ntmps118 rfl Qa Qa Qa (Qg Qe ⟨dK (.func 149),uq++MG j7_2 j7_3 j7_4 a0r.dg [123]⟩ Qa (sS (sG (xR 1 Qa ?_))))))))))))))))))))))))))))))))))))))
 refine Gh [.ro [.id, .id, .id, .sl 2]] Qa (KR n (⟨j7_2,j7_3,j7_4,a0r.dg⟩:KL)) Qa Qa QW (fun r16=>?_)
 refine xR 2 Qa (xE (Qk ⟨dL (.func 149),U9 r16++MG j7_2 j7_3 j7_4 a0r.dg [123]⟩ Qa (ZY (fun _=>⟨ut,U9 r16++MG j7_2 j7_3 j7_4 a0r.dg [123]⟩:Unit→St) (fun _=>VX n a0r r1 r3 r5 j7_1 j7_2 j7_3 j7_4) ?_ ?_)))
 rotate_left
 ·refine KM (fun j29=>⟨uu j29,U9 r16++MG j7_2 j7_3 j7_4 a0r.dg [123]⟩:Bool→St) ?_ ?_
  rotate_left
  ·rintro j29
   refine sC j29 Qa (sG (xR 1 Qa ?_)) (sK (Ky (k:=fun _=>VX n a0r r1 r3 r5 j7_1 j7_2 j7_3 j7_4) () Qa))
   refine NA [.ro [.id, .id, .id, .sl 2]] Qa (Uo n (⟨j7_2,j7_3,j7_4,a0r.dg⟩:KL)) Qa Qa QW QW (fun r33=>?_) (fun e34=>?_)
   ·exact xE (Ky (k:=fun _=>VX n a0r r1 r3 r5 j7_1 j7_2 j7_3 j7_4) () Qa)
   exact Zp (ZO [1000,1001,1002] [] Qa (zY _ rfl (Kk (ZO [1000,1001,1002] [] Qa (zY _ rfl (Zj (Kk (QaH (Zj (Zp (ZO [1000,1001,1002,1003] [] Qa (Kk (Kk (Kv [1000,1103] [] Qa Qa Qa))))))))))))))
  refine sG (xR 4 Qa (xS (Qs r16.Kind 0) (fun h30=>xN (QB Qa h30) Qa (xR 4 Qa (xE (QV true Qa)))) (fun h30=>xO (QA Qa h30) Qa (xR 1 Qa (Yr (qb [123]) [.agg [I r16.Kind,S r16.Text,I r16.N,I r16.At],Ka] [(1000,1002)] [] [] Qa Tryz.func149 rfl Tryz.ntmps149 rfl Qa Qa Qa (Qg Qe (sq9 r16 [123]) Qa (KM (fun j31=>⟨[(3,B j31)],qb [123]⟩:Bool→St) (sG (xR 4 Qa (xS (Qs r16.Kind 3) (fun h32=>xO (Qt Qa h32) Qa (xR 5 Qa (xE (QV (Q8 r16.Text [123]) Qa)))) (fun h32=>xN (Qu Qa h32) Qa (xR 5 Qa (xE (QV false Qa))))))) ?_)))))))
  rintro j31
  exact sT (QN (.id) [1000] [] (B j31) Qa Qa (Yq (xR 2 Qa (xE (QV (!j31) Qa)))))
 rintro _
 show QU (VX n a0r r1 r3 r5 j7_1 j7_2 j7_3 j7_4) _ _ _ _ _ _
 unfold VX
 refine Qg Qe ⟨[qq 4,qq 5],U9 r16++MG j7_2 (wi (j7_3+1)) j7_4 a0r.dg [123]⟩ Qa (Qg Qe ⟨[qq 4],uw r16++MG j7_2 (wi (j7_3+1)) j7_4 a0r.dg [123]⟩ Qa (sT (QN (.id) [1000,1001,1002] [] (.agg [I r16.Kind,S r16.Text,I r16.N,I r16.At]) Qa Qa (kh [] Qa (Ql) Qa (WV (Qk ⟨[],Ap j7_2 (wi (j7_3+1)) j7_4 a0r.dg⟩ Qa (Qg Qe ⟨[(1,zS)],Ap j7_2 (wi (j7_3+1)) j7_4 a0r.dg⟩ Qa (sT (QN (.sl 5) [1000,1001,1002] [] (.p (.sl 5 (mI []))) Qa Qa (kh [0,1] Qa (Qo (Qz (.ptr 11 4) Qa rfl) (Qo (WU (S:=5) (t:=300) (ty:=61) (es:=mI ([]++j7_1)) Qa Qa rfl) (Ql))) Qa (SL [] rfl Qa Qa (WS (e:=61) (S:=5) (by_:=64) (enc:=YC) (tk:=300) (l:=[]++j7_1) (l2:=[]) (xv:=.p (.sl 5 (mI []))) rfl Qa Qa rfl Qa Qa Qa Qa) (fun _=>Ql) (WJ [] Qa Qa (Ql) (WJ [] Qa Qa (Ql) (WV (QT (Qk (uC 1 r3 r5 r1 (([]++j7_1)++[]) j7_2 (wi (j7_3+1)) j7_4 a0r.dg) Qa (sL Qe Qa (UB ⟨[10,11,20,21,22],[10,11,300,1000,1001,1002,1003],[],[]⟩ (uC 2 r3 r5 r1 (([]++j7_1)++[]) j7_2 (wi (j7_3+1)) j7_4 a0r.dg) Qa (Qg Qe ⟨CL (.bsl 1003 3) 3 2 true,MF r3 r5 r1 (([]++j7_1)++[])++FH (([]++j7_1)++[])++RD j7_2 (wi (j7_3+1)) j7_4 a0r.dg⟩ Qa (sS (Q3 Qa (sK (Qk (uC 2 r3 r5 r1 (([]++j7_1)++[]) j7_2 (wi (j7_3+1)) j7_4 a0r.dg) Qa (KM (fun (j18_1,j18_2,j18_3,j18_4,j18_5)=>⟨FI (.bsl 1003 3) 3 2,MF r3 r5 r1 j18_1++DL j18_1++RD j18_2 j18_3 j18_4 j18_5⟩:NM→St) ?_ ?_))))))))))))))))))))))))
 rotate_left
 ·rintro ⟨j18_1,j18_2,j18_3,j18_4,j18_5⟩
  exact sL Qe Qa (UB ⟨[10,11,20,21,22],[10,11,300,1000,1001,1002,1003],[],[]⟩ ⟨FI (.bsl 1003 3) 3 3,MF r3 r5 r1 j18_1++DL j18_1++RD j18_2 j18_3 j18_4 j18_5⟩ Qa (Qg Qe ⟨CL (.bsl 1003 3) 3 3 false,MF r3 r5 r1 j18_1++DL j18_1++RD j18_2 j18_3 j18_4 j18_5⟩ Qa (sS (QZ Qa (Qm (Zu (LV (QG (Ky (k:=fun (j6_1,j6_2,j6_3,j6_4,j6_5)=>UH r1 r3 r5 j6_1 j6_2 j6_3 j6_4 j6_5) (j18_1,j18_2,j18_3,j18_4,j18_5) Qa)))))))))
 refine sB (Qg Qe ⟨vS (.func 126) (.bsl 1003 3) 3 2,MF r3 r5 r1 (([]++j7_1)++[])++FH (([]++j7_1)++[])++RD j7_2 (wi (j7_3+1)) j7_4 a0r.dg⟩ Qa (Vu [0,1,2] [0,1] [(3,[]),(4,[]),(5,[]),(6,[])] Qe rfl Qa Qa (KY (f:=126) (args:=[Ka]) (dst:=some 29) Qa Qa (Zn (hc:=(Vt j7_2 (wi (j7_3+1)) j7_4 a0r.dg)) (args':=[Ka]) [(1000,1000),(1001,1001)] [] [] Tryz.func126 rfl Tryz.ntmps126 rfl Qa Qa Qa (Qg Qe (aC j7_2 (wi (j7_3+1)) j7_4 a0r.dg) Qa (Qg Qe ⟨kL,qf++Vt j7_2 (wi (j7_3+1)) j7_4 a0r.dg⟩ Qa (ZY (fun (j19_1,j19_2,j19_3,j19_4,j19_5)=>⟨[(3, .tsl 5 (mI j19_1) 32)],aF j19_1++Vt j19_2 j19_3 j19_4 j19_5⟩:NM→St) (fun (j19_1,j19_2,j19_3,j19_4,j19_5)=>Xz j7_1 j19_1 j19_2 j19_3 j19_4 j19_5) ?_ ?_)))))))
 ·rintro ⟨j19_1,j19_2,j19_3,j19_4,j19_5⟩
  show QU (Xz j7_1 j19_1 j19_2 j19_3 j19_4 j19_5) _ _ _ _ _ _
  unfold Xz
  exact Qg Qe (aG j19_1 j19_2 j19_3 j19_4 j19_5) Qa (sT (QN (.sl 5) [1000,1001] [] (.p (.sl 5 (mI j19_1))) Qa Qa (kh [0,1] Qa (Qo (Qz (.ptr 11 4) Qa rfl) (Qo (WU (S:=5) (t:=300) (ty:=61) (es:=mI (([]++j7_1)++[])) Qa Qa rfl) (Ql))) Qa (SL [] rfl Qa Qa (WS (e:=61) (S:=5) (by_:=64) (enc:=YC) (tk:=300) (l:=([]++j7_1)++[]) (l2:=j19_1) (xv:=.p (.sl 5 (mI j19_1))) rfl Qa Qa rfl Qa Qa Qa Qa) (fun _=>Ql) (WJ [] Qa Qa (Ql) (WJ [] Qa Qa (Ql) (WV (QT (QV ((([]++j7_1)++[])++j19_1,j19_2,j19_3,j19_4,j19_5) Qa)))))))))
 refine sB (M3 ⟨kL,qf++Vt j7_2 (wi (j7_3+1)) j7_4 a0r.dg⟩ Qa (Zq (KZ 61 5 32 [3] [] Qa) (Qw (fun (l20_1,l20_2,l20_3,l20_4,l20_5)=>⟨nE l20_1,uD l20_1++Vt l20_2 l20_3 l20_4 l20_5⟩:NM→St) (Wq Qa) ?_)))
 rintro recl20 ⟨l20_1,l20_2,l20_3,l20_4,l20_5⟩
 show QU (L6 n j7_1 recl20 l20_1 l20_2 l20_3 l20_4 l20_5) _ _ _ _ _ _
 unfold L6
 refine sS (sS (sG (xR 1 Qa ?_)))
 refine Gh [.ro [.id, .id, .id, .sl 2]] Qa (PH n (⟨l20_2,l20_3,l20_4,l20_5⟩:KL)) Qa Qa QW (fun r21=>?_)
 refine xR 1 Qa (xE (Qk ⟨[qq 1,(3, .tsl 5 (mI l20_1) 32),(9,B (!r21))],uD l20_1++Vt l20_2 l20_3 l20_4 l20_5⟩ Qa (sC (!r21) Qa (sK (Qk ⟨nE l20_1,uD l20_1++Vt l20_2 l20_3 l20_4 l20_5⟩ Qa (sB (sS (sS (Vu [1] [1] [(0,[]),(2,[]),(3,[])] Qe rfl Qa Qa (KY (f:=124) (args:=[S [125]]) (dst:=some 10) Qa Qa (Zn (hc:=[]) (args':=[S [125]]) [(1,401)] [] [] Tryz.func124 rfl Tryz.ntmps124 rfl Qa Qa Qa (Qg Qe ⟨[qq 1],nC [125]⟩ Qa (Qg Qe (sq8 [125]) Qa (sT (QN (.id) [1] [] (.fn (.func 149) [] [.ptr 1 0]) Qa Qa (kh [1] Qa (Qo (Qz Ka Qa rfl) (Ql)) Qa (KY (f:=145) (args:=[Ka]) (dst:=some 12) Qa Qa ?_)))))))))))))) (Qm (Zu (ZP (QG (Ky (k:=fun (j19_1,j19_2,j19_3,j19_4,j19_5)=>Xz j7_1 j19_1 j19_2 j19_3 j19_4 j19_5) (l20_1,l20_2,l20_3,l20_4,l20_5) Qa))))))))
 refine tq [.ro [.id, .id, .id, .sl 2]] (KR n (⟨l20_2,l20_3,l20_4,l20_5⟩:KL)) Qa Qa QW (fun r22=>?_)
 refine kh [] Qa (Ql) Qa (KY (f:=149) (args:=[.agg [I r22.Kind,S r22.Text,I r22.N,I r22.At], .ptr 401 0]) (dst:=some 13) Qa Qa (Zn (hc:=(qb [125])) (args':=[.agg [I r22.Kind,S r22.Text,I r22.N,I r22.At],Ka]) [(1000,401)] [] [] Tryz.func149 rfl Tryz.ntmps149 rfl Qa Qa Qa (Qg Qe (sq9 r22 [125]) Qa (KM (fun j23=>⟨[(3,B j23)],qb [125]⟩:Bool→St) (sG (xR 4 Qa (xS (Qs r22.Kind 3) (fun h24=>xO (Qt Qa h24) Qa (xR 5 Qa (xE (QV (Q8 r22.Text [125]) Qa)))) (fun h24=>xN (Qu Qa h24) Qa (xR 5 Qa (xE (QV false Qa))))))) ?_))))
 rintro j23
 refine sT (QN (.id) [1000] [] (B j23) Qa Qa (kh [] Qa (Ql) Qa (WV (Qk ⟨[qq 1,(3, .tsl 5 (mI l20_1) 32),(13,B j23)],uD l20_1++Vt l20_2 l20_3 l20_4 l20_5⟩ Qa (sC j23 Qa (Qg Qe ⟨[(3, .tsl 5 (mI l20_1) 32)],aF l20_1++Vt l20_2 (wi (l20_3+1)) l20_4 l20_5⟩ Qa (Qg Qe (aG l20_1 l20_2 (wi (l20_3+1)) l20_4 l20_5) Qa (sT (QY (Q9 (KC (Q9 (KC (QN (.sl 5) [1000,1001] [] (.p (.sl 5 (mI l20_1))) Qa Qa (kh [0,1] Qa (Qo (Qz (.ptr 11 4) Qa rfl) (Qo (WU (S:=5) (t:=300) (ty:=61) (es:=mI (([]++j7_1)++[])) Qa Qa rfl) (Ql))) Qa (SL [] rfl Qa Qa (WS (e:=61) (S:=5) (by_:=64) (enc:=YC) (tk:=300) (l:=([]++j7_1)++[]) (l2:=l20_1) (xv:=.p (.sl 5 (mI l20_1))) rfl Qa Qa rfl Qa Qa Qa Qa) (fun _=>Ql) (WJ [] Qa Qa (Ql) (WJ [] Qa Qa (Ql) (WV (QT (QV ((([]++j7_1)++[])++l20_1,l20_2,wi (l20_3+1),l20_4,l20_5) Qa)))))))))))))))) (sK (Qk ⟨nE l20_1,uD l20_1++Vt l20_2 l20_3 l20_4 l20_5⟩ Qa (Qg Qe ⟨Qa1 l20_1,[(1, .box 100 [Ka]),(4,(RH 0 [] 0 0)),(32,tJ l20_1)]++Vt l20_2 l20_3 l20_4 l20_5⟩ Qa (KM (fun (j25_1,j25_2,j25_3,j25_4,j25_5,j25_6,j25_7,j25_8,j25_9,j25_10,j25_11)=>⟨[qq 1,(3, .tsl 5 (mI l20_1) 32),qq 4,(5,B j25_1),(6,S j25_2)],Qa2 ⟨j25_7,j25_8,j25_9,j25_10,j25_11⟩ l20_1++Vt j25_3 j25_4 j25_5 j25_6⟩:(Bool × (List UInt8) × (List Y1) × Int × Int × (List KG) × Int × (List UInt8) × Int × Int × (List (List PV)))→St) ?_ ?_)))))))))
 rotate_left
 ·rintro ⟨j25_1,j25_2,j25_3,j25_4,j25_5,j25_6,j25_7,j25_8,j25_9,j25_10,j25_11⟩
  exact Qg Qe ⟨[qq 1,(3, .tsl 5 (mI l20_1) 32),qq 4,(6,S j25_2),(28,B j25_1)],Qa2 ⟨j25_7,j25_8,j25_9,j25_10,j25_11⟩ l20_1++Vt j25_3 j25_4 j25_5 j25_6⟩ Qa (sC j25_1 Qa (sG (xR 3 Qa (xF Qa Qa (ZM (e:=61) (S:=5) (by_:=64) (enc:=YC) (tk:=32) (l:=l20_1) (l2:=[GN.cs (⟨j25_7,j25_8,j25_9,j25_10,j25_11⟩:GN)]) (xv:=.tsl 5 (mI [GN.cs (⟨j25_7,j25_8,j25_9,j25_10,j25_11⟩:GN)]) 31) rfl Qa Qa rfl Qa Qa Qa rfl Qa) (xR 1 Qa (xE (QT (Ky (l20_1++[GN.cs (⟨j25_7,j25_8,j25_9,j25_10,j25_11⟩:GN)],j25_3,j25_4,j25_5,j25_6) Qa))))))) (Qg Qe ⟨[qq 1,(3, .tsl 5 (mI l20_1) 32),(34,B (!Q8 j25_2 [59]))],uD l20_1++Vt j25_3 j25_4 j25_5 j25_6⟩ Qa (sC (!Q8 j25_2 [59]) Qa (Qg Qe (aG l20_1 j25_3 j25_4 j25_5 j25_6) Qa (sT (Q9 (KC (Q9 (KC (QN (.sl 5) [1000,1001] [] (.p (.sl 5 (mI l20_1))) Qa Qa (kh [0,1] Qa (Qo (Qz (.ptr 11 4) Qa rfl) (Qo (WU (S:=5) (t:=300) (ty:=61) (es:=mI (([]++j7_1)++[])) Qa Qa rfl) (Ql))) Qa (SL [] rfl Qa Qa (WS (e:=61) (S:=5) (by_:=64) (enc:=YC) (tk:=300) (l:=([]++j7_1)++[]) (l2:=l20_1) (xv:=.p (.sl 5 (mI l20_1))) rfl Qa Qa rfl Qa Qa Qa Qa) (fun _=>Ql) (WJ [] Qa Qa (Ql) (WJ [] Qa Qa (Ql) (WV (QT (QV ((([]++j7_1)++[])++l20_1,j25_3,j25_4,j25_5,j25_6) Qa)))))))))))))) (sK (QT (Ky (l20_1,j25_3,j25_4,j25_5,j25_6) Qa))))))
 refine sG (xR 2 Qa (Yj (f:=78) (args:=[Ka, .fn (.func 153) [] [.ptr 1 0, .ptr 4 0]]) Qa Qa Qa ?_))
 refine Cc (hc:=(aH l20_2 l20_3 l20_4 l20_5)) (args':=[Ka, .fn (.func 153) [] [Jo,NG]]) [(1002,1),(1003,4),(1000,1000),(1001,1001)] [] [] (⟨_,_,_,_,_,_,[2,4,5],6,_,rfl,rfl,rfl,rfl,rfl,rfl,rfl,rfl,by decide⟩:F3 Tryz.f78 116) [(2,1900),(4,1901),(5,1902)] Tryz.func78 Tryz.ntmps78 Qa Qa Qa Qa Qa Qe rfl Qa Qa ?_
 refine M3 ⟨Qa3 (.func 153),aH l20_2 l20_3 l20_4 l20_5++aI false⟩ Qa (sS (sG (xR 1 Qa (Yr (aH l20_2 l20_3 l20_4 l20_5) [Jo,NG] nq4 [] [] Qa Tryz.func153 rfl Tryz.ntmps153 rfl Qa Qa Qa (sG (xR 1 Qa (Yj (f:=154) (args:=[Ka]) Qa Qa Qa ?_)))))))
 refine BR 1000 3 1001 99 2 (Fa l20_5).length (Fa l20_5) ⟨[0,1,2],[1000,1002,1003],[],[]⟩ Qa Qa rfl (fun _ _ _=>by kernel_rfl) (fun hu26w hu26l hu26c=>?_)
 refine zR [(1000,1000)] [] [] (Am n (⟨l20_2,l20_3,l20_4,[]⟩:KL) hu26w hu26l hu26c) Qa Qa Qa QW QW QW QW (fun r26=>?_) (fun e27=>?_)
 ·refine S9 _ rfl Qa Qa (Yq (xR 1 Qa (xE (Ww (.id) [1000,1001,1002,1003] [] (.tup []) Qa Qa (Yq (xE (Qk ⟨[(4, .ptr 1901 0),(5, .ptr 1902 0)],Qa4 r26.2.tks r26.2.pos r26.2.length l20_5 r26.1++aI false⟩ Qa (Qg Qe ⟨[(4, .ptr 1901 0),(5, .ptr 1902 0)],Qa4 r26.2.tks r26.2.pos r26.2.length l20_5 r26.1++aI true⟩ Qa (sT ?_)))))))))
  refine Jw (⟨Tryz.f116,_,_,_,6,3,_,_,Tryz.func116,rfl,rfl,rfl,rfl,rfl,rfl,rfl,by decide,by decide⟩:Ko Tryz.prog 116) nq5 (Vt r26.2.tks r26.2.pos r26.2.length l20_5++qi true) (.p (.val (.nilIface))) [Jo,NG, .ptr 1004 0] [] rfl Qa Qa Qa Qa ?_
  exact sS (Qg Qe ⟨Qa5,Vt r26.2.tks r26.2.pos r26.2.length l20_5++qi true⟩ Qa (Q3 Qa (sT (QY (mK [1000,1001,1002,1003,1004] [] Qa Qa (QN (.id) [1000,1001,1002,1003] [] (.tup [B true,S []]) Qa Qa (Yq (xR 5 Qa (xE (QV (true,[],r26.2.tks,r26.2.pos,r26.2.length,l20_5,r26.1.Kind,r26.1.Name,r26.1.N,r26.1.At,r26.1.Kids) Qa))))))))))
 refine af _ rfl Qa Qa (ZO [1000,1001,1002,1003] [] Qa (Kk ?_))
 refine Jw (⟨Tryz.f116,_,_,_,6,3,_,_,Tryz.func116,rfl,rfl,rfl,rfl,rfl,rfl,rfl,by decide,by decide⟩:Ko Tryz.prog 116) nq5 (Vt e27.2.tks e27.2.pos e27.2.length l20_5++qi false) (.ifc 176 (.agg [I e27.1])) [Jo,NG, .ptr 1004 0] [] rfl Qa Qa Qa Qa ?_
 refine sS (Qg Qe ⟨Qa6 e27.1,Vt e27.2.tks e27.2.pos e27.2.length l20_5++qi false⟩ Qa (QZ Qa (sK (Qk ⟨Qa7 e27.1,Vt e27.2.tks e27.2.pos e27.2.length l20_5++qi false⟩ Qa (Qg Qe ⟨Qa8 e27.1,uE e27.1++Vt e27.2.tks e27.2.pos e27.2.length l20_5++qi false⟩ Qa (sS (Qg Qe ⟨Qa9 e27.1,uE e27.1++Vt e27.2.tks e27.2.pos e27.2.length l20_5++qi false⟩ Qa (QZ Qa (sK (Qk ⟨Qba,uE e27.1++Vt e27.2.tks e27.2.pos e27.2.length l20_5++qi false⟩ Qa (sS (YK Qe rfl (xR 9 Qa (xF Qa Qa (ZM (e:=99) (S:=2) (by_:=16) (enc:=KG.cs) (tk:=1001) (l:=l20_5) (l2:=[(⟨7,e27.1⟩:KG)]) (xv:=.tsl 2 (Fa [(⟨7,e27.1⟩:KG)]) 25) rfl Qa Qa rfl Qa Qa Qa rfl Qa) (xR 3 Qa (Yh Qa (Qk ⟨Qbb,Vt e27.2.tks e27.2.pos e27.2.length (l20_5++[(⟨7,e27.1⟩:KG)])++qi false⟩ Qa (sG (xR 1 Qa (Yj (f:=117) (args:=[Ka]) Qa Qa Qa ?_))))))))))))))))))))
 refine BR 1000 3 1001 99 2 (Fa (l20_5++[(⟨7,e27.1⟩:KG)])).length (Fa (l20_5++[(⟨7,e27.1⟩:KG)])) ⟨[0,1,2,29],[1000,1002,1003,1004],[],[]⟩ Qa Qa rfl (fun _ _ _=>by kernel_rfl) (fun hu28w hu28l hu28c=>?_)
 refine BI [(1000,1000)] [] [] (PK n (⟨e27.2.tks,e27.2.pos,e27.2.length,[]⟩:KL) hu28w hu28l hu28c) Qa Qa Qa QW QW (fun r28=>?_)
 exact S9 _ rfl Qa Qa (Yq (xR 2 Qa (xE (BM [1000,1001,1002,1003,1004] [] Qa Qa (QN (.id) [1000,1001,1002,1003] [] (.tup [B false,S r28.1]) Qa Qa (Yq (xR 5 Qa (xE (bN (false,r28.1,r28.2.tks,r28.2.pos,r28.2.length,l20_5++[(⟨7,e27.1⟩:KG)],0,[],0,0,[]) ⟨[1,3,4,5,6],[1,4,32,1000,1001],[],[(4,[.id, .id, .id, .id, .sl 5])]⟩ Qa)))))))))
def L9 (a0n:GN) (a1limit:Int) (rf_parser_count:GN→Int→Option Int) (recl1:(Int × Int)→Option Int) (l1_1:Int) (l1_2:Int):Option Int :=
 cond (QL l1_2 (Qc (List.map YC a0n.Kids)))
  ((Option.bind (Zc a0n.Kids l1_2) GN.of).bind fun x2 =>
  cond (QL a1limit l1_1)
   (some l1_1)
   ((rf_parser_count x2 (wi (a1limit - l1_1))).bind fun r3 =>
   recl1 (wi (l1_1+r3),wi (l1_2+1))))
  (some l1_1)
def Gt (n:Nat) (rf_parser_count:GN→Int→Option Int) (a0n:GN) (a1limit:Int):Option Int :=
 Q4 (fun recl1 (l1_1,l1_2)=>L9 a0n a1limit rf_parser_count recl1 l1_1 l1_2) n (1,0)
def Lj:Nat→GN→Int→Option Int
 | 0,_,_=>none
 | n+1,a0n,a1limit=>Gt n (Lj n) a0n a1limit
def VZ:=fun x0=>([(2, .box 61 (Kw (GN.cs x0)))]:List (Nat × Blk))
def dU:=fun x0 x1 x2 x3=>([(1,I x0),(5,I x1),(9, .p (.sl 5 (List.map YC (GN.Kids x2)))),(10,I (Qc (List.map YC (GN.Kids x2)))),(11,I x3)]:List (Nat × AV))
def Qbc:=fun x0 x1 x2 x3=>([(1,I x0),(5,I x1),(7, .ptr 7 0),(9, .p (.sl 5 (List.map YC (GN.Kids x2)))),(10,I (Qc (List.map YC (GN.Kids x2)))),(11,I x3)]:List (Nat × AV))
def dV:=fun x0=>([(7, .box 61 (Kw (GN.cs x0)))]:List (Nat × Blk))
theorem qj (n:Nat) (a0n:GN) (a1limit:Int):∀ r,Lj n a0n a1limit=some r→Q0 Tryz.prog 45 [ag (GN.cs a0n),I a1limit] (.ret (I r)):=by
 induction n generalizing a0n a1limit with
 | zero=>intro r hr; cases (show (none:Option Int)=some r from hr)
 | succ n ih =>
 show ∀ r,Gt n (Lj n) a0n a1limit=some r→_
 generalize Lj n=rf_parser_count at ih ⊢
 refine Qp Tryz.func45 rfl Tryz.ntmps45 rfl ?_
 unfold Gt
 refine Qg Qe ⟨[(1,I a1limit),qq 2],VZ a0n⟩ Qa (Qg Qe ⟨[(1,I a1limit),qq 2,(5,I 1)],VZ a0n⟩ Qa (sS (Qg Qe ⟨dU a1limit 1 a0n 0,[]⟩ Qa (sB (Qw (fun (l1_1,l1_2)=>⟨dU a1limit l1_1 a0n l1_2,[]⟩:(Int × Int)→St) (Wq Qa) ?_)))))
 rintro recl1 ⟨l1_1,l1_2⟩
 show QU (L9 a0n a1limit rf_parser_count recl1 l1_1 l1_2) _ _ _ _ _ _
 unfold L9
 refine Qg Qe ⟨[(1,I a1limit),(5,I l1_1),(9, .p (.sl 5 (mI a0n.Kids))),(10,I (Qc (mI a0n.Kids))),(11,I l1_2),(12,B (QL l1_2 (Qc (mI a0n.Kids))))],[]⟩ Qa (sS (sC (QL l1_2 (Qc (mI a0n.Kids))) Qa (sK (Qk ⟨dU a1limit l1_1 a0n l1_2,[]⟩ Qa (sS (sB (sS (sG (xG Qa Qa (Vh (e:=61) (S:=5) (enc:=GN.cs) (dec:=GN.of) (l:=a0n.Kids) (k:=.i64) (n:=l1_2) (sv:=.p (.sl 5 (mI a0n.Kids))) GN.of_cs rfl Qa Qa Qa Qa Qa) (fun x2=>xR 3 Qa (xE (Qk ⟨Qbc a1limit l1_1 a0n l1_2,dV x2⟩ Qa (sS (Qg Qe ⟨[(1,I a1limit),(5,I l1_1),qq 7,(9, .p (.sl 5 (mI a0n.Kids))),(10,I (Qc (mI a0n.Kids))),(11,I l1_2),(17,B (QL a1limit l1_1))],dV x2⟩ Qa (sC (QL a1limit l1_1) Qa (Qg Qe ⟨[(4,I l1_1)],[]⟩ Qa (sT (QY (Q9 (QY (KC (Q9 (QY (qR (.id) Qa Qa Qa))))))))) (sK (Qk ⟨Qbc a1limit l1_1 a0n l1_2,dV x2⟩ Qa (sG (xR 5 Qa ?_))))))))))))))))) (Qm (Zu (ZP (QG (Qk ⟨[(5,I l1_1)],[]⟩ Qa (Qg Qe ⟨[(4,I l1_1)],[]⟩ Qa (sT (qR (.id) Qa Qa Qa))))))))))
 refine xC [] Qa (ih x2 (wi (a1limit - l1_1))) Qa Qa QW (fun r3=>?_)
 exact xR 2 Qa (xE (QT (Qk ⟨dU a1limit (wi (l1_1+r3)) a0n l1_2,[]⟩ Qa (sL Qe Qa (Ky (wi (l1_1+r3),wi (l1_2+1)) Qa)))))
def Rb (n:Nat) (recl4:NM→Option NM) (l4_1:List (List PV)) (l4_2:List Y1) (l4_3:Int) (l4_4:Int) (l4_5:List KG):Option NM :=
 (cond (QL l4_3 (Qc (List.map Y1.cs l4_2)))
  ((Mj n (⟨l4_2,l4_3,l4_4,l4_5⟩:KL)).bind fun r7 =>
  some (!r7))
  (some false)).bind fun j5 =>
 cond j5
  (((Ao n (⟨l4_2,l4_3,l4_4,l4_5⟩:KL)).bind (MZ (fun r9 =>
   some (true,r9.2.tks,r9.2.pos,r9.2.length,r9.2.dg,r9.1.Kind,r9.1.Name,r9.1.N,r9.1.At,r9.1.Kids)) fun e10=>cond (ZB (List.length (e10.2.dg++[(⟨7,e10.1⟩:KG)])) 16) (
   (Mv n (⟨e10.2.tks,e10.2.pos,e10.2.length,[]⟩:KL)).bind fun r11 =>
   some (false,r11.2.tks,r11.2.pos,r11.2.length,e10.2.dg++[(⟨7,e10.1⟩:KG)],0,[],0,0,[])) none)).bind fun (j8_1,j8_2,j8_3,j8_4,j8_5,j8_6,j8_7,j8_8,j8_9,j8_10) =>
  cond j8_1
   (cond (ZB (List.length (l4_1++[GN.cs (⟨j8_6,j8_7,j8_8,j8_9,j8_10⟩:GN)])) 64) (
    recl4 (l4_1++[GN.cs (⟨j8_6,j8_7,j8_8,j8_9,j8_10⟩:GN)],j8_2,j8_3,j8_4,j8_5)) none)
   (recl4 (l4_1,j8_2,j8_3,j8_4,j8_5)))
  (some (l4_1,l4_2,l4_3,l4_4,l4_5))
def NN (n:Nat) (a0z:List UInt8):Option (GN × (List KG)) :=
 (qa n a0z).bind fun r1 =>
 cond (!Qs r1.2.1 0)
  (some ((⟨0,[],0,0,[]⟩:GN),[(⟨r1.2.1,r1.2.2⟩:KG)]))
  (((Q4 (fun recl4 (l4_1,l4_2,l4_3,l4_4,l4_5)=>Rb n recl4 l4_1 l4_2 l4_3 l4_4 l4_5) n ([],r1.1,0,Qc a0z,[])).bind fun (j3_1,j3_2,j3_3,j3_4,j3_5) =>
  cond (ZB (List.length ([]++j3_1)) 64) (
   some ([]++j3_1,j3_2,j3_3,j3_4,j3_5)) none).bind fun (j2_1,j2_2,j2_3,j2_4,j2_5) =>
  cond (QL 0 (Qc (List.map KG.cs j2_5)))
   (some ((⟨0,[],0,0,[]⟩:GN),j2_5))
   ((Lj n (⟨1,[],0,0,j2_1⟩:GN) 1500).bind fun r12 =>
   cond (QL 1500 r12)
    (some ((⟨0,[],0,0,[]⟩:GN),[(⟨2,0⟩:KG)]))
    (some ((⟨1,[],0,0,j2_1⟩:GN),[]))))
def dW:=fun x0=>(.arr 99 2 (List.map KG.cs [x0]).length:Blk)
def uF:=fun x0 x1=>(.box 102 [.p (.sl 4 (List.map Y1.cs x0)),I 0,I (x1), .p (.val (.slice none 0 0))]:Blk)
def Qbd:Blk:=.box 106 [.fn (.func 44) [.ptr 1000 0] []]
def kN:=fun x0 x1=>([(1000,(uF x0 (x1))),(1001,Qbd)]:List (Nat × Blk))
def dX:=fun x0 x1 x2 x3=>(.box 102 [.p (.sl 4 (List.map Y1.cs x0)),I x1,I x2, .tsl 2 (List.map KG.cs x3) 700]:Blk)
def nG:=fun x0 x1 x2 x3=>([(1000,(dX x0 x1 x2 x3)),(1001,Qbd)]:List (Nat × Blk))
def Qbe:=fun x0 x1=>([(32, .arr 61 5 (List.map YC x0).length),(700,(Wy x1))]:List (Nat × Blk))
def kP:=fun x0 x1 x2 x3=>([(1000,(dX x0 x1 x2 x3))]:List (Nat × Blk))
def aJ:=fun x0 x1=>([(1, .box 100 [.ptr 1000 0]),(32, .arr 61 5 (List.map YC x0).length),(700,(Wy x1))]:List (Nat × Blk))
def Qbf:=fun x0 x1 x2=>([(1, .box 100 [.ptr 1000 0]),(4,(jk x0)),(32, .arr 61 5 (List.map YC x1).length),(700,(Wy x2))]:List (Nat × Blk))
def aK:=fun x0 x1 x2 x3=>(.box 102 [.p (.sl 4 (List.map Y1.cs x0)),I x1,I x2, .tsl 2 (List.map KG.cs x3) 1000]:Blk)
def aL:=fun x0 x1 x2 x3=>([(1000,(Wy x0)),(1001,(aK x1 x2 x3 x0)),(1002, .box 100 [.ptr 1001 0]),(1003,(RH 0 [] 0 0))]:List (Nat × Blk))
def aM:=fun x0=>([(1900, .box 100 [.ptr 1001 0]),(1901, .box 4 [B x0]),(1902, .box 9 [S []])]:List (Nat × Blk))
def Qbg:=fun x0 x1 x2 x3 x4=>([(1000,(Wy x0)),(1001,(aK x1 x2 x3 x0)),(1002, .box 100 [.ptr 1001 0]),(1003, .box 61 (Kw (GN.cs x4)))]:List (Nat × Blk))
def ql:=fun x0 x1 x2 x3=>([(1000,(Wy x0)),(1001,(aK x1 x2 x3 x0))]:List (Nat × Blk))
def qm:=fun x0=>([(1002, .box 100 [.ptr 1001 0]),(1003, .box 4 [B x0]),(1004, .box 9 [S []])]:List (Nat × Blk))
theorem qo (n:Nat) (a0z:List UInt8):∀ r,NN n a0z=some r→Q0 Tryz.prog 15 [S a0z] (.ret (.tup [ag (GN.cs r.1), .p (.sl 2 (Fa r.2))])):=by
 refine Qp Tryz.func15 rfl Tryz.ntmps15 rfl ?_
 unfold NN
 refine Qg Qe ⟨[(0,S a0z),qq 2],[(2,(RH 0 [] 0 0))]⟩ Qa (sS (sG (xR 1 Qa ?_)))
 refine xC [] Qa (vO n a0z) Qa Qa QW (fun r1=>?_)
 refine xR 7 Qa (xE (Qk ⟨[(0,S a0z),qq 2,(4, .p (.sl 4 (GH r1.1))),(5,I r1.2.1),(6,I r1.2.2)],[(2,(RH 0 [] 0 0))]⟩ Qa (sS (Qg Qe ⟨[(0,S a0z),qq 2,(4, .p (.sl 4 (GH r1.1))),(5,I r1.2.1),(6,I r1.2.2),(16,B (!Qs r1.2.1 0))],[(2,(RH 0 [] 0 0))]⟩ Qa (sC (!Qs r1.2.1 0) Qa (Qg Qe ⟨[qq 2,(3, .tsl 2 (Fa [(⟨r1.2.1,r1.2.2⟩:KG)]) 21)],[(2,(RH 0 [] 0 0)),(21,(dW (⟨r1.2.1,r1.2.2⟩:KG)))]⟩ Qa (sT (QY (qR (.agg [.agg [.id, .id, .id, .id, .sl 5], .sl 2]) Qa Qa Qa)))) (sK (Qk ⟨[(0,S a0z),qq 2,(4, .p (.sl 4 (GH r1.1)))],[(2,(RH 0 [] 0 0))]⟩ Qa (Qg Qe ⟨[qq 2,(7, .ptr 26 0)],[(2,(RH 0 [] 0 0)),(26,(uF r1.1 (Qc a0z)))]⟩ Qa (sS (sG (xR 4 Qa (Yr (kN r1.1 (Qc a0z)) [.agg [I 0,S [],I 0,I 0],I 1,S [],I 0, .bsl 1001 1] [(1000,26),(1001,30),(700,700)] [] [] Qa Tryz.func43 rfl Tryz.ntmps43 rfl Qa Qa Qa (Qg Qe ⟨aD 1 [] (.bsl 1001 1),[(5, .box 105 [I 0,S [],I 0,I 0]),(10,(RH 0 [] 0 0))]++kN r1.1 (Qc a0z)⟩ Qa (Qg Qe ⟨uy (.bsl 1001 1),CJ 1 [] 0 0++kN r1.1 (Qc a0z)⟩ Qa (KM (fun (j2_1,j2_2,j2_3,j2_4,j2_5)=>⟨[qq 10,qq 11],qg 1 [] 0 j2_1++DL j2_1++[(700,(Wy j2_5))]++nG j2_2 j2_3 j2_4 j2_5⟩:NM→St) ?_ ?_)))))))))))))))
 rotate_left
 ·rintro ⟨j2_1,j2_2,j2_3,j2_4,j2_5⟩
  refine Qg Qe ⟨[qq 10],[(10,(dP 1 [] 0 j2_1))]++DL j2_1++[(700,(Wy j2_5))]++nG j2_2 j2_3 j2_4 j2_5⟩ Qa (sT (QN (.agg [.id, .id, .id, .id, .sl 5]) [700,1000,1001] [] (.agg [I 1,S [],I 0,I 0, .p (.sl 5 (mI j2_1))]) Qa Qa (Yq (xR 2 Qa (xE (Qk ⟨[qq 2,(7, .ptr 26 0),qq 8],[(2,(RH 0 [] 0 0)),(8,(jk ⟨1,[],0,0,j2_1⟩)),(26,(dX j2_2 j2_3 j2_4 j2_5)),(700,(Wy j2_5))]⟩ Qa (sS (Qg Qe ⟨[qq 2,(7, .ptr 26 0),qq 8,(37,B (QL 0 (Qc (Fa j2_5))))],[(2,(RH 0 [] 0 0)),(8,(jk ⟨1,[],0,0,j2_1⟩)),(26,(dX j2_2 j2_3 j2_4 j2_5)),(700,(Wy j2_5))]⟩ Qa (sC (QL 0 (Qc (Fa j2_5))) Qa (Qg Qe ⟨[qq 2,(3, .tsl 2 (Fa j2_5) 700)],[(2,(RH 0 [] 0 0)),(700,(Wy j2_5))]⟩ Qa (sT (QY (qR (.agg [.agg [.id, .id, .id, .id, .sl 5], .sl 2]) Qa Qa Qa)))) (sK (Qk ⟨[qq 2,qq 8],[(2,(RH 0 [] 0 0)),(8,(jk ⟨1,[],0,0,j2_1⟩))]⟩ Qa (sS (sS (sG (xR 1 Qa ?_)))))))))))))))
  refine xC [] Qa (qj n (⟨1,[],0,0,j2_1⟩:GN) 1500) Qa Qa QW (fun r12=>?_)
  exact xR 1 Qa (xE (Qk ⟨[qq 2,qq 8,(45,B (QL 1500 r12))],[(2,(RH 0 [] 0 0)),(8,(jk ⟨1,[],0,0,j2_1⟩))]⟩ Qa (sC (QL 1500 r12) Qa (Qg Qe ⟨[qq 2,(3, .tsl 2 (Fa [(⟨2,0⟩:KG)]) 48)],[(2,(RH 0 [] 0 0)),(48,(dW (⟨2,0⟩:KG)))]⟩ Qa (sT (QY (qR (.agg [.agg [.id, .id, .id, .id, .sl 5], .sl 2]) Qa Qa Qa)))) (sK (Qk ⟨[qq 2,qq 8],[(2,(RH 0 [] 0 0)),(8,(jk ⟨1,[],0,0,j2_1⟩))]⟩ Qa (Qg Qe ⟨[qq 2,(3,zS)],[(2,(jk ⟨1,[],0,0,j2_1⟩))]⟩ Qa (sT (qR (.agg [.id, .sl 2]) Qa Qa Qa))))))))
 refine Qg Qe ⟨FI (.bsl 1001 1) 1 0,CJ 1 [] 0 0++kN r1.1 (Qc a0z)⟩ Qa (sB (Yx 1 (Qg Qe ⟨CL (.bsl 1001 1) 1 0 true,CJ 1 [] 0 0++kN r1.1 (Qc a0z)⟩ Qa (sS (Q3 Qa (sK (Qk ⟨FI (.bsl 1001 1) 1 0,CJ 1 [] 0 0++kN r1.1 (Qc a0z)⟩ Qa (sS (sB (Qg Qe ⟨vS (.func 44) (.bsl 1001 1) 1 0,CJ 1 [] 0 0++kN r1.1 (Qc a0z)⟩ Qa (M3 ⟨vS (.func 44) (.bsl 1001 1) 1 0,CJ 1 [] 0 0++kN r1.1 (Qc a0z)⟩ Qa (Zq (KZ 61 5 300 [] [(11,4)] Qa) (Vu [0,1,2] [0,1] [(3,[]),(4,[]),(5,[]),(6,[])] Qe rfl Qa Qa (KY (f:=44) (args:=[Ka]) (dst:=some 29) Qa Qa (Zn (hc:=[(1000,(uF r1.1 (Qc a0z)))]) (args':=[Ka]) [(1000,1000),(700,700)] [] [] Tryz.func44 rfl Tryz.ntmps44 rfl Qa Qa Qa (Qg Qe ⟨[qq 1],qf++[(1000,(uF r1.1 (Qc a0z)))]⟩ Qa (Qg Qe ⟨kL,qf++[(1000,(uF r1.1 (Qc a0z)))]⟩ Qa (KM (fun (j3_1,j3_2,j3_3,j3_4,j3_5)=>⟨[(3, .tsl 5 (mI j3_1) 32)],Qbe j3_1 j3_5++kP j3_2 j3_3 j3_4 j3_5⟩:NM→St) ?_ ?_))))))))))))))))))
 rotate_left
 ·rintro ⟨j3_1,j3_2,j3_3,j3_4,j3_5⟩
  exact Qg Qe ⟨[(2, .tsl 5 (mI j3_1) 32)],Qbe j3_1 j3_5++kP j3_2 j3_3 j3_4 j3_5⟩ Qa (sT (QN (.sl 5) [700,1000] [] (.p (.sl 5 (mI j3_1))) Qa Qa (kh [0,1] Qa (Qo (Qz (.ptr 11 4) Qa rfl) (Qo (WU (S:=5) (t:=300) (ty:=61) (es:=mI []) Qa Qa rfl) (Ql))) Qa (SL [] rfl Qa Qa (WS (e:=61) (S:=5) (by_:=64) (enc:=YC) (tk:=300) (l:=[]) (l2:=j3_1) (xv:=.p (.sl 5 (mI j3_1))) rfl Qa Qa rfl Qa Qa Qa Qa) (fun _=>Ql) (WJ [] Qa Qa (Ql) (WJ [] Qa Qa (Ql) (WV (QT (Qk ⟨FI (.bsl 1001 1) 1 0,qg 1 [] 0 ([]++j3_1)++FH ([]++j3_1)++[(700,(Wy j3_5))]++nG j3_2 j3_3 j3_4 j3_5⟩ Qa (sL Qe Qa (UB ⟨[10,11,20,21,22],[10,11,300,700,1000,1001],[],[]⟩ ⟨FI (.bsl 1001 1) 1 1,qg 1 [] 0 ([]++j3_1)++FH ([]++j3_1)++[(700,(Wy j3_5))]++nG j3_2 j3_3 j3_4 j3_5⟩ Qa (Qg Qe ⟨CL (.bsl 1001 1) 1 1 false,qg 1 [] 0 ([]++j3_1)++FH ([]++j3_1)++[(700,(Wy j3_5))]++nG j3_2 j3_3 j3_4 j3_5⟩ Qa (sS (QZ Qa (Qm (Zu (LV (QG (QV ([]++j3_1,j3_2,j3_3,j3_4,j3_5) Qa)))))))))))))))))))
 refine sB (M3 ⟨kL,qf++[(1000,(uF r1.1 (Qc a0z)))]⟩ Qa (Zq (Weak.trans (KZ 61 5 32 [3] [] Qa) (KZ 99 2 700 [] [(1000,3)] Qa)) (Qw (fun (l4_1,l4_2,l4_3,l4_4,l4_5)=>⟨nE l4_1,aJ l4_1 l4_5++kP l4_2 l4_3 l4_4 l4_5⟩:NM→St) (Wq Qa) ?_)))
 rintro recl4 ⟨l4_1,l4_2,l4_3,l4_4,l4_5⟩
 show QU (Rb n recl4 l4_1 l4_2 l4_3 l4_4 l4_5) _ _ _ _ _ _
 unfold Rb
 refine sS (KM (fun j5=>⟨[qq 1,(3, .tsl 5 (mI l4_1) 32),(21,B j5)],aJ l4_1 l4_5++kP l4_2 l4_3 l4_4 l4_5⟩:Bool→St) ?_ ?_)
 ·refine YK Qe rfl (xR 11 Qa (xS (QL l4_3 (Qc (GH l4_2))) (fun h6=>?_) (fun h6=>?_)))
  ·refine xO (Qt Qa h6) Qa (U7 rfl Qa Qa ?_)
   refine Gh [.ro [.id, .id, .id, .sl 2]] Qa (PH n (⟨l4_2,l4_3,l4_4,l4_5⟩:KL)) Qa Qa QW (fun r7=>?_)
   exact xR 2 Qa (xE (QV (!r7) Qa))
  exact xN (Qu Qa h6) Qa (xR 3 Qa (Yh Qa (QV false Qa)))
 rintro j5
 refine sC j5 Qa (sK (Qk ⟨nE l4_1,aJ l4_1 l4_5++kP l4_2 l4_3 l4_4 l4_5⟩ Qa (sB (Qg Qe ⟨Qa1 l4_1,[(1, .box 100 [Ka]),(4,(RH 0 [] 0 0)),(32,tJ l4_1),(700,(Wy l4_5))]++kP l4_2 l4_3 l4_4 l4_5⟩ Qa (KM (fun (j8_1,j8_2,j8_3,j8_4,j8_5,j8_6,j8_7,j8_8,j8_9,j8_10)=>⟨[qq 1,(3, .tsl 5 (mI l4_1) 32),qq 4,(5,B j8_1)],Qbf ⟨j8_6,j8_7,j8_8,j8_9,j8_10⟩ l4_1 j8_5++kP j8_2 j8_3 j8_4 j8_5⟩:(Bool × (List Y1) × Int × Int × (List KG) × Int × (List UInt8) × Int × Int × (List (List PV)))→St) ?_ ?_))))) (Qm (Zu (ZP (QG (QV (l4_1,l4_2,l4_3,l4_4,l4_5) Qa)))))
 rotate_left
 ·rintro ⟨j8_1,j8_2,j8_3,j8_4,j8_5,j8_6,j8_7,j8_8,j8_9,j8_10⟩
  exact Qg Qe ⟨[qq 1,(3, .tsl 5 (mI l4_1) 32),qq 4,(28,B j8_1)],Qbf ⟨j8_6,j8_7,j8_8,j8_9,j8_10⟩ l4_1 j8_5++kP j8_2 j8_3 j8_4 j8_5⟩ Qa (sC j8_1 Qa (sG (xR 3 Qa (xF Qa Qa (ZM (e:=61) (S:=5) (by_:=64) (enc:=YC) (tk:=32) (l:=l4_1) (l2:=[GN.cs (⟨j8_6,j8_7,j8_8,j8_9,j8_10⟩:GN)]) (xv:=.tsl 5 (mI [GN.cs (⟨j8_6,j8_7,j8_8,j8_9,j8_10⟩:GN)]) 31) rfl Qa Qa rfl Qa Qa Qa rfl Qa) (xR 1 Qa (xE (QT (Ky (l4_1++[GN.cs (⟨j8_6,j8_7,j8_8,j8_9,j8_10⟩:GN)],j8_2,j8_3,j8_4,j8_5) Qa))))))) (sK (QT (Ky (l4_1,j8_2,j8_3,j8_4,j8_5) Qa))))
 refine sG (xR 2 Qa (Yj (f:=78) (args:=[Ka, .fn (.func 79) [] [.ptr 1 0, .ptr 4 0]]) Qa Qa Qa ?_))
 refine Cc (hc:=(aL l4_5 l4_2 l4_3 l4_4)) (args':=[Gl, .fn (.func 79) [] [Jo,NG]]) [(1002,1),(1003,4),(1000,700),(1001,1000)] [] [] (⟨_,_,_,_,_,_,[2,4,5],6,_,rfl,rfl,rfl,rfl,rfl,rfl,rfl,rfl,by decide⟩:F3 Tryz.f78 116) [(2,1900),(4,1901),(5,1902)] Tryz.func78 Tryz.ntmps78 Qa Qa Qa Qa Qa Qe rfl Qa Qa ?_
 refine M3 ⟨Qa3 (.func 79),aL l4_5 l4_2 l4_3 l4_4++aM false⟩ Qa (sS (sG (xR 1 Qa (Yr (aL l4_5 l4_2 l4_3 l4_4) [Jo,NG] nq4 [] [] Qa Tryz.func79 rfl Tryz.ntmps79 rfl Qa Qa Qa (sG (xR 1 Qa ?_))))))
 refine Gg [(1000,1001),(1103,1000)] [] [] Qa (kM n (⟨l4_2,l4_3,l4_4,l4_5⟩:KL)) Qa Qa Qa QW QW QW QW (fun r9=>?_) (fun e10=>?_)
 ·refine xR 1 Qa (xE (Ww (.id) [1000,1001,1002,1003] [] (.tup []) Qa Qa (Yq (xE (Qk ⟨[(4, .ptr 1901 0),(5, .ptr 1902 0)],Qbg r9.2.dg r9.2.tks r9.2.pos r9.2.length r9.1++aM false⟩ Qa (Qg Qe ⟨[(4, .ptr 1901 0),(5, .ptr 1902 0)],Qbg r9.2.dg r9.2.tks r9.2.pos r9.2.length r9.1++aM true⟩ Qa (sT ?_)))))))
  refine Jw (⟨Tryz.f116,_,_,_,6,3,_,_,Tryz.func116,rfl,rfl,rfl,rfl,rfl,rfl,rfl,by decide,by decide⟩:Ko Tryz.prog 116) nq5 (ql r9.2.dg r9.2.tks r9.2.pos r9.2.length++qm true) (.p (.val (.nilIface))) [Jo,NG, .ptr 1004 0] [] rfl Qa Qa Qa Qa ?_
  exact sS (Qg Qe ⟨Qa5,ql r9.2.dg r9.2.tks r9.2.pos r9.2.length++qm true⟩ Qa (Q3 Qa (sT (QY (mK [1000,1001,1002,1003,1004] [] Qa Qa (QN (.id) [1000,1001,1002,1003] [] (.tup [B true,S []]) Qa Qa (Yq (xR 5 Qa (xE (QV (true,r9.2.tks,r9.2.pos,r9.2.length,r9.2.dg,r9.1.Kind,r9.1.Name,r9.1.N,r9.1.At,r9.1.Kids) Qa))))))))))
 refine ZO [1000,1001,1002,1003] [] Qa (Kk ?_)
 refine Jw (⟨Tryz.f116,_,_,_,6,3,_,_,Tryz.func116,rfl,rfl,rfl,rfl,rfl,rfl,rfl,by decide,by decide⟩:Ko Tryz.prog 116) nq5 (ql e10.2.dg e10.2.tks e10.2.pos e10.2.length++qm false) (.ifc 176 (.agg [I e10.1])) [Jo,NG, .ptr 1004 0] [] rfl Qa Qa Qa Qa ?_
 refine sS (Qg Qe ⟨Qa6 e10.1,ql e10.2.dg e10.2.tks e10.2.pos e10.2.length++qm false⟩ Qa (QZ Qa (sK (Qk ⟨Qa7 e10.1,ql e10.2.dg e10.2.tks e10.2.pos e10.2.length++qm false⟩ Qa (Qg Qe ⟨Qa8 e10.1,uE e10.1++ql e10.2.dg e10.2.tks e10.2.pos e10.2.length++qm false⟩ Qa (sS (Qg Qe ⟨Qa9 e10.1,uE e10.1++ql e10.2.dg e10.2.tks e10.2.pos e10.2.length++qm false⟩ Qa (QZ Qa (sK (Qk ⟨Qba,uE e10.1++ql e10.2.dg e10.2.tks e10.2.pos e10.2.length++qm false⟩ Qa (sS (YK Qe rfl (xR 9 Qa (xF Qa Qa (ZM (e:=99) (S:=2) (by_:=16) (enc:=KG.cs) (tk:=1000) (l:=e10.2.dg) (l2:=[(⟨7,e10.1⟩:KG)]) (xv:=.tsl 2 (Fa [(⟨7,e10.1⟩:KG)]) 25) rfl Qa Qa rfl Qa Qa Qa rfl Qa) (xR 3 Qa (Yh Qa (Qk ⟨Qbb,ql (e10.2.dg++[(⟨7,e10.1⟩:KG)]) e10.2.tks e10.2.pos e10.2.length++qm false⟩ Qa (sG (xR 1 Qa (Yj (f:=117) (args:=[Gl]) Qa Qa Qa ?_))))))))))))))))))))
 refine BR 1001 3 1000 99 2 (Fa (e10.2.dg++[(⟨7,e10.1⟩:KG)])).length (Fa (e10.2.dg++[(⟨7,e10.1⟩:KG)])) ⟨[0,1,2,29],[1001,1002,1003,1004],[],[]⟩ Qa Qa rfl (fun _ _ _=>by kernel_rfl) (fun hu11w hu11l hu11c=>?_)
 refine BI [(1000,1001)] [] [] (PK n (⟨e10.2.tks,e10.2.pos,e10.2.length,[]⟩:KL) hu11w hu11l hu11c) Qa Qa Qa QW QW (fun r11=>?_)
 exact S9 _ rfl Qa Qa (Yq (xR 2 Qa (xE (BM [1000,1001,1002,1003,1004] [] Qa Qa (QN (.id) [1000,1001,1002,1003] [] (.tup [B false,S r11.1]) Qa Qa (Yq (xR 5 Qa (xE (bN (false,r11.2.tks,r11.2.pos,r11.2.length,e10.2.dg++[(⟨7,e10.1⟩:KG)],0,[],0,0,[]) ⟨[1,3,4,5],[1,4,32,700,1000],[],[(4,[.id, .id, .id, .id, .sl 5])]⟩ Qa)))))))))
def Yz (a0text:List UInt8) (recl7:Int→Option Bool) (l7:Int):Option Bool :=
 cond (QL l7 (Qc a0text))
  ((Zc a0text l7).bind fun x8 =>
  (cond (leI 97 (YY x8))
   (cond (leI (YY x8) 122)
    (some false)
    (cond (leI 48 (YY x8))
     (cond (leI (YY x8) 57)
      (some false)
      (some (!(Qs (YY x8) 95))))
     (some (!(Qs (YY x8) 95)))))
   (cond (leI 48 (YY x8))
    (cond (leI (YY x8) 57)
     (some false)
     (some (!(Qs (YY x8) 95))))
    (some (!(Qs (YY x8) 95))))).bind fun j9 =>
  cond j9
   (some false)
   (recl7 (wi (l7+1))))
  (some true)
def XB (n:Nat) (a0text:List UInt8):Option Bool :=
 (cond (QL (Qc a0text) 1)
  (some true)
  (cond (QL 12 (Qc a0text))
   (some true)
   ((Zc a0text 0).bind fun x4 =>
   cond (QL (YY x4) 97)
    (some true)
    ((Zc a0text 0).bind fun x6 =>
    some (QL 122 (YY x6)))))).bind fun j1 =>
 cond j1
  (some false)
  (Q4 (fun recl7 l7=>Yz a0text recl7 l7) n 1)
theorem PX (n:Nat) (a0text:List UInt8):∀ r,XB n a0text=some r→Q0 Tryz.prog 155 [S a0text] (.ret (B r)):=by
 refine Qp Tryz.func155 rfl Tryz.ntmps155 rfl ?_
 unfold XB
 refine Qg Qe ⟨[(0,S a0text)],[]⟩ Qa (sS (KM (fun j1=>⟨[(0,S a0text),(22,B j1)],[]⟩:Bool→St) (sG (xR 4 Qa (xS (QL (Qc a0text) 1) (fun h2=>xN (QB Qa h2) Qa (xR 13 Qa (xE (QV true Qa)))) (fun h2=>xO (QA Qa h2) Qa (xR 4 Qa (xS (QL 12 (Qc a0text)) (fun h3=>xN (QB Qa h3) Qa (xR 8 Qa (xE (QV true Qa)))) (fun h3=>xO (QA Qa h3) Qa (xG Qa Qa (WR (l:=a0text) (k:=.i64) (n:=0) rfl Qa Qa Qa) (fun x4=>xR 3 Qa (xS (QL (YY x4) 97) (fun h5=>xN (QB Qa h5) Qa (xR 3 Qa (xE (QV true Qa)))) (fun h5=>xO (QA Qa h5) Qa (xG Qa Qa (WR (l:=a0text) (k:=.i64) (n:=0) rfl Qa Qa Qa) (fun x6=>xR 2 Qa (xE (QV (QL 122 (YY x6)) Qa))))))))))))))) ?_))
 rintro j1
 refine sC j1 Qa (Qg Qe ⟨[(2,B false)],[]⟩ Qa (sT (QY (qR (.id) Qa Qa Qa)))) (sK (Qk ⟨[(0,S a0text)],[]⟩ Qa (sS (Qg Qe ⟨[(0,S a0text),(3,I 1)],[]⟩ Qa (sB (Qw (fun l7=>⟨[(0,S a0text),(3,I l7)],[]⟩:Int→St) (Wq Qa) ?_))))))
 rintro recl7 l7
 show QU (Yz a0text recl7 l7) _ _ _ _ _ _
 unfold Yz
 refine sS (Qg Qe ⟨[(0,S a0text),(3,I l7),(26,B (QL l7 (Qc a0text)))],[]⟩ Qa (sC (QL l7 (Qc a0text)) Qa (sK (Qk ⟨[(0,S a0text),(3,I l7)],[]⟩ Qa (sS (sB (sS (sG (xR 2 Qa (xG Qa Qa (WR (l:=a0text) (k:=.i64) (n:=l7) rfl Qa Qa Qa) (fun x8=>xR 1 Qa (xE (Qk ⟨[(0,S a0text),(3,I l7),(4,B8 (YY x8))],[]⟩ Qa (KM (fun j9=>⟨[(0,S a0text),(3,I l7),(50,B j9)],[]⟩:Bool→St) ?_ ?_)))))))))))) (Qm (Zu (ZP (QG (Qk ⟨[],[]⟩ Qa (Qg Qe ⟨[(2,B true)],[]⟩ Qa (sT (qR (.id) Qa Qa Qa))))))))))
 rotate_left
 ·rintro j9
  exact sC j9 Qa (Qg Qe ⟨[(2,B false)],[]⟩ Qa (sT (Q9 (QY (KC (Q9 (QY (qR (.id) Qa Qa Qa)))))))) (sK (QT (Qk ⟨[(0,S a0text),(3,I l7)],[]⟩ Qa (sL Qe Qa (Ky (wi (l7+1)) Qa)))))
 exact sG (xR 3 Qa (xS (leI 97 (YY x8)) (fun h10=>xO (Qt Qa h10) Qa (xR 3 Qa (xS (leI (YY x8) 122) (fun h11=>xN (QB Qa h11) Qa (xR 11 Qa (xE (QV false Qa)))) (fun h11=>xO (QA Qa h11) Qa (xR 2 Qa (xS (leI 48 (YY x8)) (fun h12=>xO (Qt Qa h12) Qa (xR 4 Qa (xS (leI (YY x8) 57) (fun h13=>xN (QB Qa h13) Qa (xR 3 Qa (xE (QV false Qa)))) (fun h13=>xO (QA Qa h13) Qa (xR 3 Qa (xE (QV (!(Qs (YY x8) 95)) Qa))))))) (fun h12=>xN (Qu Qa h12) Qa (xR 8 Qa (xE (QV (!(Qs (YY x8) 95)) Qa)))))))))) (fun h10=>xN (Qu Qa h10) Qa (xR 6 Qa (xS (leI 48 (YY x8)) (fun h14=>xO (Qt Qa h14) Qa (xR 4 Qa (xS (leI (YY x8) 57) (fun h15=>xN (QB Qa h15) Qa (xR 3 Qa (xE (QV false Qa)))) (fun h15=>xO (QA Qa h15) Qa (xR 3 Qa (xE (QV (!(Qs (YY x8) 95)) Qa))))))) (fun h14=>xN (Qu Qa h14) Qa (xR 8 Qa (xE (QV (!(Qs (YY x8) 95)) Qa)))))))))
def Jj (n:Nat) (a0text:List UInt8):Option Bool :=
 (XB n a0text).bind fun r1 =>
 cond r1
  ((Ht n a0text).bind fun r3 =>
  some (!r3))
  (some false)
theorem Ro (n:Nat) (a0text:List UInt8):∀ r,Jj n a0text=some r→Q0 Tryz.prog 128 [S a0text] (.ret (B r)):=by
 refine Qp Tryz.func128 rfl Tryz.ntmps128 rfl ?_
 unfold Jj
 refine Qg Qe ⟨[(0,S a0text)],[]⟩ Qa (sS (sG (xR 1 Qa ?_)))
 refine xC [] Qa (PX n a0text) Qa Qa QW (fun r1=>?_)
 refine xR 1 Qa (xS r1 (fun h2=>?_) (fun h2=>?_))
 ·refine xO (Qt Qa h2) Qa ?_
  refine xC [] Qa (Mq n a0text) Qa Qa QW (fun r3=>?_)
  exact xR 3 Qa (xE (Qk ⟨[(2,B (!r3))],[]⟩ Qa (sT (qR (.id) Qa Qa Qa))))
 exact xN (Qu Qa h2) Qa (xR 4 Qa (xE (Qk ⟨[(2,B false)],[]⟩ Qa (sT (qR (.id) Qa Qa Qa)))))
def Gu (n:Nat) (a0n:GN) (a1words:Bool):Option Bool :=
 cond (!Qs (Qc (List.map YC a0n.Kids)) 0)
  (some false)
  (cond (Qs a0n.Kind 5)
   (cond (Qs a0n.N 0)
    ((Jj n a0n.Name).bind fun r2 =>
    cond r2
     (some true)
     (cond a1words
      ((Ue n a0n.Name).bind fun r5 =>
      some r5)
      (some false)))
    (some false))
   (cond (Qs a0n.Kind 6)
    (cond (Q8 a0n.Name [])
     (cond (leI 0 a0n.N)
      (some (leI a0n.N 1000000))
      (some false))
     (some false))
    (some false)))
theorem MH (n:Nat) (a0n:GN) (a1words:Bool):∀ r,Gu n a0n a1words=some r→Q0 Tryz.prog 157 [ag (GN.cs a0n),B a1words] (.ret (B r)):=by
 refine Qp Tryz.func157 rfl Tryz.ntmps157 rfl ?_
 unfold Gu
 refine Qg Qe ⟨[(1,B a1words),qq 2],VZ a0n⟩ Qa (sS (Qg Qe ⟨[(1,B a1words),qq 2,(8,B (!Qs (Qc (mI a0n.Kids)) 0))],VZ a0n⟩ Qa (sC (!Qs (Qc (mI a0n.Kids)) 0) Qa (Qg Qe ⟨[(4,B false)],[]⟩ Qa (sT (QY (qR (.id) Qa Qa Qa)))) (sK (Qk ⟨[(1,B a1words),qq 2],VZ a0n⟩ Qa (sS (Qg Qe ⟨[(1,B a1words),qq 2,(10,I a0n.Kind)],VZ a0n⟩ Qa (sB (Qg Qe ⟨[(1,B a1words),qq 2,(10,I a0n.Kind),(11,B (Qs a0n.Kind 5))],VZ a0n⟩ Qa (sC (Qs a0n.Kind 5) Qa (sS (sG (xR 4 Qa (xS (Qs a0n.N 0) (fun h1=>xO (Qt Qa h1) Qa (xR 1 Qa ?_)) (fun h1=>xN (Qu Qa h1) Qa (xR 12 Qa (xE (Qk ⟨[(4,B false)],[]⟩ Qa (sT (Q9 (QY (qR (.id) Qa Qa Qa)))))))))))) (Qg Qe ⟨[qq 2,(29,B (Qs a0n.Kind 6))],VZ a0n⟩ Qa (sC (Qs a0n.Kind 6) Qa (sS (sG (xR 4 Qa (xS (Q8 a0n.Name []) (fun h6=>xO (Qt Qa h6) Qa (xR 4 Qa (xS (leI 0 a0n.N) (fun h7=>xO (Qt Qa h7) Qa (xR 4 Qa (xE (Qk ⟨[(4,B (leI a0n.N 1000000))],[]⟩ Qa (sT (Q9 (QY (qR (.id) Qa Qa Qa)))))))) (fun h7=>xN (Qu Qa h7) Qa (xR 4 Qa (xE (Qk ⟨[(4,B false)],[]⟩ Qa (sT (Q9 (QY (qR (.id) Qa Qa Qa))))))))))) (fun h6=>xN (Qu Qa h6) Qa (xR 9 Qa (xE (Qk ⟨[(4,B false)],[]⟩ Qa (sT (Q9 (QY (qR (.id) Qa Qa Qa)))))))))))) (sK (QT (Qk ⟨[],[]⟩ Qa (Qg Qe ⟨[(4,B false)],[]⟩ Qa (sT (qR (.id) Qa Qa Qa))))))))))))))))))
 refine xC [] Qa (Ro n a0n.Name) Qa Qa QW (fun r2=>?_)
 refine xR 1 Qa (xS r2 (fun h3=>xN (QB Qa h3) Qa (xR 8 Qa (xE (Qk ⟨[(4,B true)],[]⟩ Qa (sT (Q9 (QY (qR (.id) Qa Qa Qa)))))))) (fun h3=>xO (QA Qa h3) Qa (xR 1 Qa (xS a1words (fun h4=>?_) (fun h4=>?_)))))
 ·refine xO (Qt Qa h4) Qa (xR 1 Qa ?_)
  refine xC [] Qa (FC n a0n.Name) Qa Qa QW (fun r5=>?_)
  exact xR 4 Qa (xE (Qk ⟨[(4,B r5)],[]⟩ Qa (sT (Q9 (QY (qR (.id) Qa Qa Qa))))))
 exact xN (Qu Qa h4) Qa (xR 6 Qa (xE (Qk ⟨[(4,B false)],[]⟩ Qa (sT (Q9 (QY (qR (.id) Qa Qa Qa)))))))
def Ug (n:Nat) (a0n:GN) (a1left:Int) (recl9:Int→Option (Bool × Int)) (l9:Int):Option (Bool × Int) :=
 cond (QL l9 (Qc (List.map YC a0n.Kids)))
  ((Option.bind (Zc a0n.Kids l9) GN.of).bind fun x10 =>
  (Gu n x10 (Qs a0n.Kind 4)).bind fun r11 =>
  cond (!r11)
   (some (false,wi (a1left - (Qc (List.map YC a0n.Kids)))))
   (recl9 (wi (l9+1))))
  (some (true,wi (a1left - (Qc (List.map YC a0n.Kids)))))
def FJ (n:Nat) (a0n:GN) (a1left:Int):Option (Bool × Int) :=
 cond (!Qs a0n.N 0)
  (some (false,a1left))
  ((cond (Qs a0n.Kind 3)
   ((J9 n a0n.Name).bind fun r3 =>
   some (!r3))
   (some false)).bind fun j1 =>
  cond j1
   (some (false,a1left))
   ((cond (Qs a0n.Kind 4)
    ((Ws n a0n.Name).bind fun r6 =>
    some (!r6))
    (some false)).bind fun j4 =>
   cond j4
    (some (false,a1left))
    ((cond (!Qs a0n.Kind 3)
     (some (!Qs a0n.Kind 4))
     (some false)).bind fun j7 =>
    cond j7
     (some (false,a1left))
     (cond (QL (wi (a1left - (Qc (List.map YC a0n.Kids)))) 0)
      (some (false,wi (a1left - (Qc (List.map YC a0n.Kids)))))
      (Q4 (fun recl9 l9=>Ug n a0n a1left recl9 l9) n 0)))))
def XC:=fun x0=>([(1001, .box 3 [I x0])]:List (Nat × Blk))
def aN:=fun x0 x1=>(⟨[(1, .ptr 1001 0),(2, .ptr 2 0)],VZ x0++XC x1⟩:St)
def dY:=fun x0=>([(1, .ptr 1001 0),(2, .ptr 2 0),(5,B x0)]:List (Nat × AV))
def nH:=fun x0=>(.box 3 [I x0]:Blk)
def Rf:=fun x0=>([(1001,(nH x0))]:List (Nat × Blk))
def dZ:=fun x0 x1 x2=>([(5,B x0),(57, .p (.sl 5 (List.map YC (GN.Kids x1)))),(58,I (Qc (List.map YC (GN.Kids x1)))),(59,I x2)]:List (Nat × AV))
theorem NP (n:Nat) (a0n:GN) (a1left:Int):∀ r,FJ n a0n a1left=some r→Wz Tryz.prog 129 [ag (GN.cs a0n),Gl] (Go.Abs.look [(1001, .box 3 [I a1left])]) (Xw (fun r:Bool × Int=>((.ret (B r.1),[(1001, .box 3 [I r.2])]):Z0 × List (Nat × Blk))) r):=by
 refine Y2 (XC a1left) Tryz.func129 rfl Tryz.ntmps129 rfl ?_
 unfold FJ
 refine Qg Qe (aN a0n a1left) Qa (Qg Qe ⟨dY (Qs a0n.Kind 4),VZ a0n++XC a1left⟩ Qa (sS (sB (Qg Qe ⟨[(1,Gl),qq 2,(5,B (Qs a0n.Kind 4)),(11,B (!Qs a0n.N 0))],VZ a0n++XC a1left⟩ Qa (sC (!Qs a0n.N 0) Qa (Qg Qe ⟨[(4,B false)],XC a1left⟩ Qa (sT (Q9 (QY (YQ (.id) [1001] [] Qa Qa Qa Qa))))) (KM (fun j1=>⟨[(1,Gl),qq 2,(5,B (Qs a0n.Kind 4)),(15,B j1)],VZ a0n++XC a1left⟩:Bool→St) ?_ ?_))))))
 ·refine sG (xR 4 Qa (xS (Qs a0n.Kind 3) (fun h2=>?_) (fun h2=>?_)))
  ·refine xO (Qt Qa h2) Qa (xR 1 Qa ?_)
   refine xC [] Qa (Un n a0n.Name) Qa Qa QW (fun r3=>?_)
   exact xR 3 Qa (xE (QV (!r3) Qa))
  exact xN (Qu Qa h2) Qa (xR 5 Qa (xE (QV false Qa)))
 rintro j1
 refine sC j1 Qa (Qg Qe ⟨[(4,B false)],XC a1left⟩ Qa (sT (Q9 (QY (YQ (.id) [1001] [] Qa Qa Qa Qa))))) (KM (fun j4=>⟨[(1,Gl),qq 2,(5,B (Qs a0n.Kind 4)),(25,B j4)],VZ a0n++XC a1left⟩:Bool→St) ?_ ?_)
 ·refine sG (xR 4 Qa (xS (Qs a0n.Kind 4) (fun h5=>?_) (fun h5=>?_)))
  ·refine xO (Qt Qa h5) Qa (xR 1 Qa ?_)
   refine xC [] Qa (Ud n a0n.Name) Qa Qa QW (fun r6=>?_)
   exact xR 3 Qa (xE (QV (!r6) Qa))
  exact xN (Qu Qa h5) Qa (xR 5 Qa (xE (QV false Qa)))
 rintro j4
 refine sC j4 Qa (Qg Qe ⟨[(4,B false)],XC a1left⟩ Qa (sT (Q9 (QY (YQ (.id) [1001] [] Qa Qa Qa Qa))))) (KM (fun j7=>⟨[(1,Gl),qq 2,(5,B (Qs a0n.Kind 4)),(35,B j7)],VZ a0n++XC a1left⟩:Bool→St) (sG (xR 4 Qa (xS (!Qs a0n.Kind 3) (fun h8=>xO (Qt Qa h8) Qa (xR 4 Qa (xE (QV (!Qs a0n.Kind 4) Qa)))) (fun h8=>xN (Qu Qa h8) Qa (xR 4 Qa (xE (QV false Qa))))))) ?_)
 rintro j7
 refine sC j7 Qa (Qg Qe ⟨[(4,B false)],XC a1left⟩ Qa (sT (Q9 (QY (YQ (.id) [1001] [] Qa Qa Qa Qa))))) (sK (QT (Qk ⟨dY (Qs a0n.Kind 4),VZ a0n++XC a1left⟩ Qa (Qg Qe ⟨dY (Qs a0n.Kind 4),VZ a0n++Rf (wi (a1left - (Qc (mI a0n.Kids))))⟩ Qa (sS (Qg Qe ⟨[qq 2,(5,B (Qs a0n.Kind 4)),(55,B (QL (wi (a1left - (Qc (mI a0n.Kids)))) 0))],VZ a0n++Rf (wi (a1left - (Qc (mI a0n.Kids))))⟩ Qa (sC (QL (wi (a1left - (Qc (mI a0n.Kids)))) 0) Qa (Qg Qe ⟨[(4,B false)],Rf (wi (a1left - (Qc (mI a0n.Kids))))⟩ Qa (sT (QY (YQ (.id) [1001] [] Qa Qa Qa Qa)))) (sK (Qk ⟨[qq 2,(5,B (Qs a0n.Kind 4))],VZ a0n++Rf (wi (a1left - (Qc (mI a0n.Kids))))⟩ Qa (sS (Qg Qe ⟨dZ (Qs a0n.Kind 4) a0n 0,Rf (wi (a1left - (Qc (mI a0n.Kids))))⟩ Qa (sB (Qw (fun l9=>⟨dZ (Qs a0n.Kind 4) a0n l9,Rf (wi (a1left - (Qc (mI a0n.Kids))))⟩:Int→St) (Wq Qa) ?_)))))))))))))
 rintro recl9 l9
 show QU (Ug n a0n a1left recl9 l9) _ _ _ _ _ _
 unfold Ug
 refine Qg Qe ⟨[(5,B (Qs a0n.Kind 4)),(57, .p (.sl 5 (mI a0n.Kids))),(58,I (Qc (mI a0n.Kids))),(59,I l9),(60,B (QL l9 (Qc (mI a0n.Kids))))],Rf (wi (a1left - (Qc (mI a0n.Kids))))⟩ Qa (sS (sC (QL l9 (Qc (mI a0n.Kids))) Qa (sK (Qk ⟨dZ (Qs a0n.Kind 4) a0n l9,Rf (wi (a1left - (Qc (mI a0n.Kids))))⟩ Qa (sS (sB (sS (sG (xG Qa Qa (Vh (e:=61) (S:=5) (enc:=GN.cs) (dec:=GN.of) (l:=a0n.Kids) (k:=.i64) (n:=l9) (sv:=.p (.sl 5 (mI a0n.Kids))) GN.of_cs rfl Qa Qa Qa Qa Qa) (fun x10=>xR 3 Qa (xE (Qk ⟨[(5,B (Qs a0n.Kind 4)),qq 7,(57, .p (.sl 5 (mI a0n.Kids))),(58,I (Qc (mI a0n.Kids))),(59,I l9)],dV x10++Rf (wi (a1left - (Qc (mI a0n.Kids))))⟩ Qa (sS (sG (xR 2 Qa ?_))))))))))))) (Qm (Zu (ZP (QG (Qk ⟨[],Rf (wi (a1left - (Qc (mI a0n.Kids))))⟩ Qa (Qg Qe ⟨[(4,B true)],Rf (wi (a1left - (Qc (mI a0n.Kids))))⟩ Qa (sT (YQ (.id) [1001] [] Qa Qa Qa Qa))))))))))
 refine xC [] Qa (MH n x10 (Qs a0n.Kind 4)) Qa Qa QW (fun r11=>?_)
 exact xR 1 Qa (xE (Qk ⟨[(5,B (Qs a0n.Kind 4)),(57, .p (.sl 5 (mI a0n.Kids))),(58,I (Qc (mI a0n.Kids))),(59,I l9),(66,B (!r11))],Rf (wi (a1left - (Qc (mI a0n.Kids))))⟩ Qa (sC (!r11) Qa (Qg Qe ⟨[(4,B false)],Rf (wi (a1left - (Qc (mI a0n.Kids))))⟩ Qa (sT (Q9 (QY (KC (Q9 (QY (YQ (.id) [1001] [] Qa Qa Qa Qa)))))))) (sK (QT (Qk ⟨dZ (Qs a0n.Kind 4) a0n l9,Rf (wi (a1left - (Qc (mI a0n.Kids))))⟩ Qa (sL Qe Qa (Ky (wi (l9+1)) Qa))))))))
def VK (a0n:GN) (j6_1:Bool) (j6_2:Int):Option (Bool × Int) :=
 cond (!j6_1)
  (some (true,j6_2))
  (some (Qs a0n.N 7,j6_2))
def K4 (n:Nat) (l8_2:Int) (l8_3:Int) (recl8:(Bool × Int × Int)→Option (Bool × Int)) (x9:GN) (j10:Bool):Option (Bool × Int) :=
 (FJ n x9 l8_3).bind fun r11 =>
 cond (!r11.1)
  (some (false,r11.2))
  (recl8 (j10,wi (l8_2+1),r11.2))
def Uh (n:Nat) (a0n:GN) (recl8:(Bool × Int × Int)→Option (Bool × Int)) (l8_1:Bool) (l8_2:Int) (l8_3:Int):Option (Bool × Int) :=
 cond (QL l8_2 (Qc (List.map YC a0n.Kids)))
  ((Option.bind (Zc a0n.Kids l8_2) GN.of).bind fun x9 =>
  cond (Qs x9.Kind 4)
   (K4 n l8_2 l8_3 recl8 x9 true)
   (cond l8_1
    (some (false,l8_3))
    (K4 n l8_2 l8_3 recl8 x9 l8_1)))
  (VK a0n l8_1 l8_3)
def JQ (n:Nat) (a0n:GN) (a1left:Int):Option (Bool × Int) :=
 (cond (!Qs a0n.Kind 2)
  (some true)
  (cond (QL a0n.N 1)
   (some true)
   (cond (QL 7 a0n.N)
    (some true)
    ((Jj n a0n.Name).bind fun r5 =>
    some (!r5))))).bind fun j1 =>
 cond j1
  (some (false,a1left))
  (cond (QL (wi (a1left - (Qc (List.map YC a0n.Kids)))) 0)
   (some (false,wi (a1left - (Qc (List.map YC a0n.Kids)))))
   (Q4 (fun recl8 (l8_1,l8_2,l8_3)=>Uh n a0n recl8 l8_1 l8_2 l8_3) n (false,0,wi (a1left - (Qc (List.map YC a0n.Kids))))))
def Qbh:=fun x0 x1=>(⟨[(1, .ptr 1001 0),(2, .ptr 2 0)],VZ x0++Rf x1⟩:St)
def d9:=fun x0 x1 x2=>([(1, .ptr 1001 0),(2, .ptr 2 0),(5,B x0),(40, .p (.sl 5 (List.map YC (GN.Kids x1)))),(41,I (Qc (List.map YC (GN.Kids x1)))),(42,I x2)]:List (Nat × AV))
def Qbi:=fun x0 x1 x2=>([(1, .ptr 1001 0),(2, .ptr 2 0),(5,B x0),(7, .ptr 7 0),(40, .p (.sl 5 (List.map YC (GN.Kids x1)))),(41,I (Qc (List.map YC (GN.Kids x1)))),(42,I x2)]:List (Nat × AV))
def cu:=fun x0 x1=>([(2, .box 61 (Kw (GN.cs x0))),(7, .box 61 (Kw (GN.cs x1)))]:List (Nat × Blk))
theorem NQ (n:Nat) (a0n:GN) (a1left:Int):∀ r,JQ n a0n a1left=some r→Wz Tryz.prog 81 [ag (GN.cs a0n),Gl] (Go.Abs.look [(1001, .box 3 [I a1left])]) (Xw (fun r:Bool × Int=>((.ret (B r.1),[(1001, .box 3 [I r.2])]):Z0 × List (Nat × Blk))) r):=by
 refine Y2 (XC a1left) Tryz.func81 rfl Tryz.ntmps81 rfl ?_
 unfold JQ
 refine Qg Qe (aN a0n a1left) Qa (sS (KM (fun j1=>⟨[(1,Gl),qq 2,(26,B j1)],VZ a0n++XC a1left⟩:Bool→St) ?_ ?_))
 ·refine sG (xR 4 Qa (xS (!Qs a0n.Kind 2) (fun h2=>xN (QB Qa h2) Qa (xR 14 Qa (xE (QV true Qa)))) (fun h2=>xO (QA Qa h2) Qa (xR 4 Qa (xS (QL a0n.N 1) (fun h3=>xN (QB Qa h3) Qa (xR 9 Qa (xE (QV true Qa)))) (fun h3=>xO (QA Qa h3) Qa (xR 4 Qa (xS (QL 7 a0n.N) (fun h4=>xN (QB Qa h4) Qa (xR 4 Qa (xE (QV true Qa)))) (fun h4=>xO (QA Qa h4) Qa (xR 1 Qa ?_))))))))))
  refine xC [] Qa (Ro n a0n.Name) Qa Qa QW (fun r5=>?_)
  exact xR 2 Qa (xE (QV (!r5) Qa))
 rintro j1
 refine sC j1 Qa (Qg Qe ⟨[(4,B false)],XC a1left⟩ Qa (sT (QY (YQ (.id) [1001] [] Qa Qa Qa Qa)))) (sK (Qk (aN a0n a1left) Qa (Qg Qe (Qbh a0n (wi (a1left - (Qc (mI a0n.Kids))))) Qa (sS (Qg Qe ⟨[(1,Gl),qq 2,(38,B (QL (wi (a1left - (Qc (mI a0n.Kids)))) 0))],VZ a0n++Rf (wi (a1left - (Qc (mI a0n.Kids))))⟩ Qa (sC (QL (wi (a1left - (Qc (mI a0n.Kids)))) 0) Qa (Qg Qe ⟨[(4,B false)],Rf (wi (a1left - (Qc (mI a0n.Kids))))⟩ Qa (sT (QY (YQ (.id) [1001] [] Qa Qa Qa Qa)))) (sK (Qk (Qbh a0n (wi (a1left - (Qc (mI a0n.Kids))))) Qa (Qg Qe ⟨dY false,VZ a0n++Rf (wi (a1left - (Qc (mI a0n.Kids))))⟩ Qa (ZY (fun (j6_1,j6_2)=>⟨[qq 2,(5,B j6_1)],VZ a0n++XC j6_2⟩:(Bool × Int)→St) (fun (j6_1,j6_2)=>VK a0n j6_1 j6_2) ?_ ?_))))))))))
 ·rintro ⟨j6_1,j6_2⟩
  show QU (VK a0n j6_1 j6_2) _ _ _ _ _ _
  unfold VK
  exact sS (sG (xR 3 Qa (xS (!j6_1) (fun h7=>xN (QB Qa h7) Qa (xR 4 Qa (xE (Qk ⟨[(4,B true)],XC j6_2⟩ Qa (sT (YQ (.id) [1001] [] Qa Qa Qa Qa)))))) (fun h7=>xO (QA Qa h7) Qa (xR 4 Qa (xE (Qk ⟨[(4,B (Qs a0n.N 7))],XC j6_2⟩ Qa (sT (YQ (.id) [1001] [] Qa Qa Qa Qa)))))))))
 refine Qg Qe ⟨d9 false a0n 0,VZ a0n++Rf (wi (a1left - (Qc (mI a0n.Kids))))⟩ Qa (sB (Qw (fun (l8_1,l8_2,l8_3)=>⟨d9 l8_1 a0n l8_2,VZ a0n++XC l8_3⟩:(Bool × Int × Int)→St) (Wq Qa) ?_))
 rintro recl8 ⟨l8_1,l8_2,l8_3⟩
 show QU (Uh n a0n recl8 l8_1 l8_2 l8_3) _ _ _ _ _ _
 unfold Uh
 refine Qg Qe ⟨[(1,Gl),qq 2,(5,B l8_1),(40, .p (.sl 5 (mI a0n.Kids))),(41,I (Qc (mI a0n.Kids))),(42,I l8_2),(43,B (QL l8_2 (Qc (mI a0n.Kids))))],VZ a0n++XC l8_3⟩ Qa (sS (sC (QL l8_2 (Qc (mI a0n.Kids))) Qa (sK (Qk ⟨d9 l8_1 a0n l8_2,VZ a0n++XC l8_3⟩ Qa (sS (sB (sS (sG (xG Qa Qa (Vh (e:=61) (S:=5) (enc:=GN.cs) (dec:=GN.of) (l:=a0n.Kids) (k:=.i64) (n:=l8_2) (sv:=.p (.sl 5 (mI a0n.Kids))) GN.of_cs rfl Qa Qa Qa Qa Qa) (fun x9=>xR 3 Qa (xE (Qk ⟨Qbi l8_1 a0n l8_2,cu a0n x9++XC l8_3⟩ Qa (ZY (fun j10=>⟨Qbi j10 a0n l8_2,cu a0n x9++XC l8_3⟩:Bool→St) (fun j10=>K4 n l8_2 l8_3 recl8 x9 j10) ?_ (Qg Qe ⟨[(1,Gl),qq 2,(5,B l8_1),qq 7,(40, .p (.sl 5 (mI a0n.Kids))),(41,I (Qc (mI a0n.Kids))),(42,I l8_2),(48,B (Qs x9.Kind 4))],cu a0n x9++XC l8_3⟩ Qa (sC (Qs x9.Kind 4) Qa (sL Qe Qa (Ky (k:=fun j10=>K4 n l8_2 l8_3 recl8 x9 j10) true Qa)) (Qg Qe ⟨[(1,Gl),qq 2,(5,B l8_1),qq 7,(40, .p (.sl 5 (mI a0n.Kids))),(41,I (Qc (mI a0n.Kids))),(42,I l8_2),(49,B l8_1)],cu a0n x9++XC l8_3⟩ Qa (sC l8_1 Qa (Qg Qe ⟨[(4,B false)],XC l8_3⟩ Qa (sT (KC (Q9 (QY (KC (Q9 (KC (YQ (.id) [1001] [] Qa Qa Qa Qa))))))))) (sK (Ky (k:=fun j10=>K4 n l8_2 l8_3 recl8 x9 j10) l8_1 Qa))))))))))))))))) (Qm (Zu (ZP (QG (Ky (k:=fun (j6_1,j6_2)=>VK a0n j6_1 j6_2) (l8_1,l8_3) Qa)))))))
 rintro j10
 show QU (K4 n l8_2 l8_3 recl8 x9 j10) _ _ _ _ _ _
 unfold K4
 refine sS (sG (xR 2 Qa ?_))
 refine OY [(1001,1001)] [] [] Qa (NP n x9 l8_3) Qa Qa Qa QW QW (fun r11=>?_)
 exact xR 1 Qa (xE (Qk ⟨[(1,Gl),qq 2,(5,B j10),(40, .p (.sl 5 (mI a0n.Kids))),(41,I (Qc (mI a0n.Kids))),(42,I l8_2),(53,B (!r11.1))],VZ a0n++XC r11.2⟩ Qa (sC (!r11.1) Qa (Qg Qe ⟨[(4,B false)],XC r11.2⟩ Qa (sT (Q9 (QY (KC (Q9 (KC (YQ (.id) [1001] [] Qa Qa Qa Qa)))))))) (sK (QT (Qk ⟨d9 j10 a0n l8_2,VZ a0n++XC r11.2⟩ Qa (sL Qe Qa (Ky (j10,wi (l8_2+1),r11.2) Qa))))))))
def He (n:Nat) (a0n:GN) (recl5:(Int × Int)→Option Bool) (l5_1:Int) (l5_2:Int):Option Bool :=
 cond (QL l5_1 (Qc (List.map YC a0n.Kids)))
  ((Option.bind (Zc a0n.Kids l5_1) GN.of).bind fun x6 =>
  (JQ n x6 l5_2).bind fun r7 =>
  cond (!r7.1)
   (some false)
   (recl5 (wi (l5_1+1),r7.2)))
  (some true)
def Hu (n:Nat) (a0n:GN):Option Bool :=
 (cond (!Qs a0n.Kind 1)
  (some true)
  (cond (!Q8 a0n.Name [])
   (some true)
   (cond (!Qs a0n.N 0)
    (some true)
    (some (QL (wi (1499 - (Qc (List.map YC a0n.Kids)))) 0))))).bind fun j1 =>
 cond j1
  (some false)
  (Q4 (fun recl5 (l5_1,l5_2)=>He n a0n recl5 l5_1 l5_2) n (0,wi (1499 - (Qc (List.map YC a0n.Kids)))))
def MI:=fun x0=>([(1, .box 61 (Kw (GN.cs x0)))]:List (Nat × Blk))
def aO:=fun x0 x1=>([(1, .box 61 (Kw (GN.cs x0))),(3,(nH x1))]:List (Nat × Blk))
def cz:=fun x0 x1=>([(3, .ptr 3 0),(28, .p (.sl 5 (List.map YC (GN.Kids x0)))),(29,I (Qc (List.map YC (GN.Kids x0)))),(30,I x1)]:List (Nat × AV))
abbrev Xl (x:GN):Go.Abs.Blk:=.box 61 (Kw (GN.cs x))
theorem MJ (n:Nat) (a0n:GN):∀ r,Hu n a0n=some r→Q0 Tryz.prog 46 [ag (GN.cs a0n)] (.ret (B r)):=by
 refine Qp Tryz.func46 rfl Tryz.ntmps46 rfl ?_
 unfold Hu
 refine Qg Qe ⟨[qq 1],MI a0n⟩ Qa (Qg Qe ⟨[qq 1,qq 3],aO a0n (wi (1499 - (Qc (mI a0n.Kids))))⟩ Qa (sS (KM (fun j1=>⟨[qq 1,qq 3,(26,B j1)],aO a0n (wi (1499 - (Qc (mI a0n.Kids))))⟩:Bool→St) (sG (xR 4 Qa (xS (!Qs a0n.Kind 1) (fun h2=>xN (QB Qa h2) Qa (xR 12 Qa (xE (QV true Qa)))) (fun h2=>xO (QA Qa h2) Qa (xR 4 Qa (xS (!Q8 a0n.Name []) (fun h3=>xN (QB Qa h3) Qa (xR 7 Qa (xE (QV true Qa)))) (fun h3=>xO (QA Qa h3) Qa (xR 4 Qa (xS (!Qs a0n.N 0) (fun h4=>xN (QB Qa h4) Qa (xR 2 Qa (xE (QV true Qa)))) (fun h4=>xO (QA Qa h4) Qa (xR 2 Qa (xE (QV (QL (wi (1499 - (Qc (mI a0n.Kids)))) 0) Qa))))))))))))) ?_)))
 rintro j1
 refine sC j1 Qa (Qg Qe ⟨[(2,B false)],[]⟩ Qa (sT (QY (qR (.id) Qa Qa Qa)))) (sK (Qk ⟨[qq 1,qq 3],aO a0n (wi (1499 - (Qc (mI a0n.Kids))))⟩ Qa (sS (Qg Qe ⟨cz a0n 0,[(3,(nH (wi (1499 - (Qc (mI a0n.Kids))))))]⟩ Qa (sB (Qw (fun (l5_1,l5_2)=>⟨cz a0n l5_1,[(3, .box 3 [I l5_2])]⟩:(Int × Int)→St) (Wq Qa) ?_))))))
 rintro recl5 ⟨l5_1,l5_2⟩
 show QU (He n a0n recl5 l5_1 l5_2) _ _ _ _ _ _
 unfold He
 refine Qg Qe ⟨[qq 3,(28, .p (.sl 5 (mI a0n.Kids))),(29,I (Qc (mI a0n.Kids))),(30,I l5_1),(31,B (QL l5_1 (Qc (mI a0n.Kids))))],[(3, .box 3 [I l5_2])]⟩ Qa (sS (sC (QL l5_1 (Qc (mI a0n.Kids))) Qa (sK (Qk ⟨cz a0n l5_1,[(3, .box 3 [I l5_2])]⟩ Qa (sS (sB (sS (sG (xG Qa Qa (Vh (e:=61) (S:=5) (enc:=GN.cs) (dec:=GN.of) (l:=a0n.Kids) (k:=.i64) (n:=l5_1) (sv:=.p (.sl 5 (mI a0n.Kids))) GN.of_cs rfl Qa Qa Qa Qa Qa) (fun x6=>xR 3 Qa (xE (Qk ⟨[qq 3,qq 5,(28, .p (.sl 5 (mI a0n.Kids))),(29,I (Qc (mI a0n.Kids))),(30,I l5_1)],[(3, .box 3 [I l5_2]),(5,Xl x6)]⟩ Qa (sS (sG (xR 1 Qa ?_))))))))))))) (Qm (Zu (ZP (QG (Qk ⟨[],[]⟩ Qa (Qg Qe ⟨[(2,B true)],[]⟩ Qa (sT (qR (.id) Qa Qa Qa))))))))))
 refine OY [(1001,3)] [] [] Qa (NQ n x6 l5_2) Qa Qa Qa QW QW (fun r7=>?_)
 exact xR 1 Qa (xE (Qk ⟨[qq 3,(28, .p (.sl 5 (mI a0n.Kids))),(29,I (Qc (mI a0n.Kids))),(30,I l5_1),(36,B (!r7.1))],[(3, .box 3 [I r7.2])]⟩ Qa (sC (!r7.1) Qa (Qg Qe ⟨[(2,B false)],[]⟩ Qa (sT (Q9 (QY (KC (Q9 (QY (qR (.id) Qa Qa Qa)))))))) (sK (QT (Qk ⟨cz a0n l5_1,[(3, .box 3 [I r7.2])]⟩ Qa (sL Qe Qa (Ky (wi (l5_1+1),r7.2) Qa))))))))
def XD (a0u_0:List Int) (a1kind:Int) (recl1:Int→Option Bool) (l1:Int):Option Bool :=
 cond (QL l1 (Qc (List.map ci a0u_0)))
  ((Zc a0u_0 l1).bind fun x2 =>
  cond (Qs x2 a1kind)
   (some true)
   (recl1 (wi (l1+1))))
  (some false)
def QS (n:Nat) (a0u_0:List Int) (a0u_1:Bool) (a1kind:Int):Option Bool :=
 Q4 (fun recl1 l1=>XD a0u_0 a1kind recl1 l1) n 0
def cB:=fun x0 x1 x2=>([(1,I x0),(8, .p (.sl 1 (List.map ci x1))),(9,I (Qc (List.map ci x1))),(10,I x2)]:List (Nat × AV))
theorem QF (n:Nat) (a0u_0:List Int) (a0u_1:Bool) (a1kind:Int) (hw0_2:FV):∀ r,QS n a0u_0 a0u_1 a1kind=some r→Q0 Tryz.prog 135 [.agg [.p (.sl 1 (List.map ci a0u_0)),B a0u_1, .p (.val (fv hw0_2))],I a1kind] (.ret (B r)):=by
 refine Qp Tryz.func135 rfl Tryz.ntmps135 rfl ?_
 unfold QS
 refine Qg Qe ⟨[(1,I a1kind),qq 2],[(2, .box 155 [.p (.sl 1 (List.map ci a0u_0)),B a0u_1, .p (.val (fv hw0_2))])]⟩ Qa (sS (Qg Qe ⟨cB a1kind a0u_0 0,[]⟩ Qa (sB (Qw (fun l1=>⟨cB a1kind a0u_0 l1,[]⟩:Int→St) (Wq Qa) ?_))))
 rintro recl1 l1
 show QU (XD a0u_0 a1kind recl1 l1) _ _ _ _ _ _
 unfold XD
 exact Qg Qe ⟨[(1,I a1kind),(8, .p (.sl 1 (List.map ci a0u_0))),(9,I (Qc (List.map ci a0u_0))),(10,I l1),(11,B (QL l1 (Qc (List.map ci a0u_0))))],[]⟩ Qa (sS (sC (QL l1 (Qc (List.map ci a0u_0))) Qa (sK (Qk ⟨cB a1kind a0u_0 l1,[]⟩ Qa (sS (sB (sS (sG (xG Qa Qa (QC (e:=3) (S:=1) (enc:=ci) (l:=a0u_0) (k:=.i64) (n:=l1) (sv:=.p (.sl 1 (List.map ci a0u_0))) rfl Qa Qa Qa Qa Qa) (fun x2=>xR 2 Qa (xE (Qk ⟨[(1,I a1kind),(6,I x2),(8, .p (.sl 1 (List.map ci a0u_0))),(9,I (Qc (List.map ci a0u_0))),(10,I l1)],[]⟩ Qa (Qg Qe ⟨[(1,I a1kind),(8, .p (.sl 1 (List.map ci a0u_0))),(9,I (Qc (List.map ci a0u_0))),(10,I l1),(16,B (Qs x2 a1kind))],[]⟩ Qa (sC (Qs x2 a1kind) Qa (Qg Qe ⟨[(4,B true)],[]⟩ Qa (sT (Q9 (QY (KC (Q9 (QY (qR (.id) Qa Qa Qa)))))))) (sK (QT (Qk ⟨cB a1kind a0u_0 l1,[]⟩ Qa (sL Qe Qa (Ky (wi (l1+1)) Qa))))))))))))))))) (Qm (Zu (ZP (QG (Qk ⟨[],[]⟩ Qa (Qg Qe ⟨[(4,B false)],[]⟩ Qa (sT (qR (.id) Qa Qa Qa))))))))))
def QD (n:Nat) (a0s:Kc) (a1n:Int):Option Bool :=
 cond (leI a0s.from_ a1n)
  (some (leI a1n a0s.to_))
  (some false)
theorem QI (n:Nat) (a0s:Kc) (a1n:Int):∀ r,QD n a0s a1n=some r→Q0 Tryz.prog 103 [.agg [I a0s.from_,I a0s.to_],I a1n] (.ret (B r)):=by
 refine Qp Tryz.func103 rfl Tryz.ntmps103 rfl ?_
 unfold QD
 exact Qg Qe ⟨[(1,I a1n),qq 2],[(2, .box 148 [I a0s.from_,I a0s.to_])]⟩ Qa (sS (sG (xR 5 Qa (xS (leI a0s.from_ a1n) (fun h1=>xO (Qt Qa h1) Qa (xR 5 Qa (xE (Qk ⟨[(4,B (leI a1n a0s.to_))],[]⟩ Qa (sT (qR (.id) Qa Qa Qa)))))) (fun h1=>xN (Qu Qa h1) Qa (xR 5 Qa (xE (Qk ⟨[(4,B false)],[]⟩ Qa (sT (qR (.id) Qa Qa Qa))))))))))
def XE (n:Nat) (a0attr:GN) (a1spans:List Kc) (recl2:((List Int) × Int)→Option (Except (Int × Int) (List Int))) (l2_1:List Int) (l2_2:Int):Option (Except (Int × Int) (List Int)) :=
 cond (QL l2_2 (Qc (List.map YC a0attr.Kids)))
  ((Option.bind (Zc a0attr.Kids l2_2) GN.of).bind fun x3 =>
  (Zc a1spans l2_2).bind fun x4 =>
  (QD n x4 x3.N).bind fun r5 =>
  cond (!r5)
   (some (.error (3,a0attr.At)))
   ((Zc l2_1 l2_2).bind fun x6 =>
   recl2 (List.set l2_1 (Int.toNat l2_2) x3.N,wi (l2_2+1))))
  (some (.ok l2_1))
def Vi (n:Nat) (a0attr:GN) (a1spans:List Kc):Option (Except (Int × Int) (List Int)) :=
 cond (Sz (Qc (List.map Kc.cs a1spans)) (Qc (List.map Kc.cs a1spans)) 8) (
  Q4 (fun recl2 (l2_1,l2_2)=>XE n a0attr a1spans recl2 l2_1 l2_2) n (List.replicate (Int.toNat (Qc (List.map Kc.cs a1spans))) 0,0)) none
def XF (n:Nat) (a0attr:GN) (a1spans:List Kc) (recl7:Int→Option (Except (Int × Int) (List Int))) (l7:Int):Option (Except (Int × Int) (List Int)) :=
 cond (QL l7 (Qc (List.map YC a0attr.Kids)))
  ((Option.bind (Zc a0attr.Kids l7) GN.of).bind fun x8 =>
  cond (!Qs x8.Kind 6)
   (some (.error (9,a0attr.At)))
   (recl7 (wi (l7+1))))
  (Vi n a0attr a1spans)
def Z7 (n:Nat) (a0attr:GN) (a1spans:List Kc):Option (Except (Int × Int) (List Int)) :=
 cond (!Qs (Qc (List.map YC a0attr.Kids)) (Qc (List.map Kc.cs a1spans)))
  (some (.error (9,a0attr.At)))
  (Q4 (fun recl7 l7=>XF n a0attr a1spans recl7 l7) n 0)
def aP:=fun x0=>([(1, .p (.sl 2 (List.map Kc.cs x0))),(2, .ptr 2 0)]:List (Nat × AV))
def WK:=fun x0=>([(3, .box 61 (Kw (GN.cs x0)))]:List (Nat × Blk))
def Gv:=fun x0 x1=>(⟨[(0,I x0),(3, .ptr 3 0)],WK x1⟩:St)
def cK:=fun x0 x1 x2=>([(1, .p (.sl 2 (List.map Kc.cs x0))),(2, .ptr 2 0),(19, .p (.sl 5 (List.map YC (GN.Kids x1)))),(20,I (Qc (List.map YC (GN.Kids x1)))),(21,I x2)]:List (Nat × AV))
theorem ZU (n:Nat) (a0attr:GN) (a1spans:List Kc):∀ r,Z7 n a0attr a1spans=some r→Q0 Tryz.prog 86 [ag (GN.cs a0attr), .p (.sl 2 (NH a1spans))] (vg (fun r:List Int=>(.p (.sl 1 (List.map ci r)):AV)) (fun e:(Int × Int)=>(.ifc 160 (.agg [I e.1,I e.2]):AV)) r):=by
 refine Qp Tryz.func86 rfl Tryz.ntmps86 rfl ?_
 unfold Z7
 refine Qg Qe ⟨aP a1spans,VZ a0attr⟩ Qa (sS (Qg Qe ⟨[(1, .p (.sl 2 (NH a1spans))),qq 2,(15,B (!Qs (Qc (mI a0attr.Kids)) (Qc (NH a1spans))))],VZ a0attr⟩ Qa (sC (!Qs (Qc (mI a0attr.Kids)) (Qc (NH a1spans))) Qa (sG (xR 1 Qa (Yr [] [I 9, .agg [I a0attr.Kind,S a0attr.Name,I a0attr.N,I a0attr.At, .p (.sl 5 (mI a0attr.Kids))]] [] [] [] Qa Tryz.func88 rfl Tryz.ntmps88 rfl Qa Qa Qa (Qg Qe (Gv 9 a0attr) Qa (sG (xR 6 Qa (X8 160 (.agg [I 9,I a0attr.At]) Qa rfl Qa (ZO [] [] Qa (Kk (zQ Qa Qa)))))))))) (sK (Qk ⟨aP a1spans,VZ a0attr⟩ Qa (ZY (fun _=>⟨aP a1spans,VZ a0attr⟩:Unit→St) (fun _=>Vi n a0attr a1spans) ?_ ?_))))))
 rotate_left
 ·refine Qg Qe ⟨cK a1spans a0attr 0,VZ a0attr⟩ Qa (sB (Qw (fun l7=>⟨cK a1spans a0attr l7,VZ a0attr⟩:Int→St) (Wq Qa) ?_))
  rintro recl7 l7
  show QU (XF n a0attr a1spans recl7 l7) _ _ _ _ _ _
  unfold XF
  exact Qg Qe ⟨[(1, .p (.sl 2 (NH a1spans))),qq 2,(19, .p (.sl 5 (mI a0attr.Kids))),(20,I (Qc (mI a0attr.Kids))),(21,I l7),(22,B (QL l7 (Qc (mI a0attr.Kids))))],VZ a0attr⟩ Qa (sS (sC (QL l7 (Qc (mI a0attr.Kids))) Qa (sK (Qk ⟨cK a1spans a0attr l7,VZ a0attr⟩ Qa (sS (sB (sS (sG (xG Qa Qa (Vh (e:=61) (S:=5) (enc:=GN.cs) (dec:=GN.of) (l:=a0attr.Kids) (k:=.i64) (n:=l7) (sv:=.p (.sl 5 (mI a0attr.Kids))) GN.of_cs rfl Qa Qa Qa Qa Qa) (fun x8=>xR 3 Qa (xE (Qk ⟨[(1, .p (.sl 2 (NH a1spans))),qq 2,qq 6,(19, .p (.sl 5 (mI a0attr.Kids))),(20,I (Qc (mI a0attr.Kids))),(21,I l7)],[(2,Xl a0attr),(6,Xl x8)]⟩ Qa (Qg Qe ⟨[(1, .p (.sl 2 (NH a1spans))),qq 2,(19, .p (.sl 5 (mI a0attr.Kids))),(20,I (Qc (mI a0attr.Kids))),(21,I l7),(27,B (!Qs x8.Kind 6))],VZ a0attr⟩ Qa (sC (!Qs x8.Kind 6) Qa (sG (xR 1 Qa (Yr [] [I 9, .agg [I a0attr.Kind,S a0attr.Name,I a0attr.N,I a0attr.At, .p (.sl 5 (mI a0attr.Kids))]] [] [] [] Qa Tryz.func88 rfl Tryz.ntmps88 rfl Qa Qa Qa (Qg Qe (Gv 9 a0attr) Qa (sG (xR 6 Qa (X8 160 (.agg [I 9,I a0attr.At]) Qa rfl Qa (ZO [] [] Qa (Zj (Kk (Zp (Zj (Zp (zQ Qa Qa)))))))))))))) (sK (QT (Qk ⟨cK a1spans a0attr l7,VZ a0attr⟩ Qa (sL Qe Qa (Ky (wi (l7+1)) Qa))))))))))))))))) (Qm (Zu (ZP (QG (Ky (k:=fun _=>Vi n a0attr a1spans) () Qa)))))))
 rintro _
 show QU (Vi n a0attr a1spans) _ _ _ _ _ _
 unfold Vi
 refine sS (sG (xR 2 Qa (xF Qa Qa (SA (e:=3) (S:=1) (by_:=8) (d:=33) (enc:=ci) (z0:=0) (k:=.i64) (k':=.i64) (l:=Qc (NH a1spans)) (c:=Qc (NH a1spans)) rfl rfl Qa Qa rfl Qa Qa Qa Qa) (xR 1 Qa (xE (Qk ⟨[(1, .p (.sl 2 (NH a1spans))),qq 2,(7, .vsl 1 33 (List.map ci (List.replicate (Int.toNat (Qc (NH a1spans))) 0)).length)],[(2,Xl a0attr),(33, .vec 3 1 (List.map ci (List.replicate (Int.toNat (Qc (NH a1spans))) 0)))]⟩ Qa (sS (Qg Qe ⟨[(1, .p (.sl 2 (NH a1spans))),qq 2,(7, .vsl 1 33 (List.map ci (List.replicate (Int.toNat (Qc (NH a1spans))) 0)).length),(35, .p (.sl 5 (mI a0attr.Kids))),(36,I (Qc (mI a0attr.Kids))),(37,I 0)],[(2,Xl a0attr),(33, .vec 3 1 (List.map ci (List.replicate (Int.toNat (Qc (NH a1spans))) 0)))]⟩ Qa (sB (Qw (fun (l2_1,l2_2)=>⟨[(1, .p (.sl 2 (NH a1spans))),qq 2,(7, .vsl 1 33 (List.map ci l2_1).length),(35, .p (.sl 5 (mI a0attr.Kids))),(36,I (Qc (mI a0attr.Kids))),(37,I l2_2)],[(2,Xl a0attr),(33, .vec 3 1 (List.map ci l2_1))]⟩:((List Int) × Int)→St) (Wq Qa) ?_))))))))))
 rintro recl2 ⟨l2_1,l2_2⟩
 show QU (XE n a0attr a1spans recl2 l2_1 l2_2) _ _ _ _ _ _
 unfold XE
 refine Qg Qe ⟨[(1, .p (.sl 2 (NH a1spans))),qq 2,(7, .vsl 1 33 (List.map ci l2_1).length),(35, .p (.sl 5 (mI a0attr.Kids))),(36,I (Qc (mI a0attr.Kids))),(37,I l2_2),(38,B (QL l2_2 (Qc (mI a0attr.Kids))))],[(2,Xl a0attr),(33, .vec 3 1 (List.map ci l2_1))]⟩ Qa (sS (sC (QL l2_2 (Qc (mI a0attr.Kids))) Qa (sK (Qk ⟨[(1, .p (.sl 2 (NH a1spans))),qq 2,(7, .vsl 1 33 (List.map ci l2_1).length),(35, .p (.sl 5 (mI a0attr.Kids))),(36,I (Qc (mI a0attr.Kids))),(37,I l2_2)],[(2,Xl a0attr),(33, .vec 3 1 (List.map ci l2_1))]⟩ Qa (sS (sB (sS (sG (xR 1 Qa (xG Qa Qa (Vh (e:=61) (S:=5) (enc:=GN.cs) (dec:=GN.of) (l:=a0attr.Kids) (k:=.i64) (n:=l2_2) (sv:=.p (.sl 5 (mI a0attr.Kids))) GN.of_cs rfl Qa Qa Qa Qa Qa) (fun x3=>xR 4 Qa (xE (Qk ⟨[(1, .p (.sl 2 (NH a1spans))),qq 2,(7, .vsl 1 33 (List.map ci l2_1).length),(8,I l2_2),qq 9,(35, .p (.sl 5 (mI a0attr.Kids))),(36,I (Qc (mI a0attr.Kids))),(37,I l2_2)],[(2,Xl a0attr),(9,Xl x3),(33, .vec 3 1 (List.map ci l2_1))]⟩ Qa (sS (sS (YK Qe rfl (xR 2 Qa (xG Qa Qa (QC (e:=148) (S:=2) (enc:=Kc.cs) (l:=a1spans) (k:=.i64) (n:=l2_2) (sv:=.p (.sl 2 (NH a1spans))) rfl Qa Qa Qa Qa Qa) (fun x4=>xR 3 Qa ?_))))))))))))))))) (Qm (Zu (ZP (QG (Qk ⟨[(7, .vsl 1 33 (List.map ci l2_1).length)],[(33, .vec 3 1 (List.map ci l2_1))]⟩ Qa (Zq (FY 33 3 1 (List.map ci l2_1) [(List.map ci l2_1).length] Qa Qa zq Qa Qa) (Qg Qe ⟨[(4, .p (.sl 1 (List.map ci l2_1)))],[]⟩ Qa (sT (qR (.id) Qa Qa Qa)))))))))))
 refine xC [] Qa (QI n x4 x3.N) Qa Qa QW (fun r5=>?_)
 exact xR 1 Qa (Yh Qa (Qk ⟨[(1, .p (.sl 2 (NH a1spans))),qq 2,(7, .vsl 1 33 (List.map ci l2_1).length),(8,I l2_2),qq 9,(35, .p (.sl 5 (mI a0attr.Kids))),(36,I (Qc (mI a0attr.Kids))),(37,I l2_2),(49,B (!r5))],[(2,Xl a0attr),(9,Xl x3),(33, .vec 3 1 (List.map ci l2_1))]⟩ Qa (sC (!r5) Qa (sG (xR 1 Qa (Yr [] [I 3, .agg [I a0attr.Kind,S a0attr.Name,I a0attr.N,I a0attr.At, .p (.sl 5 (mI a0attr.Kids))]] [] [] [] Qa Tryz.func88 rfl Tryz.ntmps88 rfl Qa Qa Qa (Qg Qe (Gv 3 a0attr) Qa (sG (xR 6 Qa (X8 160 (.agg [I 3,I a0attr.At]) Qa rfl Qa (ZO [] [] Qa (Kk (Zj (Kk (Zp (Zj (Kk (zQ Qa Qa))))))))))))))) (sK (Qk ⟨[(1, .p (.sl 2 (NH a1spans))),qq 2,(7, .vsl 1 33 (List.map ci l2_1).length),(8,I l2_2),qq 9,(35, .p (.sl 5 (mI a0attr.Kids))),(36,I (Qc (mI a0attr.Kids))),(37,I l2_2)],[(2,Xl a0attr),(9,Xl x3),(33, .vec 3 1 (List.map ci l2_1))]⟩ Qa (sG (xR 4 Qa (BJ Qa Qa (Tp (e:=3) (S:=1) (tk:=33) (ty:=3) (enc:=ci) (l:=l2_1) (k:=.i64) (n:=l2_2) (nn:=(List.map ci l2_1).length) rfl Qa Qa Qa Qa Qa zq) (fun x6 hx6=>(Ze Qa Qa (Um (S:=1) (tb:=3) (tk:=33) (n:=Int.toNat l2_2) (f:=0) (enc:=ci) (l:=l2_1) (v:=x6) (v':=x3.N) (xv:=I x3.N) rfl Qa Qa Qa (YX hx6) Qa) (xE (QT (Qk ⟨[(1, .p (.sl 2 (NH a1spans))),qq 2,(7, .vsl 1 33 (List.map ci l2_1).length),(35, .p (.sl 5 (mI a0attr.Kids))),(36,I (Qc (mI a0attr.Kids))),(37,I l2_2)],[(2,Xl a0attr),(33, .vec 3 1 (List.map ci (List.set l2_1 (Int.toNat l2_2) x3.N)))]⟩ Qa (sL Qe Qa (bP  (List.set l2_1 (Int.toNat l2_2) x3.N,wi (l2_2+1)) ⟨[1,2,7,35,36,37],[2,33],[],[]⟩ ⟨[(1, .p (.sl 2 (NH a1spans))),qq 2,(7, .vsl 1 33 (List.map ci l2_1).length),(35, .p (.sl 5 (mI a0attr.Kids))),(36,I (Qc (mI a0attr.Kids))),(37,I (wi (l2_2+1)))],[(2,Xl a0attr),(33, .vec 3 1 (List.map ci (List.set l2_1 (Int.toNat l2_2) x3.N)))]⟩ Qa zq)))))))))))))))
def V3 (yI:GN) (yC:ZI) (yK:Kq) (yG:ZL) (yB:Zt) (yS:Qj) (yF:Bool) (yD:List KG) (h7_m:List ((List UInt8) × Bool)) (h8_m:List ((List UInt8) × KP)) (h10_m:List ((List UInt8) × Bool)):List (Nat × Blk):=[(1000, .box 152 ([.ptr 1001 0]++Kw (GN.cs yI)++[.mv 1010]++Kw (ZI.cs yC)++Kw (Kq.cs yK)++Kw (ZL.cs yG)++[S yB.Name,I yB.Charger])),(1001, .box 113 [.tsl 11 (List.map ZI.cs yS.Conductors) 1002, .tsl 1 (List.map Zf.cs yS.Owners) 1003, .tsl 4 (List.map Kq.cs yS.Contracts) 1004, .tsl 8 (List.map ZL.cs yS.Chargers) 1005, .tsl 2 (List.map Zt.cs yS.Bays) 1006, .mv 1007,B yF, .mv 1008, .tsl 2 (List.map KG.cs yD) 1009]),(1002, .arr 54 11 (List.map ZI.cs yS.Conductors).length),(1003, .arr 166 1 (List.map Zf.cs yS.Owners).length),(1004, .arr 120 4 (List.map Kq.cs yS.Contracts).length),(1005, .arr 32 8 (List.map ZL.cs yS.Chargers).length),(1006, .arr 123 2 (List.map Zt.cs yS.Bays).length),(1007, .mp (JH Q6 Q7 h7_m)),(1008, .mp (JH VH VJ h8_m)),(1009, .arr 99 2 (List.map KG.cs yD).length),(1010, .mp (JH Q6 Q7 h10_m)),(1011, .arr 3 1 (List.map ci [1,2]).length)]
def vU:List Nat:=[1000,1001,1002,1003,1004,1005,1006,1007,1008,1009,1010,1011]
def V4 (a1attr:GN):Option (Except (Int × Int) Int) :=
 some (.error (8,a1attr.At))
def Rh (a1attr:GN) (h8_m:List ((List UInt8) × KP)) (x4:GN) (recl6:Int→Option (Except (Int × Int) Int)) (l6:Int):Option (Except (Int × Int) Int) :=
 cond (QL l6 (Qc (List.map ci [1,2])))
  ((Zc [1,2] l6).bind fun x7 =>
  cond (Qs x7 ((QJ QE x4.Name (⟨0,0⟩:KP) h8_m).kind))
   (some (.ok ((QJ QE x4.Name (⟨0,0⟩:KP) h8_m).index)))
   (recl6 (wi (l6+1))))
  (V4 a1attr)
def Dl (n:Nat) (a1attr:GN) (yI:GN) (yC:ZI) (yK:Kq) (yG:ZL) (yB:Zt) (yS:Qj) (yF:Bool) (yD:List KG) (h7_m:List ((List UInt8) × Bool)) (h8_m:List ((List UInt8) × KP)) (h10_m:List ((List UInt8) × Bool)):Option (Except (Int × Int) Int) :=
 (cond (!Qs (Qc (List.map YC a1attr.Kids)) 1)
  (some true)
  ((Option.bind (Zc a1attr.Kids 0) GN.of).bind fun x3 =>
  some (!Qs x3.Kind 5))).bind fun j1 =>
 cond j1
  (some (.error (9,a1attr.At)))
  ((Option.bind (Zc a1attr.Kids 0) GN.of).bind fun x4 =>
  cond (BL QE x4.Name h8_m)
   (Q4 (fun recl6 l6=>Rh a1attr h8_m x4 recl6 l6) n 0)
   (V4 a1attr))
def qp (yI:GN) (yC:ZI) (yK:Kq) (yG:ZL) (yB:Zt) (yS:Qj) (yF:Bool) (yD:List KG) (h7_m:List ((List UInt8) × Bool)) (h8_m:List ((List UInt8) × KP)) (h10_m:List ((List UInt8) × Bool)):List (Nat × Blk):=V3 yI yC yK yG yB yS yF yD h7_m h8_m h10_m
def uG:=fun x0=>([(0, .ptr 1000 0),(2, .tsl 1 (List.map ci x0) 1011),(4, .ptr 4 0)]:List (Nat × AV))
def GI:=fun x0=>([(4, .box 61 (Kw (GN.cs x0)))]:List (Nat × Blk))
def aQ:=fun x0 x1=>([(0, .ptr 1000 0),(2, .tsl 1 (List.map ci x0) 1011),(4, .ptr 4 0),(22,B x1)]:List (Nat × AV))
def aR:=fun x0 x1=>([(2, .tsl 1 (List.map ci x0) 1011),(4, .ptr 4 0),(7, .ptr 7 0),(8,B x1)]:List (Nat × AV))
def QcX:=fun x0=>(.box 185 (Kw (KP.cs x0)):Blk)
def FK:=fun x0 x1=>([(4, .box 61 (Kw (GN.cs x0))),(7,(QcX x1))]:List (Nat × Blk))
def aS:=fun x0 x1=>([(2, .tsl 1 (List.map ci x0) 1011),(4, .ptr 4 0),(7, .ptr 7 0),(41,B x1)]:List (Nat × AV))
def uH:=fun x0 x1 x2=>([(4, .ptr 4 0),(7, .ptr 7 0),(42, .tsl 1 (List.map ci x0) 1011),(43,I (Qc (List.map ci x1))),(44,I x2)]:List (Nat × AV))
def aT:=fun x0 x1 x2 x3=>([(4, .ptr 4 0),(7, .ptr 7 0),(42, .tsl 1 (List.map ci x0) 1011),(43,I (Qc (List.map ci x1))),(44,I x2),(45,B x3)]:List (Nat × AV))
def aU:=fun x0 x1 x2 x3=>([(4, .ptr 4 0),(7, .ptr 7 0),(10,I x0),(42, .tsl 1 (List.map ci x1) 1011),(43,I (Qc (List.map ci x2))),(44,I x3)]:List (Nat × AV))
def aV:=fun x0 x1 x2 x3=>([(4, .ptr 4 0),(7, .ptr 7 0),(42, .tsl 1 (List.map ci x0) 1011),(43,I (Qc (List.map ci x1))),(44,I x2),(51,B x3)]:List (Nat × AV))
theorem MK (n:Nat) (a1attr:GN) (yI:GN) (yC:ZI) (yK:Kq) (yG:ZL) (yB:Zt) (yS:Qj) (yF:Bool) (yD:List KG) (h7_m:List ((List UInt8) × Bool)) (h8_m:List ((List UInt8) × KP)) (h10_m:List ((List UInt8) × Bool)):∀ r,Dl n a1attr yI yC yK yG yB yS yF yD h7_m h8_m h10_m=some r→Wz Tryz.prog 84 [Ka,ag (GN.cs a1attr), .tsl 1 (List.map ci [1,2]) 1011] (Go.Abs.look (qp yI yC yK yG yB yS yF yD h7_m h8_m h10_m)) (Xw (vv (fun r:Int=>((.ret (I r),qp yI yC yK yG yB yS yF yD h7_m h8_m h10_m):Z0 × List (Nat × Blk))) (fun e:(Int × Int)=>((.panic (.ifc 160 (.agg [I e.1,I e.2])),qp yI yC yK yG yB yS yF yD h7_m h8_m h10_m):Z0 × List (Nat × Blk)))) r):=by
 refine Y2 (qp yI yC yK yG yB yS yF yD h7_m h8_m h10_m) Tryz.func84 rfl Tryz.ntmps84 rfl ?_
 unfold Dl
 refine Qg Qe ⟨uG [1,2],GI a1attr++V3 yI yC yK yG yB yS yF yD h7_m h8_m h10_m⟩ Qa (sS (KM (fun j1=>⟨aQ [1,2] j1,GI a1attr++V3 yI yC yK yG yB yS yF yD h7_m h8_m h10_m⟩:Bool→St) (sG (xR 5 Qa (xS (!Qs (Qc (mI a1attr.Kids)) 1) (fun h2=>xN (QB Qa h2) Qa (xR 6 Qa (xE (QV true Qa)))) (fun h2=>xO (QA Qa h2) Qa (xR 1 Qa (xG Qa Qa (Vh (e:=61) (S:=5) (enc:=GN.cs) (dec:=GN.of) (l:=a1attr.Kids) (k:=.i64) (n:=0) (sv:=.p (.sl 5 (mI a1attr.Kids))) GN.of_cs rfl Qa Qa Qa Qa Qa) (fun x3=>xR 4 Qa (xE (QV (!Qs x3.Kind 5) Qa))))))))) ?_))
 rintro j1
 refine sC j1 Qa (sG (xR 1 Qa (Yr [] [I 9, .agg [I a1attr.Kind,S a1attr.Name,I a1attr.N,I a1attr.At, .p (.sl 5 (mI a1attr.Kids))]] [] [] [] Qa Tryz.func88 rfl Tryz.ntmps88 rfl Qa Qa Qa (Qg Qe (Gv 9 a1attr) Qa (sG (xR 6 Qa (X8 160 (.agg [I 9,I a1attr.At]) Qa rfl Qa (ZO [] [] Qa (Kk (Kv vU [] Qa Qa Qa)))))))))) (sK (Qk ⟨uG [1,2],GI a1attr++V3 yI yC yK yG yB yS yF yD h7_m h8_m h10_m⟩ Qa (sS (YK Qe rfl (xR 9 Qa (xG Qa Qa (Vh (e:=61) (S:=5) (enc:=GN.cs) (dec:=GN.of) (l:=a1attr.Kids) (k:=.i64) (n:=0) (sv:=.p (.sl 5 (mI a1attr.Kids))) GN.of_cs rfl Qa Qa Qa Qa Qa) (fun x4=>xR 2 Qa ?_)))))))
 refine Ze Qa Qa (Zx (kt:=9) (e:=185) (ke:=VH) (ve:=VJ) (eq:=QE) (b:=1008) (m:=h8_m) (k:=x4.Name) (z0:=(⟨0,0⟩:KP)) rfl Qa Qa Qa Qa Qa QW (fun _ _=>Za rfl _ _) Qa) ?_
 refine xR 6 Qa (Yh Qa (Qk ⟨aR [1,2] (BL QE x4.Name h8_m),FK a1attr (QJ QE x4.Name (⟨0,0⟩:KP) h8_m)++V3 yI yC yK yG yB yS yF yD h7_m h8_m h10_m⟩ Qa (ZY (fun _=>⟨[qq 4],GI a1attr++V3 yI yC yK yG yB yS yF yD h7_m h8_m h10_m⟩:Unit→St) (fun _=>V4 a1attr) ?_ ?_)))
 ·rintro _
  show QU (V4 a1attr) _ _ _ _ _ _
  unfold V4
  exact sS (sG (xR 1 Qa (Yr [] [I 8, .agg [I a1attr.Kind,S a1attr.Name,I a1attr.N,I a1attr.At, .p (.sl 5 (mI a1attr.Kids))]] [] [] [] Qa Tryz.func88 rfl Tryz.ntmps88 rfl Qa Qa Qa (Qg Qe (Gv 8 a1attr) Qa (sG (xR 6 Qa (X8 160 (.agg [I 8,I a1attr.At]) Qa rfl Qa (ZO [] [] Qa (Kk (Kv vU [] Qa Qa Qa))))))))))
 refine Qg Qe ⟨aS [1,2] (BL QE x4.Name h8_m),FK a1attr (QJ QE x4.Name (⟨0,0⟩:KP) h8_m)++V3 yI yC yK yG yB yS yF yD h7_m h8_m h10_m⟩ Qa (sC (BL QE x4.Name h8_m) Qa (Qg Qe ⟨uH [1,2] [1,2] 0,FK a1attr (QJ QE x4.Name (⟨0,0⟩:KP) h8_m)++V3 yI yC yK yG yB yS yF yD h7_m h8_m h10_m⟩ Qa (sB (Qw (fun l6=>⟨uH [1,2] [1,2] l6,FK a1attr (QJ QE x4.Name (⟨0,0⟩:KP) h8_m)++V3 yI yC yK yG yB yS yF yD h7_m h8_m h10_m⟩:Int→St) (Wq Qa) ?_))) (sK (Ky (k:=fun _=>V4 a1attr) () Qa)))
 rintro recl6 l6
 show QU (Rh a1attr h8_m x4 recl6 l6) _ _ _ _ _ _
 unfold Rh
 exact Qg Qe ⟨aT [1,2] [1,2] l6 (QL l6 (Qc (List.map ci [1,2]))),FK a1attr (QJ QE x4.Name (⟨0,0⟩:KP) h8_m)++V3 yI yC yK yG yB yS yF yD h7_m h8_m h10_m⟩ Qa (sS (sC (QL l6 (Qc (List.map ci [1,2]))) Qa (sK (Qk ⟨uH [1,2] [1,2] l6,FK a1attr (QJ QE x4.Name (⟨0,0⟩:KP) h8_m)++V3 yI yC yK yG yB yS yF yD h7_m h8_m h10_m⟩ Qa (sS (sB (sS (sG (xG Qa Qa (QC (e:=3) (S:=1) (enc:=ci) (l:=[1,2]) (k:=.i64) (n:=l6) (sv:=.tsl 1 (List.map ci [1,2]) 1011) rfl Qa Qa Qa Qa Qa) (fun x7=>xR 2 Qa (xE (Qk ⟨aU x7 [1,2] [1,2] l6,FK a1attr (QJ QE x4.Name (⟨0,0⟩:KP) h8_m)++V3 yI yC yK yG yB yS yF yD h7_m h8_m h10_m⟩ Qa (Qg Qe ⟨aV [1,2] [1,2] l6 (Qs x7 ((QJ QE x4.Name (⟨0,0⟩:KP) h8_m).kind)),FK a1attr (QJ QE x4.Name (⟨0,0⟩:KP) h8_m)++V3 yI yC yK yG yB yS yF yD h7_m h8_m h10_m⟩ Qa (sC (Qs x7 ((QJ QE x4.Name (⟨0,0⟩:KP) h8_m).kind)) Qa (Qg Qe ⟨[(6,I ((QJ QE x4.Name (⟨0,0⟩:KP) h8_m).index))],V3 yI yC yK yG yB yS yF yD h7_m h8_m h10_m⟩ Qa (sT (Q9 (QY (KC (Q9 (KC (YQ (.id) vU [] Qa Qa Qa Qa)))))))) (sK (QT (Qk ⟨uH [1,2] [1,2] l6,FK a1attr (QJ QE x4.Name (⟨0,0⟩:KP) h8_m)++V3 yI yC yK yG yB yS yF yD h7_m h8_m h10_m⟩ Qa (sL Qe Qa (Ky (wi (l6+1)) Qa))))))))))))))))) (Qm (Zu (ZP (QG (Ky (k:=fun _=>V4 a1attr) () Qa)))))))
def Y3 (yI:GN) (yC:ZI) (yK:Kq) (yG:ZL) (yB:Zt) (yS:Qj) (yF:Bool) (yD:List KG) (h7_m:List ((List UInt8) × Bool)) (h8_m:List ((List UInt8) × KP)) (h10_m:List ((List UInt8) × Bool)):List (Nat × Blk):=[(1000, .box 152 ([.ptr 1001 0]++Kw (GN.cs yI)++[.mv 1010]++Kw (ZI.cs yC)++Kw (Kq.cs yK)++Kw (ZL.cs yG)++[S yB.Name,I yB.Charger])),(1001, .box 113 [.tsl 11 (List.map ZI.cs yS.Conductors) 1002, .tsl 1 (List.map Zf.cs yS.Owners) 1003, .tsl 4 (List.map Kq.cs yS.Contracts) 1004, .tsl 8 (List.map ZL.cs yS.Chargers) 1005, .tsl 2 (List.map Zt.cs yS.Bays) 1006, .mv 1007,B yF, .mv 1008, .tsl 2 (List.map KG.cs yD) 1009]),(1002, .arr 54 11 (List.map ZI.cs yS.Conductors).length),(1003, .arr 166 1 (List.map Zf.cs yS.Owners).length),(1004, .arr 120 4 (List.map Kq.cs yS.Contracts).length),(1005, .arr 32 8 (List.map ZL.cs yS.Chargers).length),(1006, .arr 123 2 (List.map Zt.cs yS.Bays).length),(1007, .mp (JH Q6 Q7 h7_m)),(1008, .mp (JH VH VJ h8_m)),(1009, .arr 99 2 (List.map KG.cs yD).length),(1010, .mp (JH Q6 Q7 h10_m)),(1011, .arr 3 1 (List.map ci [3]).length)]
def Aq:List Nat:=[1000,1001,1002,1003,1004,1005,1006,1007,1008,1009,1010,1011]
def YT (a1attr:GN):Option (Except (Int × Int) Int) :=
 some (.error (8,a1attr.At))
def Gw (a1attr:GN) (h8_m:List ((List UInt8) × KP)) (x4:GN) (recl6:Int→Option (Except (Int × Int) Int)) (l6:Int):Option (Except (Int × Int) Int) :=
 cond (QL l6 (Qc (List.map ci [3])))
  ((Zc [3] l6).bind fun x7 =>
  cond (Qs x7 ((QJ QE x4.Name (⟨0,0⟩:KP) h8_m).kind))
   (some (.ok ((QJ QE x4.Name (⟨0,0⟩:KP) h8_m).index)))
   (recl6 (wi (l6+1))))
  (YT a1attr)
def TG (n:Nat) (a1attr:GN) (yI:GN) (yC:ZI) (yK:Kq) (yG:ZL) (yB:Zt) (yS:Qj) (yF:Bool) (yD:List KG) (h7_m:List ((List UInt8) × Bool)) (h8_m:List ((List UInt8) × KP)) (h10_m:List ((List UInt8) × Bool)):Option (Except (Int × Int) Int) :=
 (cond (!Qs (Qc (List.map YC a1attr.Kids)) 1)
  (some true)
  ((Option.bind (Zc a1attr.Kids 0) GN.of).bind fun x3 =>
  some (!Qs x3.Kind 5))).bind fun j1 =>
 cond j1
  (some (.error (9,a1attr.At)))
  ((Option.bind (Zc a1attr.Kids 0) GN.of).bind fun x4 =>
  cond (BL QE x4.Name h8_m)
   (Q4 (fun recl6 l6=>Gw a1attr h8_m x4 recl6 l6) n 0)
   (YT a1attr))
def ML (yI:GN) (yC:ZI) (yK:Kq) (yG:ZL) (yB:Zt) (yS:Qj) (yF:Bool) (yD:List KG) (h7_m:List ((List UInt8) × Bool)) (h8_m:List ((List UInt8) × KP)) (h10_m:List ((List UInt8) × Bool)):List (Nat × Blk):=Y3 yI yC yK yG yB yS yF yD h7_m h8_m h10_m
def cO:=fun x0 x1 x2 x3 x4 x5 x6 x7 x8 x9 x10 x11 x12 x13=>(⟨uH [3] [3] x0,FK x1 x2++Y3 x3 x4 x5 x6 x7 x8 x9 x10 x11 x12 x13⟩:St)
theorem Ar (n:Nat) (a1attr:GN) (yI:GN) (yC:ZI) (yK:Kq) (yG:ZL) (yB:Zt) (yS:Qj) (yF:Bool) (yD:List KG) (h7_m:List ((List UInt8) × Bool)) (h8_m:List ((List UInt8) × KP)) (h10_m:List ((List UInt8) × Bool)):∀ r,TG n a1attr yI yC yK yG yB yS yF yD h7_m h8_m h10_m=some r→Wz Tryz.prog 84 [Ka,ag (GN.cs a1attr), .tsl 1 (List.map ci [3]) 1011] (Go.Abs.look (ML yI yC yK yG yB yS yF yD h7_m h8_m h10_m)) (Xw (vv (fun r:Int=>((.ret (I r),ML yI yC yK yG yB yS yF yD h7_m h8_m h10_m):Z0 × List (Nat × Blk))) (fun e:(Int × Int)=>((.panic (.ifc 160 (.agg [I e.1,I e.2])),ML yI yC yK yG yB yS yF yD h7_m h8_m h10_m):Z0 × List (Nat × Blk)))) r):=by
 refine Y2 (ML yI yC yK yG yB yS yF yD h7_m h8_m h10_m) Tryz.func84 rfl Tryz.ntmps84 rfl ?_
 unfold TG
 refine Qg Qe ⟨uG [3],GI a1attr++Y3 yI yC yK yG yB yS yF yD h7_m h8_m h10_m⟩ Qa (sS (KM (fun j1=>⟨aQ [3] j1,GI a1attr++Y3 yI yC yK yG yB yS yF yD h7_m h8_m h10_m⟩:Bool→St) (sG (xR 5 Qa (xS (!Qs (Qc (mI a1attr.Kids)) 1) (fun h2=>xN (QB Qa h2) Qa (xR 6 Qa (xE (QV true Qa)))) (fun h2=>xO (QA Qa h2) Qa (xR 1 Qa (xG Qa Qa (Vh (e:=61) (S:=5) (enc:=GN.cs) (dec:=GN.of) (l:=a1attr.Kids) (k:=.i64) (n:=0) (sv:=.p (.sl 5 (mI a1attr.Kids))) GN.of_cs rfl Qa Qa Qa Qa Qa) (fun x3=>xR 4 Qa (xE (QV (!Qs x3.Kind 5) Qa))))))))) ?_))
 rintro j1
 refine sC j1 Qa (sG (xR 1 Qa (Yr [] [I 9, .agg [I a1attr.Kind,S a1attr.Name,I a1attr.N,I a1attr.At, .p (.sl 5 (mI a1attr.Kids))]] [] [] [] Qa Tryz.func88 rfl Tryz.ntmps88 rfl Qa Qa Qa (Qg Qe (Gv 9 a1attr) Qa (sG (xR 6 Qa (X8 160 (.agg [I 9,I a1attr.At]) Qa rfl Qa (ZO [] [] Qa (Kk (Kv Aq [] Qa Qa Qa)))))))))) (sK (Qk ⟨uG [3],GI a1attr++Y3 yI yC yK yG yB yS yF yD h7_m h8_m h10_m⟩ Qa (sS (YK Qe rfl (xR 9 Qa (xG Qa Qa (Vh (e:=61) (S:=5) (enc:=GN.cs) (dec:=GN.of) (l:=a1attr.Kids) (k:=.i64) (n:=0) (sv:=.p (.sl 5 (mI a1attr.Kids))) GN.of_cs rfl Qa Qa Qa Qa Qa) (fun x4=>xR 2 Qa ?_)))))))
 refine Ze Qa Qa (Zx (kt:=9) (e:=185) (ke:=VH) (ve:=VJ) (eq:=QE) (b:=1008) (m:=h8_m) (k:=x4.Name) (z0:=(⟨0,0⟩:KP)) rfl Qa Qa Qa Qa Qa QW (fun _ _=>Za rfl _ _) Qa) ?_
 refine xR 6 Qa (Yh Qa (Qk ⟨aR [3] (BL QE x4.Name h8_m),FK a1attr (QJ QE x4.Name (⟨0,0⟩:KP) h8_m)++Y3 yI yC yK yG yB yS yF yD h7_m h8_m h10_m⟩ Qa (ZY (fun _=>⟨[qq 4],GI a1attr++Y3 yI yC yK yG yB yS yF yD h7_m h8_m h10_m⟩:Unit→St) (fun _=>YT a1attr) ?_ ?_)))
 ·rintro _
  show QU (YT a1attr) _ _ _ _ _ _
  unfold YT
  exact sS (sG (xR 1 Qa (Yr [] [I 8, .agg [I a1attr.Kind,S a1attr.Name,I a1attr.N,I a1attr.At, .p (.sl 5 (mI a1attr.Kids))]] [] [] [] Qa Tryz.func88 rfl Tryz.ntmps88 rfl Qa Qa Qa (Qg Qe (Gv 8 a1attr) Qa (sG (xR 6 Qa (X8 160 (.agg [I 8,I a1attr.At]) Qa rfl Qa (ZO [] [] Qa (Kk (Kv Aq [] Qa Qa Qa))))))))))
 refine Qg Qe ⟨aS [3] (BL QE x4.Name h8_m),FK a1attr (QJ QE x4.Name (⟨0,0⟩:KP) h8_m)++Y3 yI yC yK yG yB yS yF yD h7_m h8_m h10_m⟩ Qa (sC (BL QE x4.Name h8_m) Qa (Qg Qe (cO 0 a1attr (QJ QE x4.Name (⟨0,0⟩:KP) h8_m) yI yC yK yG yB yS yF yD h7_m h8_m h10_m) Qa (sB (Qw (fun l6=>(cO l6 a1attr (QJ QE x4.Name (⟨0,0⟩:KP) h8_m) yI yC yK yG yB yS yF yD h7_m h8_m h10_m):Int→St) (Wq Qa) ?_))) (sK (Ky (k:=fun _=>YT a1attr) () Qa)))
 rintro recl6 l6
 show QU (Gw a1attr h8_m x4 recl6 l6) _ _ _ _ _ _
 unfold Gw
 exact Qg Qe ⟨aT [3] [3] l6 (QL l6 (Qc (List.map ci [3]))),FK a1attr (QJ QE x4.Name (⟨0,0⟩:KP) h8_m)++Y3 yI yC yK yG yB yS yF yD h7_m h8_m h10_m⟩ Qa (sS (sC (QL l6 (Qc (List.map ci [3]))) Qa (sK (Qk (cO l6 a1attr (QJ QE x4.Name (⟨0,0⟩:KP) h8_m) yI yC yK yG yB yS yF yD h7_m h8_m h10_m) Qa (sS (sB (sS (sG (xG Qa Qa (QC (e:=3) (S:=1) (enc:=ci) (l:=[3]) (k:=.i64) (n:=l6) (sv:=.tsl 1 (List.map ci [3]) 1011) rfl Qa Qa Qa Qa Qa) (fun x7=>xR 2 Qa (xE (Qk ⟨aU x7 [3] [3] l6,FK a1attr (QJ QE x4.Name (⟨0,0⟩:KP) h8_m)++Y3 yI yC yK yG yB yS yF yD h7_m h8_m h10_m⟩ Qa (Qg Qe ⟨aV [3] [3] l6 (Qs x7 ((QJ QE x4.Name (⟨0,0⟩:KP) h8_m).kind)),FK a1attr (QJ QE x4.Name (⟨0,0⟩:KP) h8_m)++Y3 yI yC yK yG yB yS yF yD h7_m h8_m h10_m⟩ Qa (sC (Qs x7 ((QJ QE x4.Name (⟨0,0⟩:KP) h8_m).kind)) Qa (Qg Qe ⟨[(6,I ((QJ QE x4.Name (⟨0,0⟩:KP) h8_m).index))],Y3 yI yC yK yG yB yS yF yD h7_m h8_m h10_m⟩ Qa (sT (Q9 (QY (KC (Q9 (KC (YQ (.id) Aq [] Qa Qa Qa Qa)))))))) (sK (QT (Qk (cO l6 a1attr (QJ QE x4.Name (⟨0,0⟩:KP) h8_m) yI yC yK yG yB yS yF yD h7_m h8_m h10_m) Qa (sL Qe Qa (Ky (wi (l6+1)) Qa))))))))))))))))) (Qm (Zu (ZP (QG (Ky (k:=fun _=>YT a1attr) () Qa)))))))
def Ui (a0attr:GN) (r3:List Int) (recl5:(Int × Int × Int)→Option (Except (Int × Int) Int)) (l5_1:Int) (l5_2:Int) (l5_3:Int):Option (Except (Int × Int) Int) :=
 cond (QL l5_3 (Qc (List.map ci r3)))
  ((Zc r3 l5_3).bind fun x6 =>
  cond (leI x6 l5_2)
   (some (.error (3,a0attr.At)))
   (cond (!QL (wi (x6 - 1)) 0) (
    recl5 (sJ .i64 l5_1 (Wu .i64 1 (wi (x6 - 1))),x6,wi (l5_3+1))) none))
  (some (.ok l5_1))
def FL (n:Nat) (a0attr:GN):Option (Except (Int × Int) Int) :=
 (cond (QL (Qc (List.map YC a0attr.Kids)) 1)
  (some true)
  (some (QL 3 (Qc (List.map YC a0attr.Kids))))).bind fun j1 =>
 cond j1
  (some (.error (9,a0attr.At)))
  (cond (sliceB 0 (Qc (List.map YC a0attr.Kids)) (List.length [(⟨1,3⟩:Kc),(⟨1,3⟩:Kc),(⟨1,3⟩:Kc)])) (
   (Z7 n a0attr (List.drop (Int.toNat 0) (List.take (Int.toNat (Qc (List.map YC a0attr.Kids))) [(⟨1,3⟩:Kc),(⟨1,3⟩:Kc),(⟨1,3⟩:Kc)]))).bind (MZ (fun r3 =>
    Q4 (fun recl5 (l5_1,l5_2,l5_3)=>Ui a0attr r3 recl5 l5_1 l5_2 l5_3) n (0,0,0)) fun e4=>some (.error (e4.1,e4.2)))) none)
def Qbj:=fun x0=>(.arr 148 2 (List.map Kc.cs [x0,x0,x0]).length:Blk)
def cZ:=fun x0 x1 x2 x3=>([(1, .ptr 1 0),(4,I x0),(5,I x1),(30, .p (.sl 1 (List.map ci x2))),(31,I (Qc (List.map ci x2))),(32,I x3)]:List (Nat × AV))
def Qbk:=fun x0 x1 x2 x3=>([(1, .ptr 1 0),(4,I x0),(7,I x1),(30, .p (.sl 1 (List.map ci x2))),(31,I (Qc (List.map ci x2))),(32,I x3)]:List (Nat × AV))
theorem NR (n:Nat) (a0attr:GN):∀ r,FL n a0attr=some r→Q0 Tryz.prog 91 [ag (GN.cs a0attr)] (vg (fun r:Int=>(I r:AV)) (fun e:(Int × Int)=>(.ifc 160 (.agg [I e.1,I e.2]):AV)) r):=by
 refine Qp Tryz.func91 rfl Tryz.ntmps91 rfl ?_
 unfold FL
 refine Qg Qe ⟨[qq 1],MI a0attr⟩ Qa (sS (KM (fun j1=>⟨[qq 1,(17,B j1)],MI a0attr⟩:Bool→St) (sG (xR 5 Qa (xS (QL (Qc (mI a0attr.Kids)) 1) (fun h2=>xN (QB Qa h2) Qa (xR 4 Qa (xE (QV true Qa)))) (fun h2=>xO (QA Qa h2) Qa (xR 4 Qa (xE (QV (QL 3 (Qc (mI a0attr.Kids))) Qa))))))) ?_))
 rintro j1
 refine sC j1 Qa (sG (xR 1 Qa (Yr [] [I 9, .agg [I a0attr.Kind,S a0attr.Name,I a0attr.N,I a0attr.At, .p (.sl 5 (mI a0attr.Kids))]] [] [] [] Qa Tryz.func88 rfl Tryz.ntmps88 rfl Qa Qa Qa (Qg Qe (Gv 9 a0attr) Qa (sG (xR 6 Qa (X8 160 (.agg [I 9,I a0attr.At]) Qa rfl Qa (ZO [] [] Qa (Kk (zQ Qa Qa)))))))))) (sK (Qk ⟨[qq 1],MI a0attr⟩ Qa (Qg Qe ⟨[qq 1,(3, .tsl 2 (NH [(⟨1,3⟩:Kc),(⟨1,3⟩:Kc),(⟨1,3⟩:Kc)]) 23)],[(1,Xl a0attr),(23,(Qbj (⟨1,3⟩:Kc)))]⟩ Qa (Qg Qe ⟨[qq 1,(3, .tsl 2 (NH [(⟨1,3⟩:Kc),(⟨1,3⟩:Kc),(⟨1,3⟩:Kc)]) 23),(4,I 0),(5,I 0)],[(1,Xl a0attr),(23,(Qbj (⟨1,3⟩:Kc)))]⟩ Qa (sS (sS (nA 8 Qe rfl Qa (xR 6 Qa (xF Qa Qa (I4 (e:=148) (S:=2) (enc:=Kc.cs) (l:=[(⟨1,3⟩:Kc),(⟨1,3⟩:Kc),(⟨1,3⟩:Kc)]) (sv:=.tsl 2 (NH [(⟨1,3⟩:Kc),(⟨1,3⟩:Kc),(⟨1,3⟩:Kc)]) 23) (a:=0) (b:=Qc (mI a0attr.Kids)) rfl Qa Qa Qa Qa Qa Qa) (U7 rfl Qa Qa ?_))))))))))
 refine Fq [] Qa (ZU n a0attr (List.drop (Int.toNat 0) (List.take (Int.toNat (Qc (mI a0attr.Kids))) [(⟨1,3⟩:Kc),(⟨1,3⟩:Kc),(⟨1,3⟩:Kc)]))) Qa Qa QW QW (fun r3=>?_) (fun e4=>?_)
 rotate_left
 ·exact QcI rfl (Kk (Kk (zQ Qa Qa)))
 refine xR 1 Qa (xE (QcH (Qk ⟨cZ 0 0 r3 0,MI a0attr⟩ Qa (sB (Qw (fun (l5_1,l5_2,l5_3)=>⟨cZ l5_1 l5_2 r3 l5_3,MI a0attr⟩:(Int × Int × Int)→St) (Wq Qa) ?_)))))
 rintro recl5 ⟨l5_1,l5_2,l5_3⟩
 show QU (Ui a0attr r3 recl5 l5_1 l5_2 l5_3) _ _ _ _ _ _
 unfold Ui
 exact Qg Qe ⟨[qq 1,(4,I l5_1),(5,I l5_2),(30, .p (.sl 1 (List.map ci r3))),(31,I (Qc (List.map ci r3))),(32,I l5_3),(33,B (QL l5_3 (Qc (List.map ci r3))))],MI a0attr⟩ Qa (sS (sC (QL l5_3 (Qc (List.map ci r3))) Qa (sK (Qk ⟨cZ l5_1 l5_2 r3 l5_3,MI a0attr⟩ Qa (sS (sB (sS (sG (xG Qa Qa (QC (e:=3) (S:=1) (enc:=ci) (l:=r3) (k:=.i64) (n:=l5_3) (sv:=.p (.sl 1 (List.map ci r3))) rfl Qa Qa Qa Qa Qa) (fun x6=>xR 2 Qa (xE (Qk ⟨[qq 1,(4,I l5_1),(5,I l5_2),(7,I x6),(30, .p (.sl 1 (List.map ci r3))),(31,I (Qc (List.map ci r3))),(32,I l5_3)],MI a0attr⟩ Qa (sS (Qg Qe ⟨[qq 1,(4,I l5_1),(7,I x6),(30, .p (.sl 1 (List.map ci r3))),(31,I (Qc (List.map ci r3))),(32,I l5_3),(38,B (leI x6 l5_2))],MI a0attr⟩ Qa (sC (leI x6 l5_2) Qa (sG (xR 1 Qa (Yr [] [I 3, .agg [I a0attr.Kind,S a0attr.Name,I a0attr.N,I a0attr.At, .p (.sl 5 (mI a0attr.Kids))]] [] [] [] Qa Tryz.func88 rfl Tryz.ntmps88 rfl Qa Qa Qa (Qg Qe (Gv 3 a0attr) Qa (sG (xR 6 Qa (X8 160 (.agg [I 3,I a0attr.At]) Qa rfl Qa (ZO [] [] Qa (Kk (Zj (Kk (Zp (Zj (Kk (zQ Qa Qa))))))))))))))) (sK (Qk ⟨Qbk l5_1 x6 r3 l5_3,MI a0attr⟩ Qa (sS (sG (xR 3 Qa (xF Qa Qa (wZ (k:=.i64) (k':=.i64) (a:=1) (b:=wi (x6 - 1)) rfl Qa Qa) (xR 2 Qa (xE (Qk ⟨Qbk (sJ .i64 l5_1 (Wu .i64 1 (wi (x6 - 1)))) x6 r3 l5_3,MI a0attr⟩ Qa (sL Qe Qa (QT (Qk ⟨cZ (sJ .i64 l5_1 (Wu .i64 1 (wi (x6 - 1)))) x6 r3 l5_3,MI a0attr⟩ Qa (sL Qe Qa (Ky (sJ .i64 l5_1 (Wu .i64 1 (wi (x6 - 1))),x6,wi (l5_3+1)) Qa))))))))))))))))))))))))))) (Qm (Zu (ZP (QG (Qk ⟨[(4,I l5_1)],[]⟩ Qa (Qg Qe ⟨[(2,I l5_1)],[]⟩ Qa (sT (qR (.id) Qa Qa Qa))))))))))
def Y4 (yI:GN) (yC:ZI) (yK:Kq) (yG:ZL) (yB:Zt) (yS:Qj) (yF:Bool) (yD:List KG) (h7_m:List ((List UInt8) × Bool)) (h8_m:List ((List UInt8) × KP)) (h10_m:List ((List UInt8) × Bool)):List (Nat × Blk):=[(1000, .box 152 ([.ptr 1001 0]++Kw (GN.cs yI)++[.mv 1010]++Kw (ZI.cs yC)++Kw (Kq.cs yK)++Kw (ZL.cs yG)++[S yB.Name,I yB.Charger])),(1001, .box 113 [.tsl 11 (List.map ZI.cs yS.Conductors) 1002, .tsl 1 (List.map Zf.cs yS.Owners) 1003, .tsl 4 (List.map Kq.cs yS.Contracts) 1004, .tsl 8 (List.map ZL.cs yS.Chargers) 1005, .tsl 2 (List.map Zt.cs yS.Bays) 1006, .mv 1007,B yF, .mv 1008, .tsl 2 (List.map KG.cs yD) 1009]),(1002, .arr 54 11 (List.map ZI.cs yS.Conductors).length),(1003, .arr 166 1 (List.map Zf.cs yS.Owners).length),(1004, .arr 120 4 (List.map Kq.cs yS.Contracts).length),(1005, .arr 32 8 (List.map ZL.cs yS.Chargers).length),(1006, .arr 123 2 (List.map Zt.cs yS.Bays).length),(1007, .mp (JH Q6 Q7 h7_m)),(1008, .mp (JH VH VJ h8_m)),(1009, .arr 99 2 (List.map KG.cs yD).length),(1010, .mp (JH Q6 Q7 h10_m)),(1011, .arr 3 1 (List.map ci [5]).length)]
def Au:List Nat:=[1000,1001,1002,1003,1004,1005,1006,1007,1008,1009,1010,1011]
def YU (a1attr:GN):Option (Except (Int × Int) Int) :=
 some (.error (8,a1attr.At))
def Gx (a1attr:GN) (h8_m:List ((List UInt8) × KP)) (x4:GN) (recl6:Int→Option (Except (Int × Int) Int)) (l6:Int):Option (Except (Int × Int) Int) :=
 cond (QL l6 (Qc (List.map ci [5])))
  ((Zc [5] l6).bind fun x7 =>
  cond (Qs x7 ((QJ QE x4.Name (⟨0,0⟩:KP) h8_m).kind))
   (some (.ok ((QJ QE x4.Name (⟨0,0⟩:KP) h8_m).index)))
   (recl6 (wi (l6+1))))
  (YU a1attr)
def TH (n:Nat) (a1attr:GN) (yI:GN) (yC:ZI) (yK:Kq) (yG:ZL) (yB:Zt) (yS:Qj) (yF:Bool) (yD:List KG) (h7_m:List ((List UInt8) × Bool)) (h8_m:List ((List UInt8) × KP)) (h10_m:List ((List UInt8) × Bool)):Option (Except (Int × Int) Int) :=
 (cond (!Qs (Qc (List.map YC a1attr.Kids)) 1)
  (some true)
  ((Option.bind (Zc a1attr.Kids 0) GN.of).bind fun x3 =>
  some (!Qs x3.Kind 5))).bind fun j1 =>
 cond j1
  (some (.error (9,a1attr.At)))
  ((Option.bind (Zc a1attr.Kids 0) GN.of).bind fun x4 =>
  cond (BL QE x4.Name h8_m)
   (Q4 (fun recl6 l6=>Gx a1attr h8_m x4 recl6 l6) n 0)
   (YU a1attr))
def MN (yI:GN) (yC:ZI) (yK:Kq) (yG:ZL) (yB:Zt) (yS:Qj) (yF:Bool) (yD:List KG) (h7_m:List ((List UInt8) × Bool)) (h8_m:List ((List UInt8) × KP)) (h10_m:List ((List UInt8) × Bool)):List (Nat × Blk):=Y4 yI yC yK yG yB yS yF yD h7_m h8_m h10_m
def rf:=fun x0 x1 x2 x3 x4 x5 x6 x7 x8 x9 x10 x11 x12 x13=>(⟨uH [5] [5] x0,FK x1 x2++Y4 x3 x4 x5 x6 x7 x8 x9 x10 x11 x12 x13⟩:St)
theorem Av (n:Nat) (a1attr:GN) (yI:GN) (yC:ZI) (yK:Kq) (yG:ZL) (yB:Zt) (yS:Qj) (yF:Bool) (yD:List KG) (h7_m:List ((List UInt8) × Bool)) (h8_m:List ((List UInt8) × KP)) (h10_m:List ((List UInt8) × Bool)):∀ r,TH n a1attr yI yC yK yG yB yS yF yD h7_m h8_m h10_m=some r→Wz Tryz.prog 84 [Ka,ag (GN.cs a1attr), .tsl 1 (List.map ci [5]) 1011] (Go.Abs.look (MN yI yC yK yG yB yS yF yD h7_m h8_m h10_m)) (Xw (vv (fun r:Int=>((.ret (I r),MN yI yC yK yG yB yS yF yD h7_m h8_m h10_m):Z0 × List (Nat × Blk))) (fun e:(Int × Int)=>((.panic (.ifc 160 (.agg [I e.1,I e.2])),MN yI yC yK yG yB yS yF yD h7_m h8_m h10_m):Z0 × List (Nat × Blk)))) r):=by
 refine Y2 (MN yI yC yK yG yB yS yF yD h7_m h8_m h10_m) Tryz.func84 rfl Tryz.ntmps84 rfl ?_
 unfold TH
 refine Qg Qe ⟨uG [5],GI a1attr++Y4 yI yC yK yG yB yS yF yD h7_m h8_m h10_m⟩ Qa (sS (KM (fun j1=>⟨aQ [5] j1,GI a1attr++Y4 yI yC yK yG yB yS yF yD h7_m h8_m h10_m⟩:Bool→St) (sG (xR 5 Qa (xS (!Qs (Qc (mI a1attr.Kids)) 1) (fun h2=>xN (QB Qa h2) Qa (xR 6 Qa (xE (QV true Qa)))) (fun h2=>xO (QA Qa h2) Qa (xR 1 Qa (xG Qa Qa (Vh (e:=61) (S:=5) (enc:=GN.cs) (dec:=GN.of) (l:=a1attr.Kids) (k:=.i64) (n:=0) (sv:=.p (.sl 5 (mI a1attr.Kids))) GN.of_cs rfl Qa Qa Qa Qa Qa) (fun x3=>xR 4 Qa (xE (QV (!Qs x3.Kind 5) Qa))))))))) ?_))
 rintro j1
 refine sC j1 Qa (sG (xR 1 Qa (Yr [] [I 9, .agg [I a1attr.Kind,S a1attr.Name,I a1attr.N,I a1attr.At, .p (.sl 5 (mI a1attr.Kids))]] [] [] [] Qa Tryz.func88 rfl Tryz.ntmps88 rfl Qa Qa Qa (Qg Qe (Gv 9 a1attr) Qa (sG (xR 6 Qa (X8 160 (.agg [I 9,I a1attr.At]) Qa rfl Qa (ZO [] [] Qa (Kk (Kv Au [] Qa Qa Qa)))))))))) (sK (Qk ⟨uG [5],GI a1attr++Y4 yI yC yK yG yB yS yF yD h7_m h8_m h10_m⟩ Qa (sS (YK Qe rfl (xR 9 Qa (xG Qa Qa (Vh (e:=61) (S:=5) (enc:=GN.cs) (dec:=GN.of) (l:=a1attr.Kids) (k:=.i64) (n:=0) (sv:=.p (.sl 5 (mI a1attr.Kids))) GN.of_cs rfl Qa Qa Qa Qa Qa) (fun x4=>xR 2 Qa ?_)))))))
 refine Ze Qa Qa (Zx (kt:=9) (e:=185) (ke:=VH) (ve:=VJ) (eq:=QE) (b:=1008) (m:=h8_m) (k:=x4.Name) (z0:=(⟨0,0⟩:KP)) rfl Qa Qa Qa Qa Qa QW (fun _ _=>Za rfl _ _) Qa) ?_
 refine xR 6 Qa (Yh Qa (Qk ⟨aR [5] (BL QE x4.Name h8_m),FK a1attr (QJ QE x4.Name (⟨0,0⟩:KP) h8_m)++Y4 yI yC yK yG yB yS yF yD h7_m h8_m h10_m⟩ Qa (ZY (fun _=>⟨[qq 4],GI a1attr++Y4 yI yC yK yG yB yS yF yD h7_m h8_m h10_m⟩:Unit→St) (fun _=>YU a1attr) ?_ ?_)))
 ·rintro _
  show QU (YU a1attr) _ _ _ _ _ _
  unfold YU
  exact sS (sG (xR 1 Qa (Yr [] [I 8, .agg [I a1attr.Kind,S a1attr.Name,I a1attr.N,I a1attr.At, .p (.sl 5 (mI a1attr.Kids))]] [] [] [] Qa Tryz.func88 rfl Tryz.ntmps88 rfl Qa Qa Qa (Qg Qe (Gv 8 a1attr) Qa (sG (xR 6 Qa (X8 160 (.agg [I 8,I a1attr.At]) Qa rfl Qa (ZO [] [] Qa (Kk (Kv Au [] Qa Qa Qa))))))))))
 refine Qg Qe ⟨aS [5] (BL QE x4.Name h8_m),FK a1attr (QJ QE x4.Name (⟨0,0⟩:KP) h8_m)++Y4 yI yC yK yG yB yS yF yD h7_m h8_m h10_m⟩ Qa (sC (BL QE x4.Name h8_m) Qa (Qg Qe (rf 0 a1attr (QJ QE x4.Name (⟨0,0⟩:KP) h8_m) yI yC yK yG yB yS yF yD h7_m h8_m h10_m) Qa (sB (Qw (fun l6=>(rf l6 a1attr (QJ QE x4.Name (⟨0,0⟩:KP) h8_m) yI yC yK yG yB yS yF yD h7_m h8_m h10_m):Int→St) (Wq Qa) ?_))) (sK (Ky (k:=fun _=>YU a1attr) () Qa)))
 rintro recl6 l6
 show QU (Gx a1attr h8_m x4 recl6 l6) _ _ _ _ _ _
 unfold Gx
 exact Qg Qe ⟨aT [5] [5] l6 (QL l6 (Qc (List.map ci [5]))),FK a1attr (QJ QE x4.Name (⟨0,0⟩:KP) h8_m)++Y4 yI yC yK yG yB yS yF yD h7_m h8_m h10_m⟩ Qa (sS (sC (QL l6 (Qc (List.map ci [5]))) Qa (sK (Qk (rf l6 a1attr (QJ QE x4.Name (⟨0,0⟩:KP) h8_m) yI yC yK yG yB yS yF yD h7_m h8_m h10_m) Qa (sS (sB (sS (sG (xG Qa Qa (QC (e:=3) (S:=1) (enc:=ci) (l:=[5]) (k:=.i64) (n:=l6) (sv:=.tsl 1 (List.map ci [5]) 1011) rfl Qa Qa Qa Qa Qa) (fun x7=>xR 2 Qa (xE (Qk ⟨aU x7 [5] [5] l6,FK a1attr (QJ QE x4.Name (⟨0,0⟩:KP) h8_m)++Y4 yI yC yK yG yB yS yF yD h7_m h8_m h10_m⟩ Qa (Qg Qe ⟨aV [5] [5] l6 (Qs x7 ((QJ QE x4.Name (⟨0,0⟩:KP) h8_m).kind)),FK a1attr (QJ QE x4.Name (⟨0,0⟩:KP) h8_m)++Y4 yI yC yK yG yB yS yF yD h7_m h8_m h10_m⟩ Qa (sC (Qs x7 ((QJ QE x4.Name (⟨0,0⟩:KP) h8_m).kind)) Qa (Qg Qe ⟨[(6,I ((QJ QE x4.Name (⟨0,0⟩:KP) h8_m).index))],Y4 yI yC yK yG yB yS yF yD h7_m h8_m h10_m⟩ Qa (sT (Q9 (QY (KC (Q9 (KC (YQ (.id) Au [] Qa Qa Qa Qa)))))))) (sK (QT (Qk (rf l6 a1attr (QJ QE x4.Name (⟨0,0⟩:KP) h8_m) yI yC yK yG yB yS yF yD h7_m h8_m h10_m) Qa (sL Qe Qa (Ky (wi (l6+1)) Qa))))))))))))))))) (Qm (Zu (ZP (QG (Ky (k:=fun _=>YU a1attr) () Qa)))))))
def QQ (yS:Qj) (yF:Bool) (yD:List KG) (h7_m:List ((List UInt8) × Bool)) (h8_m:List ((List UInt8) × KP)):List (Nat × Blk):=[(1001, .box 113 [.tsl 11 (List.map ZI.cs yS.Conductors) 1002, .tsl 1 (List.map Zf.cs yS.Owners) 1003, .tsl 4 (List.map Kq.cs yS.Contracts) 1004, .tsl 8 (List.map ZL.cs yS.Chargers) 1005, .tsl 2 (List.map Zt.cs yS.Bays) 1006, .mv 1007,B yF, .mv 1008, .tsl 2 (List.map KG.cs yD) 1009]),(1002, .arr 54 11 (List.map ZI.cs yS.Conductors).length),(1003, .arr 166 1 (List.map Zf.cs yS.Owners).length),(1004, .arr 120 4 (List.map Kq.cs yS.Contracts).length),(1005, .arr 32 8 (List.map ZL.cs yS.Chargers).length),(1006, .arr 123 2 (List.map Zt.cs yS.Bays).length),(1007, .mp (JH Q6 Q7 h7_m)),(1008, .mp (JH VH VJ h8_m)),(1009, .arr 99 2 (List.map KG.cs yD).length)]
def Zl:List (Nat × Blk):=[(1011, .mf (U8 1012 1013 1014 1015 1016 1017 1018 1019 1020 1021)),(1012, .arr 3 1 (List.map ci [1,2]).length),(1013, .box 148 [I 1,I 1000]),(1014, .arr 3 1 (List.map ci [2]).length),(1015, .box 29 [.tsl 1 (List.map ci [1,2]) 1012]),(1016, .arr 3 1 (List.map ci [4,5]).length),(1017, .arr 3 1 (List.map ci [4]).length),(1018, .arr 3 1 (List.map ci [4]).length),(1019, .arr 3 1 (List.map ci [5]).length),(1020, .box 148 [I 1,I 80]),(1021, .arr 3 1 (List.map ci [6]).length)]
def ZG:List Nat:=[1000,1001,1002,1003,1004,1005,1006,1007,1008,1009,1010,1011,1012,1013,1014,1015,1016,1017,1018,1019,1020,1021]
abbrev ty6:=(Int × ZI × Kq × ZL × Zt × (List ((List UInt8) × Bool)))
abbrev qG:=(Except ((Int × Int) × ZI × Kq × ZL × Zt × (List ((List UInt8) × Bool))) (ZI × Kq × ZL × Zt × (List ((List UInt8) × Bool))))
def QP (l1_1:Int) (recl1:ty6→Option qG) (j2_1:ZI) (j2_2:Kq) (j2_3:ZL) (j2_4:Zt) (j2_5:List ((List UInt8) × Bool)):Option qG :=
 recl1 (wi (l1_1+1),j2_1,j2_2,j2_3,j2_4,j2_5)
def Gy (yS:Qj) (l1_1:Int) (l1_2:ZI) (l1_3:Kq) (l1_4:ZL) (l1_5:Zt) (l1_6:List ((List UInt8) × Bool)) (recl1:ty6→Option qG) (x3:GN) (x51:Int) (recl52:Int→Option qG) (l52:Int):Option qG :=
 cond (QL l52 (Qc (List.map Kq.cs yS.Contracts)))
  ((Zc yS.Contracts l52).bind fun x53 =>
  cond (Qs x53.Card x51)
   (some (.error ((5,x3.At),l1_2,(⟨l1_3.Name,l1_3.Owner,l1_3.Rank,x51⟩:Kq),l1_4,l1_5,Qq Qd x3.Name true l1_6)))
   (recl52 (wi (l52+1))))
  (QP l1_1 recl1 l1_2 (⟨l1_3.Name,l1_3.Owner,l1_3.Rank,x51⟩:Kq) l1_4 l1_5 (Qq Qd x3.Name true l1_6))
def FM (n:Nat) (yI:GN) (yS:Qj) (yF:Bool) (yD:List KG) (h7_m:List ((List UInt8) × Bool)) (h8_m:List ((List UInt8) × KP)) (recl1:ty6→Option qG) (l1_1:Int) (l1_2:ZI) (l1_3:Kq) (l1_4:ZL) (l1_5:Zt) (l1_6:List ((List UInt8) × Bool)):Option qG :=
 cond (QL l1_1 (Qc (List.map YC yI.Kids)))
  ((Option.bind (Zc yI.Kids l1_1) GN.of).bind fun x3 =>
  cond (!Qs x3.Kind 3)
   (QP l1_1 recl1 l1_2 l1_3 l1_4 l1_5 l1_6)
   (cond (Q8 x3.Name [108,105,109,105,116]&&true)
    ((QS n [1,2] false yI.N).bind fun r7 =>
    cond (!r7)
     (some (.error ((9,x3.At),l1_2,l1_3,l1_4,l1_5,l1_6)))
     (cond (QJ Qd x3.Name false l1_6)
      (some (.error ((5,x3.At),l1_2,l1_3,l1_4,l1_5,l1_6)))
      ((Z7 n x3 [(⟨1,1000⟩:Kc)]).bind (MZ (fun r8 =>
       (Zc r8 0).bind fun x10 =>
       QP l1_1 recl1 (⟨l1_2.Name,l1_2.Up,x10,l1_2.Neutral,l1_2.Fuse,l1_2.Cable⟩:ZI) l1_3 l1_4 l1_5 (Qq Qd x3.Name true l1_6)) fun e9=>some (.error ((e9.1,e9.2),l1_2,l1_3,l1_4,l1_5,Qq Qd x3.Name true l1_6))))))
    (cond (Q8 x3.Name [110,101,117,116,114,97,108]&&true)
     ((QS n [1,2] false yI.N).bind fun r13 =>
     cond (!r13)
      (some (.error ((9,x3.At),l1_2,l1_3,l1_4,l1_5,l1_6)))
      (cond (QJ Qd x3.Name false l1_6)
       (some (.error ((5,x3.At),l1_2,l1_3,l1_4,l1_5,l1_6)))
       ((Z7 n x3 [(⟨1,1000⟩:Kc)]).bind (MZ (fun r14 =>
        (Zc r14 0).bind fun x16 =>
        QP l1_1 recl1 (⟨l1_2.Name,l1_2.Up,l1_2.Limit,x16,l1_2.Fuse,l1_2.Cable⟩:ZI) l1_3 l1_4 l1_5 (Qq Qd x3.Name true l1_6)) fun e15=>some (.error ((e15.1,e15.2),l1_2,l1_3,l1_4,l1_5,Qq Qd x3.Name true l1_6))))))
     (cond (Q8 x3.Name [102,117,115,101]&&true)
      ((QS n [1,2] true yI.N).bind fun r19 =>
      cond (!r19)
       (some (.error ((9,x3.At),l1_2,l1_3,l1_4,l1_5,l1_6)))
       (cond (QJ Qd x3.Name false l1_6)
        (some (.error ((5,x3.At),l1_2,l1_3,l1_4,l1_5,l1_6)))
        ((Z7 n x3 [(⟨1,1000⟩:Kc),(⟨0,1000000⟩:Kc)]).bind (MZ (fun r20 =>
         (Zc r20 0).bind fun x22 =>
         (Zc r20 1).bind fun x23 =>
         QP l1_1 recl1 (⟨l1_2.Name,l1_2.Up,l1_2.Limit,l1_2.Neutral,(⟨x22,x23⟩:UE),l1_2.Cable⟩:ZI) l1_3 l1_4 l1_5 (Qq Qd x3.Name true l1_6)) fun e21=>some (.error ((e21.1,e21.2),l1_2,l1_3,l1_4,l1_5,Qq Qd x3.Name true l1_6))))))
      (cond (Q8 x3.Name [116,104,101,114,109,97,108]&&true)
       ((QS n [1,2] true yI.N).bind fun r25 =>
       cond (!r25)
        (some (.error ((9,x3.At),l1_2,l1_3,l1_4,l1_5,l1_6)))
        (cond (QJ Qd x3.Name false l1_6)
         (some (.error ((5,x3.At),l1_2,l1_3,l1_4,l1_5,l1_6)))
         ((Z7 n x3 [(⟨0,200000⟩:Kc),(⟨0,200000⟩:Kc),(⟨0,1000⟩:Kc),(⟨0,1000⟩:Kc),(⟨1,1000000⟩:Kc)]).bind (MZ (fun r26 =>
          (Zc r26 0).bind fun x28 =>
          (Zc r26 1).bind fun x29 =>
          (Zc r26 2).bind fun x30 =>
          (Zc r26 3).bind fun x31 =>
          (Zc r26 4).bind fun x32 =>
          QP l1_1 recl1 (⟨l1_2.Name,l1_2.Up,l1_2.Limit,l1_2.Neutral,l1_2.Fuse,(⟨x28,x29,x30,x31,x32⟩:KN)⟩:ZI) l1_3 l1_4 l1_5 (Qq Qd x3.Name true l1_6)) fun e27=>some (.error ((e27.1,e27.2),l1_2,l1_3,l1_4,l1_5,Qq Qd x3.Name true l1_6))))))
       (cond (Q8 x3.Name [102,114,111,109]&&true)
        ((QS n [2] false yI.N).bind fun r35 =>
        cond (!r35)
         (some (.error ((9,x3.At),l1_2,l1_3,l1_4,l1_5,l1_6)))
         (cond (QJ Qd x3.Name false l1_6)
          (some (.error ((5,x3.At),l1_2,l1_3,l1_4,l1_5,l1_6)))
          ((Dl n x3 yI l1_2 l1_3 l1_4 l1_5 yS yF yD h7_m h8_m (Qq Qd x3.Name true l1_6)).bind (MZ (fun r36 =>
           QP l1_1 recl1 (⟨l1_2.Name,r36,l1_2.Limit,l1_2.Neutral,l1_2.Fuse,l1_2.Cable⟩:ZI) l1_3 l1_4 l1_5 (Qq Qd x3.Name true l1_6)) fun e37=>some (.error ((e37.1,e37.2),l1_2,l1_3,l1_4,l1_5,Qq Qd x3.Name true l1_6))))))
        (cond (Q8 x3.Name [111,119,110,101,114]&&true)
         ((QS n [4,5] false yI.N).bind fun r39 =>
         cond (!r39)
          (some (.error ((9,x3.At),l1_2,l1_3,l1_4,l1_5,l1_6)))
          (cond (QJ Qd x3.Name false l1_6)
           (some (.error ((5,x3.At),l1_2,l1_3,l1_4,l1_5,l1_6)))
           ((TG n x3 yI l1_2 l1_3 l1_4 l1_5 yS yF yD h7_m h8_m (Qq Qd x3.Name true l1_6)).bind (MZ (fun r40 =>
            QP l1_1 recl1 l1_2 (⟨l1_3.Name,r40,l1_3.Rank,l1_3.Card⟩:Kq) (⟨l1_4.Name,l1_4.At,l1_4.Phases,l1_4.Min,l1_4.Max,l1_4.Step,l1_4.Fallback,r40⟩:ZL) l1_5 (Qq Qd x3.Name true l1_6)) fun e41=>some (.error ((e41.1,e41.2),l1_2,l1_3,l1_4,l1_5,Qq Qd x3.Name true l1_6))))))
         (cond (Q8 x3.Name [114,97,110,107]&&true)
          ((QS n [4] false yI.N).bind fun r43 =>
          cond (!r43)
           (some (.error ((9,x3.At),l1_2,l1_3,l1_4,l1_5,l1_6)))
           (cond (QJ Qd x3.Name false l1_6)
            (some (.error ((5,x3.At),l1_2,l1_3,l1_4,l1_5,l1_6)))
            ((Z7 n x3 [(⟨1,9⟩:Kc)]).bind (MZ (fun r44 =>
             (Zc r44 0).bind fun x46 =>
             QP l1_1 recl1 l1_2 (⟨l1_3.Name,l1_3.Owner,x46,l1_3.Card⟩:Kq) l1_4 l1_5 (Qq Qd x3.Name true l1_6)) fun e45=>some (.error ((e45.1,e45.2),l1_2,l1_3,l1_4,l1_5,Qq Qd x3.Name true l1_6))))))
          (cond (Q8 x3.Name [99,97,114,100]&&true)
           ((QS n [4] false yI.N).bind fun r48 =>
           cond (!r48)
            (some (.error ((9,x3.At),l1_2,l1_3,l1_4,l1_5,l1_6)))
            (cond (QJ Qd x3.Name false l1_6)
             (some (.error ((5,x3.At),l1_2,l1_3,l1_4,l1_5,l1_6)))
             ((Z7 n x3 [(⟨1,1000000⟩:Kc)]).bind (MZ (fun r49 =>
              (Zc r49 0).bind fun x51 =>
              Q4 (fun recl52 l52=>Gy yS l1_1 l1_2 l1_3 l1_4 l1_5 l1_6 recl1 x3 x51 recl52 l52) n 0) fun e50=>some (.error ((e50.1,e50.2),l1_2,l1_3,l1_4,l1_5,Qq Qd x3.Name true l1_6))))))
           (cond (Q8 x3.Name [97,116]&&true)
            ((QS n [5] false yI.N).bind fun r55 =>
            cond (!r55)
             (some (.error ((9,x3.At),l1_2,l1_3,l1_4,l1_5,l1_6)))
             (cond (QJ Qd x3.Name false l1_6)
              (some (.error ((5,x3.At),l1_2,l1_3,l1_4,l1_5,l1_6)))
              ((Dl n x3 yI l1_2 l1_3 l1_4 l1_5 yS yF yD h7_m h8_m (Qq Qd x3.Name true l1_6)).bind (MZ (fun r56 =>
               QP l1_1 recl1 l1_2 l1_3 (⟨l1_4.Name,r56,l1_4.Phases,l1_4.Min,l1_4.Max,l1_4.Step,l1_4.Fallback,l1_4.Owner⟩:ZL) l1_5 (Qq Qd x3.Name true l1_6)) fun e57=>some (.error ((e57.1,e57.2),l1_2,l1_3,l1_4,l1_5,Qq Qd x3.Name true l1_6))))))
            (cond (Q8 x3.Name [112,104,97,115,101,115]&&true)
             ((QS n [5] false yI.N).bind fun r59 =>
             cond (!r59)
              (some (.error ((9,x3.At),l1_2,l1_3,l1_4,l1_5,l1_6)))
              (cond (QJ Qd x3.Name false l1_6)
               (some (.error ((5,x3.At),l1_2,l1_3,l1_4,l1_5,l1_6)))
               ((FL n x3).bind (MZ (fun r60 =>
                QP l1_1 recl1 l1_2 l1_3 (⟨l1_4.Name,l1_4.At,r60,l1_4.Min,l1_4.Max,l1_4.Step,l1_4.Fallback,l1_4.Owner⟩:ZL) l1_5 (Qq Qd x3.Name true l1_6)) fun e61=>some (.error ((e61.1,e61.2),l1_2,l1_3,l1_4,l1_5,Qq Qd x3.Name true l1_6))))))
             (cond (Q8 x3.Name [97,109,112,115]&&true)
              ((QS n [5] false yI.N).bind fun r64 =>
              cond (!r64)
               (some (.error ((9,x3.At),l1_2,l1_3,l1_4,l1_5,l1_6)))
               (cond (QJ Qd x3.Name false l1_6)
                (some (.error ((5,x3.At),l1_2,l1_3,l1_4,l1_5,l1_6)))
                ((Z7 n x3 [(⟨1,80⟩:Kc),(⟨1,80⟩:Kc),(⟨1,80⟩:Kc)]).bind (MZ (fun r65 =>
                 (Zc r65 0).bind fun x67 =>
                 (Zc r65 1).bind fun x68 =>
                 (Zc r65 2).bind fun x69 =>
                 QP l1_1 recl1 l1_2 l1_3 (⟨l1_4.Name,l1_4.At,l1_4.Phases,x67,x68,x69,l1_4.Fallback,l1_4.Owner⟩:ZL) l1_5 (Qq Qd x3.Name true l1_6)) fun e66=>some (.error ((e66.1,e66.2),l1_2,l1_3,l1_4,l1_5,Qq Qd x3.Name true l1_6))))))
              (cond (Q8 x3.Name [102,97,108,108,98,97,99,107]&&true)
               ((QS n [5] false yI.N).bind fun r71 =>
               cond (!r71)
                (some (.error ((9,x3.At),l1_2,l1_3,l1_4,l1_5,l1_6)))
                (cond (QJ Qd x3.Name false l1_6)
                 (some (.error ((5,x3.At),l1_2,l1_3,l1_4,l1_5,l1_6)))
                 ((Z7 n x3 [(⟨0,80⟩:Kc)]).bind (MZ (fun r72 =>
                  (Zc r72 0).bind fun x74 =>
                  QP l1_1 recl1 l1_2 l1_3 (⟨l1_4.Name,l1_4.At,l1_4.Phases,l1_4.Min,l1_4.Max,l1_4.Step,x74,l1_4.Owner⟩:ZL) l1_5 (Qq Qd x3.Name true l1_6)) fun e73=>some (.error ((e73.1,e73.2),l1_2,l1_3,l1_4,l1_5,Qq Qd x3.Name true l1_6))))))
               (cond (Q8 x3.Name [99,104,97,114,103,101,114]&&true)
                ((QS n [6] false yI.N).bind fun r76 =>
                cond (!r76)
                 (some (.error ((9,x3.At),l1_2,l1_3,l1_4,l1_5,l1_6)))
                 (cond (QJ Qd x3.Name false l1_6)
                  (some (.error ((5,x3.At),l1_2,l1_3,l1_4,l1_5,l1_6)))
                  ((TH n x3 yI l1_2 l1_3 l1_4 l1_5 yS yF yD h7_m h8_m (Qq Qd x3.Name true l1_6)).bind (MZ (fun r77 =>
                   QP l1_1 recl1 l1_2 l1_3 l1_4 (⟨l1_5.Name,r77⟩:Zt) (Qq Qd x3.Name true l1_6)) fun e78=>some (.error ((e78.1,e78.2),l1_2,l1_3,l1_4,l1_5,Qq Qd x3.Name true l1_6))))))
                (some (.error ((9,x3.At),l1_2,l1_3,l1_4,l1_5,l1_6)))))))))))))))))
  (some (.ok (l1_2,l1_3,l1_4,l1_5,l1_6)))
def CO (n:Nat) (yI:GN) (yC:ZI) (yK:Kq) (yG:ZL) (yB:Zt) (yS:Qj) (yF:Bool) (yD:List KG) (h7_m:List ((List UInt8) × Bool)) (h8_m:List ((List UInt8) × KP)) (h10_m:List ((List UInt8) × Bool)):Option qG :=
 Q4 (fun recl1 (l1_1,l1_2,l1_3,l1_4,l1_5,l1_6)=>FM n yI yS yF yD h7_m h8_m recl1 l1_1 l1_2 l1_3 l1_4 l1_5 l1_6) n (0,yC,yK,yG,yB,h10_m)
def qw (yI:GN) (yC:ZI) (yK:Kq) (yG:ZL) (yB:Zt) (yS:Qj) (yF:Bool) (yD:List KG) (h7_m:List ((List UInt8) × Bool)) (h8_m:List ((List UInt8) × KP)) (h10_m:List ((List UInt8) × Bool)):List (Nat × Blk):=[(1000, .box 152 ([.ptr 1001 0]++Kw (GN.cs yI)++[.mv 1010]++Kw (ZI.cs yC)++Kw (Kq.cs yK)++Kw (ZL.cs yG)++[S yB.Name,I yB.Charger]))]++QQ yS yF yD h7_m h8_m++[(1010, .mp (JH Q6 Q7 h10_m))]++Zl
def QcY:=fun x0 x1=>([(0, .ptr 1000 0),(1, .mv 1011),(12, .p (.sl 5 (List.map YC (GN.Kids x0)))),(13,I (Qc (List.map YC (GN.Kids x0)))),(14,I x1)]:List (Nat × AV))
def Qbl:=fun x0 x1 x2 x3 x4=>(.box 152 ([.ptr 1001 0]++Kw (GN.cs x0)++[.mv 1010]++Kw (ZI.cs x1)++Kw (Kq.cs x2)++Kw (ZL.cs x3)++[S (Zt.Name x4),I (Zt.Charger x4)]):Blk)
def KD:=fun x0 x1 x2 x3 x4=>([(1000,(Qbl x0 x1 x2 x3 x4))]:List (Nat × Blk))
def K5:=fun x0=>([(1010, .mp (JH Q6 Q7 x0))]:List (Nat × Blk))
def rq:=fun x0 x1 x2 x3 x4 x5 x6 x7 x8 x9 x10 x11=>(⟨QcY x0 x1,KD x0 x2 x3 x4 x5++QQ x6 x7 x8 x9 x10++K5 x11++Zl⟩:St)
def Qbm:=fun x0 x1=>([(0, .ptr 1000 0),(1, .mv 1011),(5, .ptr 5 0),(12, .p (.sl 5 (List.map YC (GN.Kids x0)))),(13,I (Qc (List.map YC (GN.Kids x0)))),(14,I x1)]:List (Nat × AV))
def aW:=fun x0=>([(5, .box 61 (Kw (GN.cs x0)))]:List (Nat × Blk))
def Iq:=fun x0 x1 x2=>([(0, .ptr 1000 0),(1, .mv 1011),(5, .ptr 5 0),(6, .ptr 6 0),(7,B x0),(12, .p (.sl 5 (List.map YC (GN.Kids x1)))),(13,I (Qc (List.map YC (GN.Kids x1)))),(14,I x2)]:List (Nat × AV))
def Qbn:=fun x0 x1=>(.box 155 [.tsl 1 (List.map ci [1,2]) 1012,B x0, .fn x1 [] [.ptr 1013 0]]:Blk)
def ru:=fun x0 x1 x2=>([(5, .box 61 (Kw (GN.cs x0))),(6,(Qbn x1 x2))]:List (Nat × Blk))
def aX:=fun x0 x1 x2 x3 x4 x5 x6 x7 x8 x9 x10 x11 x12 x13 x14=>(⟨Iq true x0 x1,ru x2 x3 x4++KD x0 x5 x6 x7 x8++QQ x9 x10 x11 x12 x13++K5 x14++Zl⟩:St)
def Ir:=fun x0 x1 x2=>([(0, .ptr 1000 0),(1, .mv 1011),(5, .ptr 5 0),(6, .ptr 6 0),(12, .p (.sl 5 (List.map YC (GN.Kids x0)))),(13,I (Qc (List.map YC (GN.Kids x0)))),(14,I x1),(39,B x2)]:List (Nat × AV))
def aY:=fun x0 x1 x2 x3 x4 x5 x6 x7 x8 x9 x10 x11 x12 x13 x14 x15=>(⟨Ir x0 x1 x2,ru x3 x4 x5++KD x0 x6 x7 x8 x9++QQ x10 x11 x12 x13 x14++K5 x15++Zl⟩:St)
def qx:=fun x0 x1=>([(0, .ptr 1000 0),(1, .mv 1011),(5, .ptr 5 0),(6, .ptr 6 0),(12, .p (.sl 5 (List.map YC (GN.Kids x0)))),(13,I (Qc (List.map YC (GN.Kids x0)))),(14,I x1)]:List (Nat × AV))
def qy:=fun x0 x1 x2 x3 x4 x5 x6 x7 x8 x9 x10 x11 x12 x13 x14=>(⟨qx x0 x1,ru x2 x3 x4++KD x0 x5 x6 x7 x8++QQ x9 x10 x11 x12 x13++K5 x14++Zl⟩:St)
def qz:=fun x0 x1 x2=>([(0, .ptr 1000 0),(1, .mv 1011),(5, .ptr 5 0),(6, .ptr 6 0),(12, .p (.sl 5 (List.map YC (GN.Kids x0)))),(13,I (Qc (List.map YC (GN.Kids x0)))),(14,I x1),(48,B x2)]:List (Nat × AV))
def aZ:=fun x0 x1 x2 x3 x4 x5 x6 x7 x8 x9 x10 x11 x12 x13 x14 x15=>(⟨qz x0 x1 x2,ru x3 x4 x5++KD x0 x6 x7 x8 x9++QQ x10 x11 x12 x13 x14++K5 x15++Zl⟩:St)
def vV:=fun x0 x1=>([(1010, .mp (JH Q6 Q7 x0)),(1011, .box 148 [I 1,I x1])]:List (Nat × Blk))
def nq6:List (Nat × Nat):=[(1000,1000),(1001,1001),(1002,1002),(1003,1003),(1004,1004),(1005,1005),(1006,1006),(1007,1007),(1008,1008),(1009,1009),(1010,1010),(1011,1013)]
def Qc0:List (Nat × AV):=[(0, .ptr 1000 0),(2, .ptr 1011 0),(4, .ptr 4 0)]
def ry:=fun x0 x1 x2 x3 x4 x5 x6 x7 x8 x9 x10 x11 x12=>(⟨Qc0,GI x0++KD x1 x2 x3 x4 x5++QQ x6 x7 x8 x9 x10++vV x11 x12⟩:St)
def Qbo:=fun x0=>([(0, .ptr 1000 0),(5, .p (.sl 1 (List.map ci x0)))]:List (Nat × AV))
def Qbp:Blk:=.box 155 [.tsl 1 (List.map ci [1,2]) 1012,B true, .p (.val (.func (.func 133) #[] #[]))]
def rz:=fun x0=>([(5, .box 61 (Kw (GN.cs x0))),(6,Qbp)]:List (Nat × Blk))
def ib:=fun x0 x1 x2 x3 x4 x5 x6 x7 x8 x9 x10 x11 x12=>(⟨qx x0 x1,rz x2++KD x0 x3 x4 x5 x6++QQ x7 x8 x9 x10 x11++K5 x12++Zl⟩:St)
def tK:List (Nat × Nat):=[(1000,1000),(1001,1001),(1002,1002),(1003,1003),(1004,1004),(1005,1005),(1006,1006),(1007,1007),(1008,1008),(1009,1009),(1010,1010)]
def kR:=fun x0 x1 x2 x3 x4 x5 x6 x7 x8 x9 x10 x11=>(⟨[(0, .ptr 1000 0),(3, .ptr 3 0)],WK x0++KD x1 x2 x3 x4 x5++QQ x6 x7 x8 x9 x10++K5 x11⟩:St)
def Qbq:Blk:=.box 155 [.tsl 1 (List.map ci [2]) 1014,B false, .fn (.func 134) [] [.ptr 1015 0]]
def rA:=fun x0=>([(5, .box 61 (Kw (GN.cs x0))),(6,Qbq)]:List (Nat × Blk))
def ic:=fun x0 x1 x2 x3 x4 x5 x6 x7 x8 x9 x10 x11 x12=>(⟨qx x0 x1,rA x2++KD x0 x3 x4 x5 x6++QQ x7 x8 x9 x10 x11++K5 x12++Zl⟩:St)
def Qbr:Blk:=.box 29 [.tsl 1 (List.map ci [1,2]) 1011]
def Qbs:=fun x0=>([(1010, .mp (JH Q6 Q7 x0)),(1011, .arr 3 1 (List.map ci [1,2]).length),(1012,Qbr)]:List (Nat × Blk))
def Qbt:Blk:=.box 155 [.tsl 1 (List.map ci [4,5]) 1016,B false, .p (.val (.func (.func 83) #[] #[]))]
def rC:=fun x0=>([(5, .box 61 (Kw (GN.cs x0))),(6,Qbt)]:List (Nat × Blk))
def ig:=fun x0 x1 x2 x3 x4 x5 x6 x7 x8 x9 x10 x11 x12=>(⟨qx x0 x1,rC x2++KD x0 x3 x4 x5 x6++QQ x7 x8 x9 x10 x11++K5 x12++Zl⟩:St)
def nq8:List (Nat × Nat):=[(1000,1000),(1001,1001),(1002,1002),(1003,1003),(1004,1004),(1005,1005),(1006,1006),(1007,1007),(1008,1008),(1009,1009),(1010,1010),(1011,7)]
def Qbu:Blk:=.box 155 [.tsl 1 (List.map ci [4]) 1017,B false, .p (.val (.func (.func 85) #[] #[]))]
def rD:=fun x0=>([(5, .box 61 (Kw (GN.cs x0))),(6,Qbu)]:List (Nat × Blk))
def ik:=fun x0 x1 x2 x3 x4 x5 x6 x7 x8 x9 x10 x11 x12=>(⟨qx x0 x1,rD x2++KD x0 x3 x4 x5 x6++QQ x7 x8 x9 x10 x11++K5 x12++Zl⟩:St)
def Qbv:Blk:=.box 155 [.tsl 1 (List.map ci [4]) 1018,B false, .p (.val (.func (.func 87) #[] #[]))]
def rE:=fun x0=>([(5, .box 61 (Kw (GN.cs x0))),(6,Qbv)]:List (Nat × Blk))
def il:=fun x0 x1 x2 x3 x4 x5 x6 x7 x8 x9 x10 x11 x12=>(⟨qx x0 x1,rE x2++KD x0 x3 x4 x5 x6++QQ x7 x8 x9 x10 x11++K5 x12++Zl⟩:St)
def Qc2:=fun x0 x1 x2 x3 x4 x5=>(.box 152 ([.ptr 1001 0]++Kw (GN.cs x0)++[.mv 1010]++Kw (ZI.cs x1)++[S (Kq.Name x2),I (Kq.Owner x2),I (Kq.Rank x2),I x3]++Kw (ZL.cs x4)++[S (Zt.Name x5),I (Zt.Charger x5)]):Blk)
def nI:=fun x0 x1 x2 x3 x4 x5=>([(1000,(Qc2 x0 x1 x2 x3 x4 x5))]:List (Nat × Blk))
def Qc3:=fun x0 x1=>([(0, .ptr 1000 0),(3, .ptr 3 0),(23, .tsl 4 (List.map Kq.cs (Qj.Contracts x0)) 1004),(24,I (Qc (List.map Kq.cs (Qj.Contracts x0)))),(25,I x1)]:List (Nat × AV))
def rF:=fun x0 x1 x2 x3 x4 x5 x6 x7 x8 x9 x10 x11 x12 x13=>(⟨Qc3 x0 x1,WK x2++nI x3 x4 x5 x6 x7 x8++QQ x0 x9 x10 x11 x12++K5 x13⟩:St)
def Qbw:=fun x0=>(.box 155 [.tsl 1 (List.map ci [5]) 1019,B false, .p (.val x0)]:Blk)
def rG:=fun x0 x1=>([(5, .box 61 (Kw (GN.cs x0))),(6,(Qbw x1))]:List (Nat × Blk))
def iq:=fun x0 x1 x2 x3 x4 x5 x6 x7 x8 x9 x10 x11 x12 x13=>(⟨Iq true x0 x1,rG x2 x3++KD x0 x4 x5 x6 x7++QQ x8 x9 x10 x11 x12++K5 x13++Zl⟩:St)
def iw:=fun x0 x1 x2 x3 x4 x5 x6 x7 x8 x9 x10 x11 x12 x13 x14=>(⟨Ir x0 x1 x2,rG x3 x4++KD x0 x5 x6 x7 x8++QQ x9 x10 x11 x12 x13++K5 x14++Zl⟩:St)
def qA:=fun x0 x1 x2 x3 x4 x5 x6 x7 x8 x9 x10 x11 x12 x13=>(⟨qx x0 x1,rG x2 x3++KD x0 x4 x5 x6 x7++QQ x8 x9 x10 x11 x12++K5 x13++Zl⟩:St)
def iy:=fun x0 x1 x2 x3 x4 x5 x6 x7 x8 x9 x10 x11 x12 x13 x14=>(⟨qz x0 x1 x2,rG x3 x4++KD x0 x5 x6 x7 x8++QQ x9 x10 x11 x12 x13++K5 x14++Zl⟩:St)
def Qbx:Blk:=.box 155 [.tsl 1 (List.map ci [5]) 1019,B false, .fn (.func 92) [] [.ptr 1020 0]]
def rH:=fun x0=>([(5, .box 61 (Kw (GN.cs x0))),(6,Qbx)]:List (Nat × Blk))
def iA:=fun x0 x1 x2 x3 x4 x5 x6 x7 x8 x9 x10 x11 x12=>(⟨qx x0 x1,rH x2++KD x0 x3 x4 x5 x6++QQ x7 x8 x9 x10 x11++K5 x12++Zl⟩:St)
def Qby:=fun x0=>([(5, .box 61 (Kw (GN.cs x0))),(6, .box 155 [.p (.val (.slice none 0 0)),B false, .p (.val (.nilFunc))])]:List (Nat × Blk))
def Qbz:Blk:=.box 155 [.tsl 1 (List.map ci [6]) 1021,B false, .p (.val (.func (.func 94) #[] #[]))]
def rJ:=fun x0=>([(5, .box 61 (Kw (GN.cs x0))),(6,Qbz)]:List (Nat × Blk))
def iB:=fun x0 x1 x2 x3 x4 x5 x6 x7 x8 x9 x10 x11 x12=>(⟨qx x0 x1,rJ x2++KD x0 x3 x4 x5 x6++QQ x7 x8 x9 x10 x11++K5 x12++Zl⟩:St)
abbrev jl (x:Kq):Go.Abs.Blk:=.box 120 (Kw (Kq.cs x))
theorem Iu (n:Nat) (yI:GN) (yC:ZI) (yK:Kq) (yG:ZL) (yB:Zt) (yS:Qj) (yF:Bool) (yD:List KG) (h7_m:List ((List UInt8) × Bool)) (h8_m:List ((List UInt8) × KP)) (h10_m:List ((List UInt8) × Bool)):∀ r,CO n yI yC yK yG yB yS yF yD h7_m h8_m h10_m=some r→Wz Tryz.prog 97 [Ka, .mv 1011] (Go.Abs.look (qw yI yC yK yG yB yS yF yD h7_m h8_m h10_m)) (Xw (vv (fun r:ZI × Kq × ZL × Zt × (List ((List UInt8) × Bool))=>((.ret (.tup []),qw yI r.1 r.2.1 r.2.2.1 r.2.2.2.1 yS yF yD h7_m h8_m r.2.2.2.2):Z0 × List (Nat × Blk))) (fun e:(Int × Int) × ZI × Kq × ZL × Zt × (List ((List UInt8) × Bool))=>((.panic (.ifc 160 (.agg [I e.1.1,I e.1.2])),qw yI e.2.1 e.2.2.1 e.2.2.2.1 e.2.2.2.2.1 yS yF yD h7_m h8_m e.2.2.2.2.2):Z0 × List (Nat × Blk)))) r):=by
 refine Y2 (qw yI yC yK yG yB yS yF yD h7_m h8_m h10_m) Tryz.func97 rfl Tryz.ntmps97 rfl ?_
 unfold CO
 refine Qg Qe (rq yI 0 yC yK yG yB yS yF yD h7_m h8_m h10_m) Qa (sB (Qw (fun (l1_1,l1_2,l1_3,l1_4,l1_5,l1_6)=>(rq yI l1_1 l1_2 l1_3 l1_4 l1_5 yS yF yD h7_m h8_m l1_6):ty6→St) (Wq Qa) ?_))
 rintro recl1 ⟨l1_1,l1_2,l1_3,l1_4,l1_5,l1_6⟩
 show QU (FM n yI yS yF yD h7_m h8_m recl1 l1_1 l1_2 l1_3 l1_4 l1_5 l1_6) _ _ _ _ _ _
 unfold FM
 refine Qg Qe ⟨[(0,Ka),(1, .mv 1011),(12, .p (.sl 5 (mI yI.Kids))),(13,I (Qc (mI yI.Kids))),(14,I l1_1),(15,B (QL l1_1 (Qc (mI yI.Kids))))],KD yI l1_2 l1_3 l1_4 l1_5++QQ yS yF yD h7_m h8_m++K5 l1_6++Zl⟩ Qa (sS (sC (QL l1_1 (Qc (mI yI.Kids))) Qa (sK (Qk (rq yI l1_1 l1_2 l1_3 l1_4 l1_5 yS yF yD h7_m h8_m l1_6) Qa (ZY (fun (j2_1,j2_2,j2_3,j2_4,j2_5)=>(rq yI l1_1 j2_1 j2_2 j2_3 j2_4 yS yF yD h7_m h8_m j2_5):(ZI × Kq × ZL × Zt × (List ((List UInt8) × Bool)))→St) (fun (j2_1,j2_2,j2_3,j2_4,j2_5)=>QP l1_1 recl1 j2_1 j2_2 j2_3 j2_4 j2_5) ?_ ?_))) (Qm (Zu (ZP (QG (QaE (.id) ZG [] Qa Qa Qa Qa)))))))
 ·rintro ⟨j2_1,j2_2,j2_3,j2_4,j2_5⟩
  show QU (QP l1_1 recl1 j2_1 j2_2 j2_3 j2_4 j2_5) _ _ _ _ _ _
  unfold QP
  exact sL Qe Qa (Ky (wi (l1_1+1),j2_1,j2_2,j2_3,j2_4,j2_5) Qa)
 refine sB (sS (sG (xG Qa Qa (Vh (e:=61) (S:=5) (enc:=GN.cs) (dec:=GN.of) (l:=yI.Kids) (k:=.i64) (n:=l1_1) (sv:=.p (.sl 5 (mI yI.Kids))) GN.of_cs rfl Qa Qa Qa Qa Qa) (fun x3=>xR 3 Qa (xE (Qk ⟨Qbm yI l1_1,aW x3++KD yI l1_2 l1_3 l1_4 l1_5++QQ yS yF yD h7_m h8_m++K5 l1_6++Zl⟩ Qa (sS (Qg Qe ⟨[(0,Ka),(1, .mv 1011),qq 5,(12, .p (.sl 5 (mI yI.Kids))),(13,I (Qc (mI yI.Kids))),(14,I l1_1),(20,B (!Qs x3.Kind 3))],aW x3++KD yI l1_2 l1_3 l1_4 l1_5++QQ yS yF yD h7_m h8_m++K5 l1_6++Zl⟩ Qa (sC (!Qs x3.Kind 3) Qa (Qm (Zu (QG (Ky (k:=fun (j2_1,j2_2,j2_3,j2_4,j2_5)=>QP l1_1 recl1 j2_1 j2_2 j2_3 j2_4 j2_5) (l1_2,l1_3,l1_4,l1_5,l1_6) Qa)))) (sK (Qk ⟨Qbm yI l1_1,aW x3++KD yI l1_2 l1_3 l1_4 l1_5++QQ yS yF yD h7_m h8_m++K5 l1_6++Zl⟩ Qa (sS (sG (xR 3 Qa (xS (Q8 x3.Name [108,105,109,105,116]&&true) (fun h5=>?_) (fun h5=>?_))))))))))))))))
 ·refine Ze Qa Qa (Ji (kt:=9) (e:=155) (b:=1011) (w:=x3.Name) (ok:=true) (es:=(U8 1012 1013 1014 1015 1016 1017 1018 1019 1020 1021)) (v:=.agg [.tsl 1 (List.map ci [1,2]) 1012,B false, .fn (.func 130) [] [.ptr 1013 0]]) rfl Qa Qa Qa Qa Qa (Jh h5)) (xR 6 Qa (xE (Qk (aX yI l1_1 x3 false (.func 130) l1_2 l1_3 l1_4 l1_5 yS yF yD h7_m h8_m l1_6) Qa (sS (sS (YK Qe rfl (xR 9 Qa (U7 rfl Qa Qa (Yj (f:=135) (args:=[.agg [.tsl 1 (List.map ci [1,2]) 1012,B false, .fn (.func 130) [] [.ptr 1013 0]],I yI.N]) Qa Qa Qa (Ai 2 rfl (fun hw6=>?_)))))))))))
  refine BG [.agg [.sl 1, .id, .id], .id] (QF n [1,2] false yI.N hw6) Qa Qa QW (fun r7=>?_)
  refine Yq (xR 2 Qa (xE (Qk (aY yI l1_1 (!r7) x3 false (.func 130) l1_2 l1_3 l1_4 l1_5 yS yF yD h7_m h8_m l1_6) Qa (sC (!r7) Qa (sG (xR 1 Qa (Yr [] [I 9, .agg [I x3.Kind,S x3.Name,I x3.N,I x3.At, .p (.sl 5 (mI x3.Kids))]] [] [] [] Qa Tryz.func88 rfl Tryz.ntmps88 rfl Qa Qa Qa (Qg Qe ⟨[(0,I 9),qq 3],WK x3⟩ Qa (sG (xR 6 Qa (X8 160 (.agg [I 9,I x3.At]) Qa rfl Qa (ZO [] [] Qa (Kk (Zj (Zp (Zp (Zj (Kv ZG [] Qa Qa Qa)))))))))))))) (sK (Qk (qy yI l1_1 x3 false (.func 130) l1_2 l1_3 l1_4 l1_5 yS yF yD h7_m h8_m l1_6) Qa (sS (sS (YK Qe rfl (xR 6 Qa ?_))))))))))
  refine Ze Qa Qa (Zx (kt:=9) (e:=4) (ke:=Q6) (ve:=Q7) (eq:=Qd) (b:=1010) (m:=l1_6) (k:=x3.Name) (z0:=false) rfl Qa Qa Qa Qa Qa QW (fun _ _=>Za rfl _ _) Qa) ?_
  refine Yh Qa (Qk (aZ yI l1_1 (QJ Qd x3.Name false l1_6) x3 false (.func 130) l1_2 l1_3 l1_4 l1_5 yS yF yD h7_m h8_m l1_6) Qa (sC (QJ Qd x3.Name false l1_6) Qa (sG (xR 1 Qa (Yr [] [I 5, .agg [I x3.Kind,S x3.Name,I x3.N,I x3.At, .p (.sl 5 (mI x3.Kids))]] [] [] [] Qa Tryz.func88 rfl Tryz.ntmps88 rfl Qa Qa Qa (Qg Qe ⟨[(0,I 5),qq 3],WK x3⟩ Qa (sG (xR 6 Qa (X8 160 (.agg [I 5,I x3.At]) Qa rfl Qa (ZO [] [] Qa (Kk (Zj (Zp (Zp (Zj (Kv ZG [] Qa Qa Qa)))))))))))))) (sK (Qk (qy yI l1_1 x3 false (.func 130) l1_2 l1_3 l1_4 l1_5 yS yF yD h7_m h8_m l1_6) Qa (sS (YK Qe rfl (xR 6 Qa ?_)))))))
  refine Ze Qa Qa (Yk (kt:=9) (e:=4) (ke:=Q6) (ve:=Q7) (eq:=Qd) (b:=1010) (m:=l1_6) (k:=x3.Name) (v:=true) rfl Qa Qa Qa Qa Qa Qa QW (fun _ _=>Za rfl _ _)) ?_
  refine Yh Qa (Qk (qy yI l1_1 x3 false (.func 130) l1_2 l1_3 l1_4 l1_5 yS yF yD h7_m h8_m (Qq Qd x3.Name true l1_6)) Qa (sG (xR 4 Qa (Yr ((KD yI l1_2 l1_3 l1_4 l1_5)++QQ yS yF yD h7_m h8_m++(vV (Qq Qd x3.Name true l1_6) 1000)) [Ka, .agg [I x3.Kind,S x3.Name,I x3.N,I x3.At, .p (.sl 5 (mI x3.Kids))], .ptr 1011 0] nq6 [] [] Qa Tryz.func130 rfl Tryz.ntmps130 rfl Qa Qa Qa (Qg Qe (ry x3 yI l1_2 l1_3 l1_4 l1_5 yS yF yD h7_m h8_m (Qq Qd x3.Name true l1_6) 1000) Qa (sG (xR 4 Qa ?_)))))))
  refine Fq [.id, .sl 2] Qa (ZU n x3 [(⟨1,1000⟩:Kc)]) Qa Qa QW QW (fun r8=>?_) (fun e9=>?_)
  ·exact xG Qa Qa (QC (e:=3) (S:=1) (enc:=ci) (l:=r8) (k:=.i64) (n:=0) (sv:=.p (.sl 1 (List.map ci r8))) rfl Qa Qa Qa Qa Qa) (fun x10=>xR 5 Qa (xE (Ww (.id) [1000,1001,1002,1003,1004,1005,1006,1007,1008,1009,1010,1011] [] (.tup []) Qa Qa (Yq (xE (QT (Ky (k:=fun (j2_1,j2_2,j2_3,j2_4,j2_5)=>QP l1_1 recl1 j2_1 j2_2 j2_3 j2_4 j2_5) ((⟨l1_2.Name,l1_2.Up,x10,l1_2.Neutral,l1_2.Fuse,l1_2.Cable⟩:ZI),l1_3,l1_4,l1_5,Qq Qd x3.Name true l1_6) Qa)))))))
  exact ZO [1000,1001,1002,1003,1004,1005,1006,1007,1008,1009,1010,1011] [] Qa (Zj (Zp (Zp (Zj (Kv ZG [] Qa Qa Qa)))))
 refine xS (Q8 x3.Name [110,101,117,116,114,97,108]&&true) (fun h11=>?_) (fun h11=>?_)
 ·refine Ze Qa Qa (Ji (kt:=9) (e:=155) (b:=1011) (w:=x3.Name) (ok:=true) (es:=(U8 1012 1013 1014 1015 1016 1017 1018 1019 1020 1021)) (v:=.agg [.tsl 1 (List.map ci [1,2]) 1012,B false, .fn (.func 131) [] [.ptr 1013 0]]) rfl Qa Qa Qa Qa Qa (Qx h5 (Jh h11))) (xR 6 Qa (xE (Qk (aX yI l1_1 x3 false (.func 131) l1_2 l1_3 l1_4 l1_5 yS yF yD h7_m h8_m l1_6) Qa (sS (sS (YK Qe rfl (xR 9 Qa (U7 rfl Qa Qa (Yj (f:=135) (args:=[.agg [.tsl 1 (List.map ci [1,2]) 1012,B false, .fn (.func 131) [] [.ptr 1013 0]],I yI.N]) Qa Qa Qa (Ai 2 rfl (fun hw12=>?_)))))))))))
  refine BG [.agg [.sl 1, .id, .id], .id] (QF n [1,2] false yI.N hw12) Qa Qa QW (fun r13=>?_)
  refine Yq (xR 2 Qa (xE (Qk (aY yI l1_1 (!r13) x3 false (.func 131) l1_2 l1_3 l1_4 l1_5 yS yF yD h7_m h8_m l1_6) Qa (sC (!r13) Qa (sG (xR 1 Qa (Yr [] [I 9, .agg [I x3.Kind,S x3.Name,I x3.N,I x3.At, .p (.sl 5 (mI x3.Kids))]] [] [] [] Qa Tryz.func88 rfl Tryz.ntmps88 rfl Qa Qa Qa (Qg Qe ⟨[(0,I 9),qq 3],WK x3⟩ Qa (sG (xR 6 Qa (X8 160 (.agg [I 9,I x3.At]) Qa rfl Qa (ZO [] [] Qa (Kk (Zj (Zp (Zp (Zj (Kv ZG [] Qa Qa Qa)))))))))))))) (sK (Qk (qy yI l1_1 x3 false (.func 131) l1_2 l1_3 l1_4 l1_5 yS yF yD h7_m h8_m l1_6) Qa (sS (sS (YK Qe rfl (xR 6 Qa ?_))))))))))
  refine Ze Qa Qa (Zx (kt:=9) (e:=4) (ke:=Q6) (ve:=Q7) (eq:=Qd) (b:=1010) (m:=l1_6) (k:=x3.Name) (z0:=false) rfl Qa Qa Qa Qa Qa QW (fun _ _=>Za rfl _ _) Qa) ?_
  refine Yh Qa (Qk (aZ yI l1_1 (QJ Qd x3.Name false l1_6) x3 false (.func 131) l1_2 l1_3 l1_4 l1_5 yS yF yD h7_m h8_m l1_6) Qa (sC (QJ Qd x3.Name false l1_6) Qa (sG (xR 1 Qa (Yr [] [I 5, .agg [I x3.Kind,S x3.Name,I x3.N,I x3.At, .p (.sl 5 (mI x3.Kids))]] [] [] [] Qa Tryz.func88 rfl Tryz.ntmps88 rfl Qa Qa Qa (Qg Qe ⟨[(0,I 5),qq 3],WK x3⟩ Qa (sG (xR 6 Qa (X8 160 (.agg [I 5,I x3.At]) Qa rfl Qa (ZO [] [] Qa (Kk (Zj (Zp (Zp (Zj (Kv ZG [] Qa Qa Qa)))))))))))))) (sK (Qk (qy yI l1_1 x3 false (.func 131) l1_2 l1_3 l1_4 l1_5 yS yF yD h7_m h8_m l1_6) Qa (sS (YK Qe rfl (xR 6 Qa ?_)))))))
  refine Ze Qa Qa (Yk (kt:=9) (e:=4) (ke:=Q6) (ve:=Q7) (eq:=Qd) (b:=1010) (m:=l1_6) (k:=x3.Name) (v:=true) rfl Qa Qa Qa Qa Qa Qa QW (fun _ _=>Za rfl _ _)) ?_
  refine Yh Qa (Qk (qy yI l1_1 x3 false (.func 131) l1_2 l1_3 l1_4 l1_5 yS yF yD h7_m h8_m (Qq Qd x3.Name true l1_6)) Qa (sG (xR 4 Qa (Yr ((KD yI l1_2 l1_3 l1_4 l1_5)++QQ yS yF yD h7_m h8_m++(vV (Qq Qd x3.Name true l1_6) 1000)) [Ka, .agg [I x3.Kind,S x3.Name,I x3.N,I x3.At, .p (.sl 5 (mI x3.Kids))], .ptr 1011 0] nq6 [] [] Qa Tryz.func131 rfl Tryz.ntmps131 rfl Qa Qa Qa (Qg Qe (ry x3 yI l1_2 l1_3 l1_4 l1_5 yS yF yD h7_m h8_m (Qq Qd x3.Name true l1_6) 1000) Qa (sG (xR 4 Qa ?_)))))))
  refine Fq [.id, .sl 2] Qa (ZU n x3 [(⟨1,1000⟩:Kc)]) Qa Qa QW QW (fun r14=>?_) (fun e15=>?_)
  ·exact xG Qa Qa (QC (e:=3) (S:=1) (enc:=ci) (l:=r14) (k:=.i64) (n:=0) (sv:=.p (.sl 1 (List.map ci r14))) rfl Qa Qa Qa Qa Qa) (fun x16=>xR 5 Qa (xE (Ww (.id) [1000,1001,1002,1003,1004,1005,1006,1007,1008,1009,1010,1011] [] (.tup []) Qa Qa (Yq (xE (QT (Ky (k:=fun (j2_1,j2_2,j2_3,j2_4,j2_5)=>QP l1_1 recl1 j2_1 j2_2 j2_3 j2_4 j2_5) ((⟨l1_2.Name,l1_2.Up,l1_2.Limit,x16,l1_2.Fuse,l1_2.Cable⟩:ZI),l1_3,l1_4,l1_5,Qq Qd x3.Name true l1_6) Qa)))))))
  exact ZO [1000,1001,1002,1003,1004,1005,1006,1007,1008,1009,1010,1011] [] Qa (Zj (Zp (Zp (Zj (Kv ZG [] Qa Qa Qa)))))
 refine xS (Q8 x3.Name [102,117,115,101]&&true) (fun h17=>?_) (fun h17=>?_)
 ·refine Ze Qa Qa (Ji (kt:=9) (e:=155) (b:=1011) (w:=x3.Name) (ok:=true) (es:=(U8 1012 1013 1014 1015 1016 1017 1018 1019 1020 1021)) (v:=.agg [.tsl 1 (List.map ci [1,2]) 1012,B true, .fn (.func 132) [] [.ptr 1013 0]]) rfl Qa Qa Qa Qa Qa (Qx h5 (Qx h11 (Jh h17)))) (xR 6 Qa (xE (Qk (aX yI l1_1 x3 true (.func 132) l1_2 l1_3 l1_4 l1_5 yS yF yD h7_m h8_m l1_6) Qa (sS (sS (YK Qe rfl (xR 9 Qa (U7 rfl Qa Qa (Yj (f:=135) (args:=[.agg [.tsl 1 (List.map ci [1,2]) 1012,B true, .fn (.func 132) [] [.ptr 1013 0]],I yI.N]) Qa Qa Qa (Ai 2 rfl (fun hw18=>?_)))))))))))
  refine BG [.agg [.sl 1, .id, .id], .id] (QF n [1,2] true yI.N hw18) Qa Qa QW (fun r19=>?_)
  refine Yq (xR 2 Qa (xE (Qk (aY yI l1_1 (!r19) x3 true (.func 132) l1_2 l1_3 l1_4 l1_5 yS yF yD h7_m h8_m l1_6) Qa (sC (!r19) Qa (sG (xR 1 Qa (Yr [] [I 9, .agg [I x3.Kind,S x3.Name,I x3.N,I x3.At, .p (.sl 5 (mI x3.Kids))]] [] [] [] Qa Tryz.func88 rfl Tryz.ntmps88 rfl Qa Qa Qa (Qg Qe ⟨[(0,I 9),qq 3],WK x3⟩ Qa (sG (xR 6 Qa (X8 160 (.agg [I 9,I x3.At]) Qa rfl Qa (ZO [] [] Qa (Kk (Zj (Zp (Zp (Zj (Kv ZG [] Qa Qa Qa)))))))))))))) (sK (Qk (qy yI l1_1 x3 true (.func 132) l1_2 l1_3 l1_4 l1_5 yS yF yD h7_m h8_m l1_6) Qa (sS (sS (YK Qe rfl (xR 6 Qa ?_))))))))))
  refine Ze Qa Qa (Zx (kt:=9) (e:=4) (ke:=Q6) (ve:=Q7) (eq:=Qd) (b:=1010) (m:=l1_6) (k:=x3.Name) (z0:=false) rfl Qa Qa Qa Qa Qa QW (fun _ _=>Za rfl _ _) Qa) ?_
  refine Yh Qa (Qk (aZ yI l1_1 (QJ Qd x3.Name false l1_6) x3 true (.func 132) l1_2 l1_3 l1_4 l1_5 yS yF yD h7_m h8_m l1_6) Qa (sC (QJ Qd x3.Name false l1_6) Qa (sG (xR 1 Qa (Yr [] [I 5, .agg [I x3.Kind,S x3.Name,I x3.N,I x3.At, .p (.sl 5 (mI x3.Kids))]] [] [] [] Qa Tryz.func88 rfl Tryz.ntmps88 rfl Qa Qa Qa (Qg Qe ⟨[(0,I 5),qq 3],WK x3⟩ Qa (sG (xR 6 Qa (X8 160 (.agg [I 5,I x3.At]) Qa rfl Qa (ZO [] [] Qa (Kk (Zj (Zp (Zp (Zj (Kv ZG [] Qa Qa Qa)))))))))))))) (sK (Qk (qy yI l1_1 x3 true (.func 132) l1_2 l1_3 l1_4 l1_5 yS yF yD h7_m h8_m l1_6) Qa (sS (YK Qe rfl (xR 6 Qa ?_)))))))
  refine Ze Qa Qa (Yk (kt:=9) (e:=4) (ke:=Q6) (ve:=Q7) (eq:=Qd) (b:=1010) (m:=l1_6) (k:=x3.Name) (v:=true) rfl Qa Qa Qa Qa Qa Qa QW (fun _ _=>Za rfl _ _)) ?_
  refine Yh Qa (Qk (qy yI l1_1 x3 true (.func 132) l1_2 l1_3 l1_4 l1_5 yS yF yD h7_m h8_m (Qq Qd x3.Name true l1_6)) Qa (sG (xR 4 Qa (Yr ((KD yI l1_2 l1_3 l1_4 l1_5)++QQ yS yF yD h7_m h8_m++(vV (Qq Qd x3.Name true l1_6) 1000)) [Ka, .agg [I x3.Kind,S x3.Name,I x3.N,I x3.At, .p (.sl 5 (mI x3.Kids))], .ptr 1011 0] nq6 [] [] Qa Tryz.func132 rfl Tryz.ntmps132 rfl Qa Qa Qa (Qg Qe (ry x3 yI l1_2 l1_3 l1_4 l1_5 yS yF yD h7_m h8_m (Qq Qd x3.Name true l1_6) 1000) Qa (sS (sG (xR 4 Qa ?_))))))))
  refine Fq [.id, .sl 2] Qa (ZU n x3 [(⟨1,1000⟩:Kc),(⟨0,1000000⟩:Kc)]) Qa Qa QW QW (fun r20=>?_) (fun e21=>?_)
  ·exact xR 1 Qa (xE (Qk ⟨Qbo r20,KD yI l1_2 l1_3 l1_4 l1_5++QQ yS yF yD h7_m h8_m++vV (Qq Qd x3.Name true l1_6) 1000⟩ Qa (YK Qe rfl (xR 2 Qa (xG Qa Qa (QC (e:=3) (S:=1) (enc:=ci) (l:=r20) (k:=.i64) (n:=0) (sv:=.p (.sl 1 (List.map ci r20))) rfl Qa Qa Qa Qa Qa) (fun x22=>xR 2 Qa (xG Qa Qa (QC (e:=3) (S:=1) (enc:=ci) (l:=r20) (k:=.i64) (n:=1) (sv:=.p (.sl 1 (List.map ci r20))) rfl Qa Qa Qa Qa Qa) (fun x23=>xR 6 Qa (Yh Qa (Ww (.id) [1000,1001,1002,1003,1004,1005,1006,1007,1008,1009,1010,1011] [] (.tup []) Qa Qa (Yq (xE (QT (Ky (k:=fun (j2_1,j2_2,j2_3,j2_4,j2_5)=>QP l1_1 recl1 j2_1 j2_2 j2_3 j2_4 j2_5) ((⟨l1_2.Name,l1_2.Up,l1_2.Limit,l1_2.Neutral,(⟨x22,x23⟩:UE),l1_2.Cable⟩:ZI),l1_3,l1_4,l1_5,Qq Qd x3.Name true l1_6) Qa))))))))))))))
  exact Kk (ZO [1000,1001,1002,1003,1004,1005,1006,1007,1008,1009,1010,1011] [] Qa (Zj (Zp (Zp (Zj (Kv ZG [] Qa Qa Qa))))))
 refine xS (Q8 x3.Name [116,104,101,114,109,97,108]&&true) (fun h24=>?_) (fun h24=>?_)
 ·refine Ze Qa Qa (Ji (kt:=9) (e:=155) (b:=1011) (w:=x3.Name) (ok:=true) (es:=(U8 1012 1013 1014 1015 1016 1017 1018 1019 1020 1021)) (v:=.agg [.tsl 1 (List.map ci [1,2]) 1012,B true, .p (.val (.func (.func 133) #[] #[]))]) rfl Qa Qa Qa Qa Qa (Qx h5 (Qx h11 (Qx h17 (Jh h24))))) (xR 6 Qa (xE (Qk ⟨Iq true yI l1_1,rz x3++KD yI l1_2 l1_3 l1_4 l1_5++QQ yS yF yD h7_m h8_m++K5 l1_6++Zl⟩ Qa (sS (sS (YK Qe rfl (xR 9 Qa ?_)))))))
  refine xC [.agg [.sl 1, .id, .id], .id] Qa (QF n [1,2] true yI.N (.func 133,#[],#[])) Qa Qa QW (fun r25=>?_)
  refine xR 2 Qa (Yh Qa (Qk ⟨Ir yI l1_1 (!r25),rz x3++KD yI l1_2 l1_3 l1_4 l1_5++QQ yS yF yD h7_m h8_m++K5 l1_6++Zl⟩ Qa (sC (!r25) Qa (sG (xR 1 Qa (Yr [] [I 9, .agg [I x3.Kind,S x3.Name,I x3.N,I x3.At, .p (.sl 5 (mI x3.Kids))]] [] [] [] Qa Tryz.func88 rfl Tryz.ntmps88 rfl Qa Qa Qa (Qg Qe ⟨[(0,I 9),qq 3],WK x3⟩ Qa (sG (xR 6 Qa (X8 160 (.agg [I 9,I x3.At]) Qa rfl Qa (ZO [] [] Qa (Kk (Zj (Zp (Zp (Zj (Kv ZG [] Qa Qa Qa)))))))))))))) (sK (Qk (ib yI l1_1 x3 l1_2 l1_3 l1_4 l1_5 yS yF yD h7_m h8_m l1_6) Qa (sS (sS (YK Qe rfl (xR 6 Qa ?_)))))))))
  refine Ze Qa Qa (Zx (kt:=9) (e:=4) (ke:=Q6) (ve:=Q7) (eq:=Qd) (b:=1010) (m:=l1_6) (k:=x3.Name) (z0:=false) rfl Qa Qa Qa Qa Qa QW (fun _ _=>Za rfl _ _) Qa) ?_
  refine Yh Qa (Qk ⟨qz yI l1_1 (QJ Qd x3.Name false l1_6),rz x3++KD yI l1_2 l1_3 l1_4 l1_5++QQ yS yF yD h7_m h8_m++K5 l1_6++Zl⟩ Qa (sC (QJ Qd x3.Name false l1_6) Qa (sG (xR 1 Qa (Yr [] [I 5, .agg [I x3.Kind,S x3.Name,I x3.N,I x3.At, .p (.sl 5 (mI x3.Kids))]] [] [] [] Qa Tryz.func88 rfl Tryz.ntmps88 rfl Qa Qa Qa (Qg Qe ⟨[(0,I 5),qq 3],WK x3⟩ Qa (sG (xR 6 Qa (X8 160 (.agg [I 5,I x3.At]) Qa rfl Qa (ZO [] [] Qa (Kk (Zj (Zp (Zp (Zj (Kv ZG [] Qa Qa Qa)))))))))))))) (sK (Qk (ib yI l1_1 x3 l1_2 l1_3 l1_4 l1_5 yS yF yD h7_m h8_m l1_6) Qa (sS (YK Qe rfl (xR 6 Qa ?_)))))))
  refine Ze Qa Qa (Yk (kt:=9) (e:=4) (ke:=Q6) (ve:=Q7) (eq:=Qd) (b:=1010) (m:=l1_6) (k:=x3.Name) (v:=true) rfl Qa Qa Qa Qa Qa Qa QW (fun _ _=>Za rfl _ _)) ?_
  refine Yh Qa (Qk (ib yI l1_1 x3 l1_2 l1_3 l1_4 l1_5 yS yF yD h7_m h8_m (Qq Qd x3.Name true l1_6)) Qa (sG (xR 4 Qa (Yr ((KD yI l1_2 l1_3 l1_4 l1_5)++QQ yS yF yD h7_m h8_m++(K5 (Qq Qd x3.Name true l1_6))) [Ka, .agg [I x3.Kind,S x3.Name,I x3.N,I x3.At, .p (.sl 5 (mI x3.Kids))]] tK [] [] Qa Tryz.func133 rfl Tryz.ntmps133 rfl Qa Qa Qa (Qg Qe (kR x3 yI l1_2 l1_3 l1_4 l1_5 yS yF yD h7_m h8_m (Qq Qd x3.Name true l1_6)) Qa (sS (sG (xR 7 Qa ?_))))))))
  refine Fq [.id, .sl 2] Qa (ZU n x3 [(⟨0,200000⟩:Kc),(⟨0,200000⟩:Kc),(⟨0,1000⟩:Kc),(⟨0,1000⟩:Kc),(⟨1,1000000⟩:Kc)]) Qa Qa QW QW (fun r26=>?_) (fun e27=>?_)
  rotate_left
  ·exact Kk (ZO [1000,1001,1002,1003,1004,1005,1006,1007,1008,1009,1010] [] Qa (Zj (Zp (Zp (Zj (Kv ZG [] Qa Qa Qa))))))
  exact xR 1 Qa (xE (Qk ⟨[(0,Ka),(4, .p (.sl 1 (List.map ci r26)))],KD yI l1_2 l1_3 l1_4 l1_5++QQ yS yF yD h7_m h8_m++K5 (Qq Qd x3.Name true l1_6)⟩ Qa (YK Qe rfl (xR 2 Qa (xG Qa Qa (QC (e:=3) (S:=1) (enc:=ci) (l:=r26) (k:=.i64) (n:=0) (sv:=.p (.sl 1 (List.map ci r26))) rfl Qa Qa Qa Qa Qa) (fun x28=>xR 2 Qa (xG Qa Qa (QC (e:=3) (S:=1) (enc:=ci) (l:=r26) (k:=.i64) (n:=1) (sv:=.p (.sl 1 (List.map ci r26))) rfl Qa Qa Qa Qa Qa) (fun x29=>xR 2 Qa (xG Qa Qa (QC (e:=3) (S:=1) (enc:=ci) (l:=r26) (k:=.i64) (n:=2) (sv:=.p (.sl 1 (List.map ci r26))) rfl Qa Qa Qa Qa Qa) (fun x30=>xR 2 Qa (xG Qa Qa (QC (e:=3) (S:=1) (enc:=ci) (l:=r26) (k:=.i64) (n:=3) (sv:=.p (.sl 1 (List.map ci r26))) rfl Qa Qa Qa Qa Qa) (fun x31=>xR 2 Qa (xG Qa Qa (QC (e:=3) (S:=1) (enc:=ci) (l:=r26) (k:=.i64) (n:=4) (sv:=.p (.sl 1 (List.map ci r26))) rfl Qa Qa Qa Qa Qa) (fun x32=>xR 6 Qa (Yh Qa (Ww (.id) [1000,1001,1002,1003,1004,1005,1006,1007,1008,1009,1010] [] (.tup []) Qa Qa (Yq (xE (QT (Ky (k:=fun (j2_1,j2_2,j2_3,j2_4,j2_5)=>QP l1_1 recl1 j2_1 j2_2 j2_3 j2_4 j2_5) ((⟨l1_2.Name,l1_2.Up,l1_2.Limit,l1_2.Neutral,l1_2.Fuse,(⟨x28,x29,x30,x31,x32⟩:KN)⟩:ZI),l1_3,l1_4,l1_5,Qq Qd x3.Name true l1_6) Qa))))))))))))))))))))
 refine xS (Q8 x3.Name [102,114,111,109]&&true) (fun h33=>?_) (fun h33=>?_)
 ·refine Ze Qa Qa (Ji (kt:=9) (e:=155) (b:=1011) (w:=x3.Name) (ok:=true) (es:=(U8 1012 1013 1014 1015 1016 1017 1018 1019 1020 1021)) (v:=.agg [.tsl 1 (List.map ci [2]) 1014,B false, .fn (.func 134) [] [.ptr 1015 0]]) rfl Qa Qa Qa Qa Qa (Qx h5 (Qx h11 (Qx h17 (Qx h24 (Jh h33)))))) (xR 6 Qa (xE (Qk ⟨Iq true yI l1_1,rA x3++KD yI l1_2 l1_3 l1_4 l1_5++QQ yS yF yD h7_m h8_m++K5 l1_6++Zl⟩ Qa (sS (sS (YK Qe rfl (xR 9 Qa (U7 rfl Qa Qa (Yj (f:=135) (args:=[.agg [.tsl 1 (List.map ci [2]) 1014,B false, .fn (.func 134) [] [.ptr 1015 0]],I yI.N]) Qa Qa Qa (Ai 2 rfl (fun hw34=>?_)))))))))))
  refine BG [.agg [.sl 1, .id, .id], .id] (QF n [2] false yI.N hw34) Qa Qa QW (fun r35=>?_)
  refine Yq (xR 2 Qa (xE (Qk ⟨Ir yI l1_1 (!r35),rA x3++KD yI l1_2 l1_3 l1_4 l1_5++QQ yS yF yD h7_m h8_m++K5 l1_6++Zl⟩ Qa (sC (!r35) Qa (sG (xR 1 Qa (Yr [] [I 9, .agg [I x3.Kind,S x3.Name,I x3.N,I x3.At, .p (.sl 5 (mI x3.Kids))]] [] [] [] Qa Tryz.func88 rfl Tryz.ntmps88 rfl Qa Qa Qa (Qg Qe ⟨[(0,I 9),qq 3],WK x3⟩ Qa (sG (xR 6 Qa (X8 160 (.agg [I 9,I x3.At]) Qa rfl Qa (ZO [] [] Qa (Kk (Zj (Zp (Zp (Zj (Kv ZG [] Qa Qa Qa)))))))))))))) (sK (Qk (ic yI l1_1 x3 l1_2 l1_3 l1_4 l1_5 yS yF yD h7_m h8_m l1_6) Qa (sS (sS (YK Qe rfl (xR 6 Qa ?_))))))))))
  refine Ze Qa Qa (Zx (kt:=9) (e:=4) (ke:=Q6) (ve:=Q7) (eq:=Qd) (b:=1010) (m:=l1_6) (k:=x3.Name) (z0:=false) rfl Qa Qa Qa Qa Qa QW (fun _ _=>Za rfl _ _) Qa) ?_
  refine Yh Qa (Qk ⟨qz yI l1_1 (QJ Qd x3.Name false l1_6),rA x3++KD yI l1_2 l1_3 l1_4 l1_5++QQ yS yF yD h7_m h8_m++K5 l1_6++Zl⟩ Qa (sC (QJ Qd x3.Name false l1_6) Qa (sG (xR 1 Qa (Yr [] [I 5, .agg [I x3.Kind,S x3.Name,I x3.N,I x3.At, .p (.sl 5 (mI x3.Kids))]] [] [] [] Qa Tryz.func88 rfl Tryz.ntmps88 rfl Qa Qa Qa (Qg Qe ⟨[(0,I 5),qq 3],WK x3⟩ Qa (sG (xR 6 Qa (X8 160 (.agg [I 5,I x3.At]) Qa rfl Qa (ZO [] [] Qa (Kk (Zj (Zp (Zp (Zj (Kv ZG [] Qa Qa Qa)))))))))))))) (sK (Qk (ic yI l1_1 x3 l1_2 l1_3 l1_4 l1_5 yS yF yD h7_m h8_m l1_6) Qa (sS (YK Qe rfl (xR 6 Qa ?_)))))))
  refine Ze Qa Qa (Yk (kt:=9) (e:=4) (ke:=Q6) (ve:=Q7) (eq:=Qd) (b:=1010) (m:=l1_6) (k:=x3.Name) (v:=true) rfl Qa Qa Qa Qa Qa Qa QW (fun _ _=>Za rfl _ _)) ?_
  refine Yh Qa (Qk (ic yI l1_1 x3 l1_2 l1_3 l1_4 l1_5 yS yF yD h7_m h8_m (Qq Qd x3.Name true l1_6)) Qa (sG (xR 4 Qa (Yr ((KD yI l1_2 l1_3 l1_4 l1_5)++QQ yS yF yD h7_m h8_m++(Qbs (Qq Qd x3.Name true l1_6))) [Ka, .agg [I x3.Kind,S x3.Name,I x3.N,I x3.At, .p (.sl 5 (mI x3.Kids))], .ptr 1012 0] [(1000,1000),(1001,1001),(1002,1002),(1003,1003),(1004,1004),(1005,1005),(1006,1006),(1007,1007),(1008,1008),(1009,1009),(1010,1010),(1011,1012),(1012,1015)] [] [] Qa Tryz.func134 rfl Tryz.ntmps134 rfl Qa Qa Qa (Qg Qe ⟨[(0,Ka),(2, .ptr 1012 0),qq 4],GI x3++KD yI l1_2 l1_3 l1_4 l1_5++QQ yS yF yD h7_m h8_m++Qbs (Qq Qd x3.Name true l1_6)⟩ Qa (sG (xR 4 Qa ?_)))))))
  refine Gg [(1000,1000),(1001,1001),(1002,1002),(1003,1003),(1004,1004),(1005,1005),(1006,1006),(1007,1007),(1008,1008),(1009,1009),(1010,1010),(1011,1011)] [] [] Qa (MK n x3 yI l1_2 l1_3 l1_4 l1_5 yS yF yD h7_m h8_m (Qq Qd x3.Name true l1_6)) Qa Qa Qa QW QW QW QW (fun r36=>?_) (fun e37=>?_)
  ·exact xR 4 Qa (xE (Ww (.id) [1000,1001,1002,1003,1004,1005,1006,1007,1008,1009,1010,1011,1012] [] (.tup []) Qa Qa (Yq (xE (QT (Ky (k:=fun (j2_1,j2_2,j2_3,j2_4,j2_5)=>QP l1_1 recl1 j2_1 j2_2 j2_3 j2_4 j2_5) ((⟨l1_2.Name,r36,l1_2.Limit,l1_2.Neutral,l1_2.Fuse,l1_2.Cable⟩:ZI),l1_3,l1_4,l1_5,Qq Qd x3.Name true l1_6) Qa))))))
  exact ZO [1000,1001,1002,1003,1004,1005,1006,1007,1008,1009,1010,1011,1012] [] Qa (Zj (Zp (Zp (Zj (Kv ZG [] Qa Qa Qa)))))
 refine xS (Q8 x3.Name [111,119,110,101,114]&&true) (fun h38=>?_) (fun h38=>?_)
 ·refine Ze Qa Qa (Ji (kt:=9) (e:=155) (b:=1011) (w:=x3.Name) (ok:=true) (es:=(U8 1012 1013 1014 1015 1016 1017 1018 1019 1020 1021)) (v:=.agg [.tsl 1 (List.map ci [4,5]) 1016,B false, .p (.val (.func (.func 83) #[] #[]))]) rfl Qa Qa Qa Qa Qa (Qx h5 (Qx h11 (Qx h17 (Qx h24 (Qx h33 (Jh h38))))))) (xR 6 Qa (xE (Qk ⟨Iq true yI l1_1,rC x3++KD yI l1_2 l1_3 l1_4 l1_5++QQ yS yF yD h7_m h8_m++K5 l1_6++Zl⟩ Qa (sS (sS (YK Qe rfl (xR 9 Qa ?_)))))))
  refine xC [.agg [.sl 1, .id, .id], .id] Qa (QF n [4,5] false yI.N (.func 83,#[],#[])) Qa Qa QW (fun r39=>?_)
  refine xR 2 Qa (Yh Qa (Qk ⟨Ir yI l1_1 (!r39),rC x3++KD yI l1_2 l1_3 l1_4 l1_5++QQ yS yF yD h7_m h8_m++K5 l1_6++Zl⟩ Qa (sC (!r39) Qa (sG (xR 1 Qa (Yr [] [I 9, .agg [I x3.Kind,S x3.Name,I x3.N,I x3.At, .p (.sl 5 (mI x3.Kids))]] [] [] [] Qa Tryz.func88 rfl Tryz.ntmps88 rfl Qa Qa Qa (Qg Qe ⟨[(0,I 9),qq 3],WK x3⟩ Qa (sG (xR 6 Qa (X8 160 (.agg [I 9,I x3.At]) Qa rfl Qa (ZO [] [] Qa (Kk (Zj (Zp (Zp (Zj (Kv ZG [] Qa Qa Qa)))))))))))))) (sK (Qk (ig yI l1_1 x3 l1_2 l1_3 l1_4 l1_5 yS yF yD h7_m h8_m l1_6) Qa (sS (sS (YK Qe rfl (xR 6 Qa ?_)))))))))
  refine Ze Qa Qa (Zx (kt:=9) (e:=4) (ke:=Q6) (ve:=Q7) (eq:=Qd) (b:=1010) (m:=l1_6) (k:=x3.Name) (z0:=false) rfl Qa Qa Qa Qa Qa QW (fun _ _=>Za rfl _ _) Qa) ?_
  refine Yh Qa (Qk ⟨qz yI l1_1 (QJ Qd x3.Name false l1_6),rC x3++KD yI l1_2 l1_3 l1_4 l1_5++QQ yS yF yD h7_m h8_m++K5 l1_6++Zl⟩ Qa (sC (QJ Qd x3.Name false l1_6) Qa (sG (xR 1 Qa (Yr [] [I 5, .agg [I x3.Kind,S x3.Name,I x3.N,I x3.At, .p (.sl 5 (mI x3.Kids))]] [] [] [] Qa Tryz.func88 rfl Tryz.ntmps88 rfl Qa Qa Qa (Qg Qe ⟨[(0,I 5),qq 3],WK x3⟩ Qa (sG (xR 6 Qa (X8 160 (.agg [I 5,I x3.At]) Qa rfl Qa (ZO [] [] Qa (Kk (Zj (Zp (Zp (Zj (Kv ZG [] Qa Qa Qa)))))))))))))) (sK (Qk (ig yI l1_1 x3 l1_2 l1_3 l1_4 l1_5 yS yF yD h7_m h8_m l1_6) Qa (sS (YK Qe rfl (xR 6 Qa ?_)))))))
  refine Ze Qa Qa (Yk (kt:=9) (e:=4) (ke:=Q6) (ve:=Q7) (eq:=Qd) (b:=1010) (m:=l1_6) (k:=x3.Name) (v:=true) rfl Qa Qa Qa Qa Qa Qa QW (fun _ _=>Za rfl _ _)) ?_
  refine Yh Qa (Qk (ig yI l1_1 x3 l1_2 l1_3 l1_4 l1_5 yS yF yD h7_m h8_m (Qq Qd x3.Name true l1_6)) Qa (sG (xR 4 Qa (Yr ((KD yI l1_2 l1_3 l1_4 l1_5)++QQ yS yF yD h7_m h8_m++(K5 (Qq Qd x3.Name true l1_6))) [Ka, .agg [I x3.Kind,S x3.Name,I x3.N,I x3.At, .p (.sl 5 (mI x3.Kids))]] tK [] [] Qa Tryz.func83 rfl Tryz.ntmps83 rfl Qa Qa Qa (Qg Qe (kR x3 yI l1_2 l1_3 l1_4 l1_5 yS yF yD h7_m h8_m (Qq Qd x3.Name true l1_6)) Qa (sS (sG (xR 3 Qa ?_))))))))
  refine Gg nq8 [] [] Qa (Ar n x3 yI l1_2 l1_3 l1_4 l1_5 yS yF yD h7_m h8_m (Qq Qd x3.Name true l1_6)) Qa Qa Qa QW QW QW QW (fun r40=>?_) (fun e41=>?_)
  ·exact xR 1 Qa (xE (Qk ⟨[(0,Ka),(4,I r40)],KD yI l1_2 l1_3 l1_4 l1_5++QQ yS yF yD h7_m h8_m++K5 (Qq Qd x3.Name true l1_6)⟩ Qa (sL Qe Qa (Ww (.id) [1000,1001,1002,1003,1004,1005,1006,1007,1008,1009,1010] [] (.tup []) Qa Qa (Yq (xE (QT (Ky (k:=fun (j2_1,j2_2,j2_3,j2_4,j2_5)=>QP l1_1 recl1 j2_1 j2_2 j2_3 j2_4 j2_5) (l1_2,(⟨l1_3.Name,r40,l1_3.Rank,l1_3.Card⟩:Kq),(⟨l1_4.Name,l1_4.At,l1_4.Phases,l1_4.Min,l1_4.Max,l1_4.Step,l1_4.Fallback,r40⟩:ZL),l1_5,Qq Qd x3.Name true l1_6) Qa))))))))
  exact Kk (ZO [1000,1001,1002,1003,1004,1005,1006,1007,1008,1009,1010] [] Qa (Zj (Zp (Zp (Zj (Kv ZG [] Qa Qa Qa))))))
 refine xS (Q8 x3.Name [114,97,110,107]&&true) (fun h42=>?_) (fun h42=>?_)
 ·refine Ze Qa Qa (Ji (kt:=9) (e:=155) (b:=1011) (w:=x3.Name) (ok:=true) (es:=(U8 1012 1013 1014 1015 1016 1017 1018 1019 1020 1021)) (v:=.agg [.tsl 1 (List.map ci [4]) 1017,B false, .p (.val (.func (.func 85) #[] #[]))]) rfl Qa Qa Qa Qa Qa (Qx h5 (Qx h11 (Qx h17 (Qx h24 (Qx h33 (Qx h38 (Jh h42)))))))) (xR 6 Qa (xE (Qk ⟨Iq true yI l1_1,rD x3++KD yI l1_2 l1_3 l1_4 l1_5++QQ yS yF yD h7_m h8_m++K5 l1_6++Zl⟩ Qa (sS (sS (YK Qe rfl (xR 9 Qa ?_)))))))
  refine xC [.agg [.sl 1, .id, .id], .id] Qa (QF n [4] false yI.N (.func 85,#[],#[])) Qa Qa QW (fun r43=>?_)
  refine xR 2 Qa (Yh Qa (Qk ⟨Ir yI l1_1 (!r43),rD x3++KD yI l1_2 l1_3 l1_4 l1_5++QQ yS yF yD h7_m h8_m++K5 l1_6++Zl⟩ Qa (sC (!r43) Qa (sG (xR 1 Qa (Yr [] [I 9, .agg [I x3.Kind,S x3.Name,I x3.N,I x3.At, .p (.sl 5 (mI x3.Kids))]] [] [] [] Qa Tryz.func88 rfl Tryz.ntmps88 rfl Qa Qa Qa (Qg Qe ⟨[(0,I 9),qq 3],WK x3⟩ Qa (sG (xR 6 Qa (X8 160 (.agg [I 9,I x3.At]) Qa rfl Qa (ZO [] [] Qa (Kk (Zj (Zp (Zp (Zj (Kv ZG [] Qa Qa Qa)))))))))))))) (sK (Qk (ik yI l1_1 x3 l1_2 l1_3 l1_4 l1_5 yS yF yD h7_m h8_m l1_6) Qa (sS (sS (YK Qe rfl (xR 6 Qa ?_)))))))))
  refine Ze Qa Qa (Zx (kt:=9) (e:=4) (ke:=Q6) (ve:=Q7) (eq:=Qd) (b:=1010) (m:=l1_6) (k:=x3.Name) (z0:=false) rfl Qa Qa Qa Qa Qa QW (fun _ _=>Za rfl _ _) Qa) ?_
  refine Yh Qa (Qk ⟨qz yI l1_1 (QJ Qd x3.Name false l1_6),rD x3++KD yI l1_2 l1_3 l1_4 l1_5++QQ yS yF yD h7_m h8_m++K5 l1_6++Zl⟩ Qa (sC (QJ Qd x3.Name false l1_6) Qa (sG (xR 1 Qa (Yr [] [I 5, .agg [I x3.Kind,S x3.Name,I x3.N,I x3.At, .p (.sl 5 (mI x3.Kids))]] [] [] [] Qa Tryz.func88 rfl Tryz.ntmps88 rfl Qa Qa Qa (Qg Qe ⟨[(0,I 5),qq 3],WK x3⟩ Qa (sG (xR 6 Qa (X8 160 (.agg [I 5,I x3.At]) Qa rfl Qa (ZO [] [] Qa (Kk (Zj (Zp (Zp (Zj (Kv ZG [] Qa Qa Qa)))))))))))))) (sK (Qk (ik yI l1_1 x3 l1_2 l1_3 l1_4 l1_5 yS yF yD h7_m h8_m l1_6) Qa (sS (YK Qe rfl (xR 6 Qa ?_)))))))
  refine Ze Qa Qa (Yk (kt:=9) (e:=4) (ke:=Q6) (ve:=Q7) (eq:=Qd) (b:=1010) (m:=l1_6) (k:=x3.Name) (v:=true) rfl Qa Qa Qa Qa Qa Qa QW (fun _ _=>Za rfl _ _)) ?_
  refine Yh Qa (Qk (ik yI l1_1 x3 l1_2 l1_3 l1_4 l1_5 yS yF yD h7_m h8_m (Qq Qd x3.Name true l1_6)) Qa (sG (xR 4 Qa (Yr ((KD yI l1_2 l1_3 l1_4 l1_5)++QQ yS yF yD h7_m h8_m++(K5 (Qq Qd x3.Name true l1_6))) [Ka, .agg [I x3.Kind,S x3.Name,I x3.N,I x3.At, .p (.sl 5 (mI x3.Kids))]] tK [] [] Qa Tryz.func85 rfl Tryz.ntmps85 rfl Qa Qa Qa (Qg Qe (kR x3 yI l1_2 l1_3 l1_4 l1_5 yS yF yD h7_m h8_m (Qq Qd x3.Name true l1_6)) Qa (sG (xR 4 Qa ?_)))))))
  refine Fq [.id, .sl 2] Qa (ZU n x3 [(⟨1,9⟩:Kc)]) Qa Qa QW QW (fun r44=>?_) (fun e45=>?_)
  ·exact xG Qa Qa (QC (e:=3) (S:=1) (enc:=ci) (l:=r44) (k:=.i64) (n:=0) (sv:=.p (.sl 1 (List.map ci r44))) rfl Qa Qa Qa Qa Qa) (fun x46=>xR 5 Qa (xE (Ww (.id) [1000,1001,1002,1003,1004,1005,1006,1007,1008,1009,1010] [] (.tup []) Qa Qa (Yq (xE (QT (Ky (k:=fun (j2_1,j2_2,j2_3,j2_4,j2_5)=>QP l1_1 recl1 j2_1 j2_2 j2_3 j2_4 j2_5) (l1_2,(⟨l1_3.Name,l1_3.Owner,x46,l1_3.Card⟩:Kq),l1_4,l1_5,Qq Qd x3.Name true l1_6) Qa)))))))
  exact ZO [1000,1001,1002,1003,1004,1005,1006,1007,1008,1009,1010] [] Qa (Zj (Zp (Zp (Zj (Kv ZG [] Qa Qa Qa)))))
 refine xS (Q8 x3.Name [99,97,114,100]&&true) (fun h47=>?_) (fun h47=>?_)
 ·refine Ze Qa Qa (Ji (kt:=9) (e:=155) (b:=1011) (w:=x3.Name) (ok:=true) (es:=(U8 1012 1013 1014 1015 1016 1017 1018 1019 1020 1021)) (v:=.agg [.tsl 1 (List.map ci [4]) 1018,B false, .p (.val (.func (.func 87) #[] #[]))]) rfl Qa Qa Qa Qa Qa (Qx h5 (Qx h11 (Qx h17 (Qx h24 (Qx h33 (Qx h38 (Qx h42 (Jh h47))))))))) (xR 6 Qa (xE (Qk ⟨Iq true yI l1_1,rE x3++KD yI l1_2 l1_3 l1_4 l1_5++QQ yS yF yD h7_m h8_m++K5 l1_6++Zl⟩ Qa (sS (sS (YK Qe rfl (xR 9 Qa ?_)))))))
  refine xC [.agg [.sl 1, .id, .id], .id] Qa (QF n [4] false yI.N (.func 87,#[],#[])) Qa Qa QW (fun r48=>?_)
  refine xR 2 Qa (Yh Qa (Qk ⟨Ir yI l1_1 (!r48),rE x3++KD yI l1_2 l1_3 l1_4 l1_5++QQ yS yF yD h7_m h8_m++K5 l1_6++Zl⟩ Qa (sC (!r48) Qa (sG (xR 1 Qa (Yr [] [I 9, .agg [I x3.Kind,S x3.Name,I x3.N,I x3.At, .p (.sl 5 (mI x3.Kids))]] [] [] [] Qa Tryz.func88 rfl Tryz.ntmps88 rfl Qa Qa Qa (Qg Qe ⟨[(0,I 9),qq 3],WK x3⟩ Qa (sG (xR 6 Qa (X8 160 (.agg [I 9,I x3.At]) Qa rfl Qa (ZO [] [] Qa (Kk (Zj (Zp (Zp (Zj (Kv ZG [] Qa Qa Qa)))))))))))))) (sK (Qk (il yI l1_1 x3 l1_2 l1_3 l1_4 l1_5 yS yF yD h7_m h8_m l1_6) Qa (sS (sS (YK Qe rfl (xR 6 Qa ?_)))))))))
  refine Ze Qa Qa (Zx (kt:=9) (e:=4) (ke:=Q6) (ve:=Q7) (eq:=Qd) (b:=1010) (m:=l1_6) (k:=x3.Name) (z0:=false) rfl Qa Qa Qa Qa Qa QW (fun _ _=>Za rfl _ _) Qa) ?_
  refine Yh Qa (Qk ⟨qz yI l1_1 (QJ Qd x3.Name false l1_6),rE x3++KD yI l1_2 l1_3 l1_4 l1_5++QQ yS yF yD h7_m h8_m++K5 l1_6++Zl⟩ Qa (sC (QJ Qd x3.Name false l1_6) Qa (sG (xR 1 Qa (Yr [] [I 5, .agg [I x3.Kind,S x3.Name,I x3.N,I x3.At, .p (.sl 5 (mI x3.Kids))]] [] [] [] Qa Tryz.func88 rfl Tryz.ntmps88 rfl Qa Qa Qa (Qg Qe ⟨[(0,I 5),qq 3],WK x3⟩ Qa (sG (xR 6 Qa (X8 160 (.agg [I 5,I x3.At]) Qa rfl Qa (ZO [] [] Qa (Kk (Zj (Zp (Zp (Zj (Kv ZG [] Qa Qa Qa)))))))))))))) (sK (Qk (il yI l1_1 x3 l1_2 l1_3 l1_4 l1_5 yS yF yD h7_m h8_m l1_6) Qa (sS (YK Qe rfl (xR 6 Qa ?_)))))))
  refine Ze Qa Qa (Yk (kt:=9) (e:=4) (ke:=Q6) (ve:=Q7) (eq:=Qd) (b:=1010) (m:=l1_6) (k:=x3.Name) (v:=true) rfl Qa Qa Qa Qa Qa Qa QW (fun _ _=>Za rfl _ _)) ?_
  refine Yh Qa (Qk (il yI l1_1 x3 l1_2 l1_3 l1_4 l1_5 yS yF yD h7_m h8_m (Qq Qd x3.Name true l1_6)) Qa (sG (xR 4 Qa (Yr ((KD yI l1_2 l1_3 l1_4 l1_5)++QQ yS yF yD h7_m h8_m++(K5 (Qq Qd x3.Name true l1_6))) [Ka, .agg [I x3.Kind,S x3.Name,I x3.N,I x3.At, .p (.sl 5 (mI x3.Kids))]] tK [] [] Qa Tryz.func87 rfl Tryz.ntmps87 rfl Qa Qa Qa (Qg Qe (kR x3 yI l1_2 l1_3 l1_4 l1_5 yS yF yD h7_m h8_m (Qq Qd x3.Name true l1_6)) Qa (sS (sG (xR 4 Qa ?_))))))))
  refine Fq [.id, .sl 2] Qa (ZU n x3 [(⟨1,1000000⟩:Kc)]) Qa Qa QW QW (fun r49=>?_) (fun e50=>?_)
  rotate_left
  ·exact Kk (ZO [1000,1001,1002,1003,1004,1005,1006,1007,1008,1009,1010] [] Qa (Zj (Zp (Zp (Zj (Kv ZG [] Qa Qa Qa))))))
  refine xG Qa Qa (QC (e:=3) (S:=1) (enc:=ci) (l:=r49) (k:=.i64) (n:=0) (sv:=.p (.sl 1 (List.map ci r49))) rfl Qa Qa Qa Qa Qa) (fun x51=>xR 5 Qa (xE (Qk ⟨[(0,Ka),qq 3],WK x3++nI yI l1_2 l1_3 x51 l1_4 l1_5++QQ yS yF yD h7_m h8_m++K5 (Qq Qd x3.Name true l1_6)⟩ Qa (Qg Qe (rF yS 0 x3 yI l1_2 l1_3 x51 l1_4 l1_5 yF yD h7_m h8_m (Qq Qd x3.Name true l1_6)) Qa (sB (Qw (fun l52=>(rF yS l52 x3 yI l1_2 l1_3 x51 l1_4 l1_5 yF yD h7_m h8_m (Qq Qd x3.Name true l1_6)):Int→St) (Wq Qa) ?_))))))
  rintro recl52 l52
  show QU (Gy yS l1_1 l1_2 l1_3 l1_4 l1_5 l1_6 recl1 x3 x51 recl52 l52) _ _ _ _ _ _
  unfold Gy
  exact Qg Qe ⟨[(0,Ka),qq 3,(23, .tsl 4 (Fw yS.Contracts) 1004),(24,I (Qc (Fw yS.Contracts))),(25,I l52),(26,B (QL l52 (Qc (Fw yS.Contracts))))],WK x3++nI yI l1_2 l1_3 x51 l1_4 l1_5++QQ yS yF yD h7_m h8_m++K5 (Qq Qd x3.Name true l1_6)⟩ Qa (sS (sC (QL l52 (Qc (Fw yS.Contracts))) Qa (sK (Qk (rF yS l52 x3 yI l1_2 l1_3 x51 l1_4 l1_5 yF yD h7_m h8_m (Qq Qd x3.Name true l1_6)) Qa (sS (sB (sS (sG (xG Qa Qa (QC (e:=120) (S:=4) (enc:=Kq.cs) (l:=yS.Contracts) (k:=.i64) (n:=l52) (sv:=.tsl 4 (Fw yS.Contracts) 1004) rfl Qa Qa Qa Qa Qa) (fun x53=>xR 3 Qa (xE (Qk ⟨[(0,Ka),qq 3,qq 5,(23, .tsl 4 (Fw yS.Contracts) 1004),(24,I (Qc (Fw yS.Contracts))),(25,I l52)],[(3,Xl x3),(5,jl x53)]++nI yI l1_2 l1_3 x51 l1_4 l1_5++QQ yS yF yD h7_m h8_m++K5 (Qq Qd x3.Name true l1_6)⟩ Qa (Qg Qe ⟨[(0,Ka),qq 3,(23, .tsl 4 (Fw yS.Contracts) 1004),(24,I (Qc (Fw yS.Contracts))),(25,I l52),(36,B (Qs x53.Card x51))],WK x3++nI yI l1_2 l1_3 x51 l1_4 l1_5++QQ yS yF yD h7_m h8_m++K5 (Qq Qd x3.Name true l1_6)⟩ Qa (sC (Qs x53.Card x51) Qa (sG (xR 1 Qa (Yr [] [I 5, .agg [I x3.Kind,S x3.Name,I x3.N,I x3.At, .p (.sl 5 (mI x3.Kids))]] [] [] [] Qa Tryz.func88 rfl Tryz.ntmps88 rfl Qa Qa Qa (Qg Qe ⟨[(0,I 5),qq 3],WK x3⟩ Qa (sG (xR 6 Qa (X8 160 (.agg [I 5,I x3.At]) Qa rfl Qa (ZO [] [] Qa (Zj (Kk (Zp (Zj (ZO [1000,1001,1002,1003,1004,1005,1006,1007,1008,1009,1010] [] Qa (Zj (Zp (Zp (Zj (Kv ZG [] Qa Qa Qa)))))))))))))))))) (sK (QT (Qk (rF yS l52 x3 yI l1_2 l1_3 x51 l1_4 l1_5 yF yD h7_m h8_m (Qq Qd x3.Name true l1_6)) Qa (sL Qe Qa (Ky (wi (l52+1)) Qa))))))))))))))))) (Qm (Zu (ZP (QG (Ww (.id) [1000,1001,1002,1003,1004,1005,1006,1007,1008,1009,1010] [] (.tup []) Qa Qa (Yq (xE (QT (Ky (k:=fun (j2_1,j2_2,j2_3,j2_4,j2_5)=>QP l1_1 recl1 j2_1 j2_2 j2_3 j2_4 j2_5) (l1_2,(⟨l1_3.Name,l1_3.Owner,l1_3.Rank,x51⟩:Kq),l1_4,l1_5,Qq Qd x3.Name true l1_6) Qa)))))))))))
 refine xS (Q8 x3.Name [97,116]&&true) (fun h54=>?_) (fun h54=>?_)
 ·refine Ze Qa Qa (Ji (kt:=9) (e:=155) (b:=1011) (w:=x3.Name) (ok:=true) (es:=(U8 1012 1013 1014 1015 1016 1017 1018 1019 1020 1021)) (v:=.agg [.tsl 1 (List.map ci [5]) 1019,B false, .p (.val (.func (.func 89) #[] #[]))]) rfl Qa Qa Qa Qa Qa (Qx h5 (Qx h11 (Qx h17 (Qx h24 (Qx h33 (Qx h38 (Qx h42 (Qx h47 (Jh h54)))))))))) (xR 6 Qa (xE (Qk (iq yI l1_1 x3 (.func (.func 89) #[] #[]) l1_2 l1_3 l1_4 l1_5 yS yF yD h7_m h8_m l1_6) Qa (sS (sS (YK Qe rfl (xR 9 Qa ?_)))))))
  refine xC [.agg [.sl 1, .id, .id], .id] Qa (QF n [5] false yI.N (.func 89,#[],#[])) Qa Qa QW (fun r55=>?_)
  refine xR 2 Qa (Yh Qa (Qk (iw yI l1_1 (!r55) x3 (.func (.func 89) #[] #[]) l1_2 l1_3 l1_4 l1_5 yS yF yD h7_m h8_m l1_6) Qa (sC (!r55) Qa (sG (xR 1 Qa (Yr [] [I 9, .agg [I x3.Kind,S x3.Name,I x3.N,I x3.At, .p (.sl 5 (mI x3.Kids))]] [] [] [] Qa Tryz.func88 rfl Tryz.ntmps88 rfl Qa Qa Qa (Qg Qe ⟨[(0,I 9),qq 3],WK x3⟩ Qa (sG (xR 6 Qa (X8 160 (.agg [I 9,I x3.At]) Qa rfl Qa (ZO [] [] Qa (Kk (Zj (Zp (Zp (Zj (Kv ZG [] Qa Qa Qa)))))))))))))) (sK (Qk (qA yI l1_1 x3 (.func (.func 89) #[] #[]) l1_2 l1_3 l1_4 l1_5 yS yF yD h7_m h8_m l1_6) Qa (sS (sS (YK Qe rfl (xR 6 Qa ?_)))))))))
  refine Ze Qa Qa (Zx (kt:=9) (e:=4) (ke:=Q6) (ve:=Q7) (eq:=Qd) (b:=1010) (m:=l1_6) (k:=x3.Name) (z0:=false) rfl Qa Qa Qa Qa Qa QW (fun _ _=>Za rfl _ _) Qa) ?_
  refine Yh Qa (Qk (iy yI l1_1 (QJ Qd x3.Name false l1_6) x3 (.func (.func 89) #[] #[]) l1_2 l1_3 l1_4 l1_5 yS yF yD h7_m h8_m l1_6) Qa (sC (QJ Qd x3.Name false l1_6) Qa (sG (xR 1 Qa (Yr [] [I 5, .agg [I x3.Kind,S x3.Name,I x3.N,I x3.At, .p (.sl 5 (mI x3.Kids))]] [] [] [] Qa Tryz.func88 rfl Tryz.ntmps88 rfl Qa Qa Qa (Qg Qe ⟨[(0,I 5),qq 3],WK x3⟩ Qa (sG (xR 6 Qa (X8 160 (.agg [I 5,I x3.At]) Qa rfl Qa (ZO [] [] Qa (Kk (Zj (Zp (Zp (Zj (Kv ZG [] Qa Qa Qa)))))))))))))) (sK (Qk (qA yI l1_1 x3 (.func (.func 89) #[] #[]) l1_2 l1_3 l1_4 l1_5 yS yF yD h7_m h8_m l1_6) Qa (sS (YK Qe rfl (xR 6 Qa ?_)))))))
  refine Ze Qa Qa (Yk (kt:=9) (e:=4) (ke:=Q6) (ve:=Q7) (eq:=Qd) (b:=1010) (m:=l1_6) (k:=x3.Name) (v:=true) rfl Qa Qa Qa Qa Qa Qa QW (fun _ _=>Za rfl _ _)) ?_
  refine Yh Qa (Qk (qA yI l1_1 x3 (.func (.func 89) #[] #[]) l1_2 l1_3 l1_4 l1_5 yS yF yD h7_m h8_m (Qq Qd x3.Name true l1_6)) Qa (sG (xR 4 Qa (Yr ((KD yI l1_2 l1_3 l1_4 l1_5)++QQ yS yF yD h7_m h8_m++(K5 (Qq Qd x3.Name true l1_6))) [Ka, .agg [I x3.Kind,S x3.Name,I x3.N,I x3.At, .p (.sl 5 (mI x3.Kids))]] tK [] [] Qa Tryz.func89 rfl Tryz.ntmps89 rfl Qa Qa Qa (Qg Qe (kR x3 yI l1_2 l1_3 l1_4 l1_5 yS yF yD h7_m h8_m (Qq Qd x3.Name true l1_6)) Qa (sG (xR 4 Qa ?_)))))))
  refine Gg nq8 [] [] Qa (MK n x3 yI l1_2 l1_3 l1_4 l1_5 yS yF yD h7_m h8_m (Qq Qd x3.Name true l1_6)) Qa Qa Qa QW QW QW QW (fun r56=>?_) (fun e57=>?_)
  ·exact xR 4 Qa (xE (Ww (.id) [1000,1001,1002,1003,1004,1005,1006,1007,1008,1009,1010] [] (.tup []) Qa Qa (Yq (xE (QT (Ky (k:=fun (j2_1,j2_2,j2_3,j2_4,j2_5)=>QP l1_1 recl1 j2_1 j2_2 j2_3 j2_4 j2_5) (l1_2,l1_3,(⟨l1_4.Name,r56,l1_4.Phases,l1_4.Min,l1_4.Max,l1_4.Step,l1_4.Fallback,l1_4.Owner⟩:ZL),l1_5,Qq Qd x3.Name true l1_6) Qa))))))
  exact ZO [1000,1001,1002,1003,1004,1005,1006,1007,1008,1009,1010] [] Qa (Zj (Zp (Zp (Zj (Kv ZG [] Qa Qa Qa)))))
 refine xS (Q8 x3.Name [112,104,97,115,101,115]&&true) (fun h58=>?_) (fun h58=>?_)
 ·refine Ze Qa Qa (Ji (kt:=9) (e:=155) (b:=1011) (w:=x3.Name) (ok:=true) (es:=(U8 1012 1013 1014 1015 1016 1017 1018 1019 1020 1021)) (v:=.agg [.tsl 1 (List.map ci [5]) 1019,B false, .p (.val (.func (.func 90) #[] #[]))]) rfl Qa Qa Qa Qa Qa (Qx h5 (Qx h11 (Qx h17 (Qx h24 (Qx h33 (Qx h38 (Qx h42 (Qx h47 (Qx h54 (Jh h58))))))))))) (xR 6 Qa (xE (Qk (iq yI l1_1 x3 (.func (.func 90) #[] #[]) l1_2 l1_3 l1_4 l1_5 yS yF yD h7_m h8_m l1_6) Qa (sS (sS (YK Qe rfl (xR 9 Qa ?_)))))))
  refine xC [.agg [.sl 1, .id, .id], .id] Qa (QF n [5] false yI.N (.func 90,#[],#[])) Qa Qa QW (fun r59=>?_)
  refine xR 2 Qa (Yh Qa (Qk (iw yI l1_1 (!r59) x3 (.func (.func 90) #[] #[]) l1_2 l1_3 l1_4 l1_5 yS yF yD h7_m h8_m l1_6) Qa (sC (!r59) Qa (sG (xR 1 Qa (Yr [] [I 9, .agg [I x3.Kind,S x3.Name,I x3.N,I x3.At, .p (.sl 5 (mI x3.Kids))]] [] [] [] Qa Tryz.func88 rfl Tryz.ntmps88 rfl Qa Qa Qa (Qg Qe ⟨[(0,I 9),qq 3],WK x3⟩ Qa (sG (xR 6 Qa (X8 160 (.agg [I 9,I x3.At]) Qa rfl Qa (ZO [] [] Qa (Kk (Zj (Zp (Zp (Zj (Kv ZG [] Qa Qa Qa)))))))))))))) (sK (Qk (qA yI l1_1 x3 (.func (.func 90) #[] #[]) l1_2 l1_3 l1_4 l1_5 yS yF yD h7_m h8_m l1_6) Qa (sS (sS (YK Qe rfl (xR 6 Qa ?_)))))))))
  refine Ze Qa Qa (Zx (kt:=9) (e:=4) (ke:=Q6) (ve:=Q7) (eq:=Qd) (b:=1010) (m:=l1_6) (k:=x3.Name) (z0:=false) rfl Qa Qa Qa Qa Qa QW (fun _ _=>Za rfl _ _) Qa) ?_
  refine Yh Qa (Qk (iy yI l1_1 (QJ Qd x3.Name false l1_6) x3 (.func (.func 90) #[] #[]) l1_2 l1_3 l1_4 l1_5 yS yF yD h7_m h8_m l1_6) Qa (sC (QJ Qd x3.Name false l1_6) Qa (sG (xR 1 Qa (Yr [] [I 5, .agg [I x3.Kind,S x3.Name,I x3.N,I x3.At, .p (.sl 5 (mI x3.Kids))]] [] [] [] Qa Tryz.func88 rfl Tryz.ntmps88 rfl Qa Qa Qa (Qg Qe ⟨[(0,I 5),qq 3],WK x3⟩ Qa (sG (xR 6 Qa (X8 160 (.agg [I 5,I x3.At]) Qa rfl Qa (ZO [] [] Qa (Kk (Zj (Zp (Zp (Zj (Kv ZG [] Qa Qa Qa)))))))))))))) (sK (Qk (qA yI l1_1 x3 (.func (.func 90) #[] #[]) l1_2 l1_3 l1_4 l1_5 yS yF yD h7_m h8_m l1_6) Qa (sS (YK Qe rfl (xR 6 Qa ?_)))))))
  refine Ze Qa Qa (Yk (kt:=9) (e:=4) (ke:=Q6) (ve:=Q7) (eq:=Qd) (b:=1010) (m:=l1_6) (k:=x3.Name) (v:=true) rfl Qa Qa Qa Qa Qa Qa QW (fun _ _=>Za rfl _ _)) ?_
  refine Yh Qa (Qk (qA yI l1_1 x3 (.func (.func 90) #[] #[]) l1_2 l1_3 l1_4 l1_5 yS yF yD h7_m h8_m (Qq Qd x3.Name true l1_6)) Qa (sG (xR 4 Qa (Yr ((KD yI l1_2 l1_3 l1_4 l1_5)++QQ yS yF yD h7_m h8_m++(K5 (Qq Qd x3.Name true l1_6))) [Ka, .agg [I x3.Kind,S x3.Name,I x3.N,I x3.At, .p (.sl 5 (mI x3.Kids))]] tK [] [] Qa Tryz.func90 rfl Tryz.ntmps90 rfl Qa Qa Qa (Qg Qe (kR x3 yI l1_2 l1_3 l1_4 l1_5 yS yF yD h7_m h8_m (Qq Qd x3.Name true l1_6)) Qa (sG (xR 2 Qa ?_)))))))
  refine Fq [] Qa (NR n x3) Qa Qa QW QW (fun r60=>?_) (fun e61=>?_)
  ·exact xR 4 Qa (xE (Ww (.id) [1000,1001,1002,1003,1004,1005,1006,1007,1008,1009,1010] [] (.tup []) Qa Qa (Yq (xE (QT (Ky (k:=fun (j2_1,j2_2,j2_3,j2_4,j2_5)=>QP l1_1 recl1 j2_1 j2_2 j2_3 j2_4 j2_5) (l1_2,l1_3,(⟨l1_4.Name,l1_4.At,r60,l1_4.Min,l1_4.Max,l1_4.Step,l1_4.Fallback,l1_4.Owner⟩:ZL),l1_5,Qq Qd x3.Name true l1_6) Qa))))))
  exact ZO [1000,1001,1002,1003,1004,1005,1006,1007,1008,1009,1010] [] Qa (Zj (Zp (Zp (Zj (Kv ZG [] Qa Qa Qa)))))
 refine xS (Q8 x3.Name [97,109,112,115]&&true) (fun h62=>?_) (fun h62=>?_)
 ·refine Ze Qa Qa (Ji (kt:=9) (e:=155) (b:=1011) (w:=x3.Name) (ok:=true) (es:=(U8 1012 1013 1014 1015 1016 1017 1018 1019 1020 1021)) (v:=.agg [.tsl 1 (List.map ci [5]) 1019,B false, .fn (.func 92) [] [.ptr 1020 0]]) rfl Qa Qa Qa Qa Qa (Qx h5 (Qx h11 (Qx h17 (Qx h24 (Qx h33 (Qx h38 (Qx h42 (Qx h47 (Qx h54 (Qx h58 (Jh h62)))))))))))) (xR 6 Qa (xE (Qk ⟨Iq true yI l1_1,rH x3++KD yI l1_2 l1_3 l1_4 l1_5++QQ yS yF yD h7_m h8_m++K5 l1_6++Zl⟩ Qa (sS (sS (YK Qe rfl (xR 9 Qa (U7 rfl Qa Qa (Yj (f:=135) (args:=[.agg [.tsl 1 (List.map ci [5]) 1019,B false, .fn (.func 92) [] [.ptr 1020 0]],I yI.N]) Qa Qa Qa (Ai 2 rfl (fun hw63=>?_)))))))))))
  refine BG [.agg [.sl 1, .id, .id], .id] (QF n [5] false yI.N hw63) Qa Qa QW (fun r64=>?_)
  refine Yq (xR 2 Qa (xE (Qk ⟨Ir yI l1_1 (!r64),rH x3++KD yI l1_2 l1_3 l1_4 l1_5++QQ yS yF yD h7_m h8_m++K5 l1_6++Zl⟩ Qa (sC (!r64) Qa (sG (xR 1 Qa (Yr [] [I 9, .agg [I x3.Kind,S x3.Name,I x3.N,I x3.At, .p (.sl 5 (mI x3.Kids))]] [] [] [] Qa Tryz.func88 rfl Tryz.ntmps88 rfl Qa Qa Qa (Qg Qe ⟨[(0,I 9),qq 3],WK x3⟩ Qa (sG (xR 6 Qa (X8 160 (.agg [I 9,I x3.At]) Qa rfl Qa (ZO [] [] Qa (Kk (Zj (Zp (Zp (Zj (Kv ZG [] Qa Qa Qa)))))))))))))) (sK (Qk (iA yI l1_1 x3 l1_2 l1_3 l1_4 l1_5 yS yF yD h7_m h8_m l1_6) Qa (sS (sS (YK Qe rfl (xR 6 Qa ?_))))))))))
  refine Ze Qa Qa (Zx (kt:=9) (e:=4) (ke:=Q6) (ve:=Q7) (eq:=Qd) (b:=1010) (m:=l1_6) (k:=x3.Name) (z0:=false) rfl Qa Qa Qa Qa Qa QW (fun _ _=>Za rfl _ _) Qa) ?_
  refine Yh Qa (Qk ⟨qz yI l1_1 (QJ Qd x3.Name false l1_6),rH x3++KD yI l1_2 l1_3 l1_4 l1_5++QQ yS yF yD h7_m h8_m++K5 l1_6++Zl⟩ Qa (sC (QJ Qd x3.Name false l1_6) Qa (sG (xR 1 Qa (Yr [] [I 5, .agg [I x3.Kind,S x3.Name,I x3.N,I x3.At, .p (.sl 5 (mI x3.Kids))]] [] [] [] Qa Tryz.func88 rfl Tryz.ntmps88 rfl Qa Qa Qa (Qg Qe ⟨[(0,I 5),qq 3],WK x3⟩ Qa (sG (xR 6 Qa (X8 160 (.agg [I 5,I x3.At]) Qa rfl Qa (ZO [] [] Qa (Kk (Zj (Zp (Zp (Zj (Kv ZG [] Qa Qa Qa)))))))))))))) (sK (Qk (iA yI l1_1 x3 l1_2 l1_3 l1_4 l1_5 yS yF yD h7_m h8_m l1_6) Qa (sS (YK Qe rfl (xR 6 Qa ?_)))))))
  refine Ze Qa Qa (Yk (kt:=9) (e:=4) (ke:=Q6) (ve:=Q7) (eq:=Qd) (b:=1010) (m:=l1_6) (k:=x3.Name) (v:=true) rfl Qa Qa Qa Qa Qa Qa QW (fun _ _=>Za rfl _ _)) ?_
  refine Yh Qa (Qk (iA yI l1_1 x3 l1_2 l1_3 l1_4 l1_5 yS yF yD h7_m h8_m (Qq Qd x3.Name true l1_6)) Qa (sG (xR 4 Qa (Yr ((KD yI l1_2 l1_3 l1_4 l1_5)++QQ yS yF yD h7_m h8_m++(vV (Qq Qd x3.Name true l1_6) 80)) [Ka, .agg [I x3.Kind,S x3.Name,I x3.N,I x3.At, .p (.sl 5 (mI x3.Kids))], .ptr 1011 0] [(1000,1000),(1001,1001),(1002,1002),(1003,1003),(1004,1004),(1005,1005),(1006,1006),(1007,1007),(1008,1008),(1009,1009),(1010,1010),(1011,1020)] [] [] Qa Tryz.func92 rfl Tryz.ntmps92 rfl Qa Qa Qa (Qg Qe (ry x3 yI l1_2 l1_3 l1_4 l1_5 yS yF yD h7_m h8_m (Qq Qd x3.Name true l1_6) 80) Qa (sS (sG (xR 5 Qa ?_))))))))
  refine Fq [.id, .sl 2] Qa (ZU n x3 [(⟨1,80⟩:Kc),(⟨1,80⟩:Kc),(⟨1,80⟩:Kc)]) Qa Qa QW QW (fun r65=>?_) (fun e66=>?_)
  rotate_left
  ·exact Kk (ZO [1000,1001,1002,1003,1004,1005,1006,1007,1008,1009,1010,1011] [] Qa (Zj (Zp (Zp (Zj (Kv ZG [] Qa Qa Qa))))))
  exact xR 1 Qa (xE (Qk ⟨Qbo r65,KD yI l1_2 l1_3 l1_4 l1_5++QQ yS yF yD h7_m h8_m++vV (Qq Qd x3.Name true l1_6) 80⟩ Qa (YK Qe rfl (xR 4 Qa (xG Qa Qa (QC (e:=3) (S:=1) (enc:=ci) (l:=r65) (k:=.i64) (n:=0) (sv:=.p (.sl 1 (List.map ci r65))) rfl Qa Qa Qa Qa Qa) (fun x67=>xR 2 Qa (xG Qa Qa (QC (e:=3) (S:=1) (enc:=ci) (l:=r65) (k:=.i64) (n:=1) (sv:=.p (.sl 1 (List.map ci r65))) rfl Qa Qa Qa Qa Qa) (fun x68=>xR 2 Qa (xG Qa Qa (QC (e:=3) (S:=1) (enc:=ci) (l:=r65) (k:=.i64) (n:=2) (sv:=.p (.sl 1 (List.map ci r65))) rfl Qa Qa Qa Qa Qa) (fun x69=>xR 13 Qa (Yh Qa (Ww (.id) [1000,1001,1002,1003,1004,1005,1006,1007,1008,1009,1010,1011] [] (.tup []) Qa Qa (Yq (xE (QT (Ky (k:=fun (j2_1,j2_2,j2_3,j2_4,j2_5)=>QP l1_1 recl1 j2_1 j2_2 j2_3 j2_4 j2_5) (l1_2,l1_3,(⟨l1_4.Name,l1_4.At,l1_4.Phases,x67,x68,x69,l1_4.Fallback,l1_4.Owner⟩:ZL),l1_5,Qq Qd x3.Name true l1_6) Qa))))))))))))))))
 refine xS (Q8 x3.Name [102,97,108,108,98,97,99,107]&&true) (fun h70=>?_) (fun h70=>?_)
 ·refine Ze Qa Qa (Ji (kt:=9) (e:=155) (b:=1011) (w:=x3.Name) (ok:=true) (es:=(U8 1012 1013 1014 1015 1016 1017 1018 1019 1020 1021)) (v:=.agg [.tsl 1 (List.map ci [5]) 1019,B false, .p (.val (.func (.func 93) #[] #[]))]) rfl Qa Qa Qa Qa Qa (Qx h5 (Qx h11 (Qx h17 (Qx h24 (Qx h33 (Qx h38 (Qx h42 (Qx h47 (Qx h54 (Qx h58 (Qx h62 (Jh h70))))))))))))) (xR 6 Qa (xE (Qk (iq yI l1_1 x3 (.func (.func 93) #[] #[]) l1_2 l1_3 l1_4 l1_5 yS yF yD h7_m h8_m l1_6) Qa (sS (sS (YK Qe rfl (xR 9 Qa ?_)))))))
  refine xC [.agg [.sl 1, .id, .id], .id] Qa (QF n [5] false yI.N (.func 93,#[],#[])) Qa Qa QW (fun r71=>?_)
  refine xR 2 Qa (Yh Qa (Qk (iw yI l1_1 (!r71) x3 (.func (.func 93) #[] #[]) l1_2 l1_3 l1_4 l1_5 yS yF yD h7_m h8_m l1_6) Qa (sC (!r71) Qa (sG (xR 1 Qa (Yr [] [I 9, .agg [I x3.Kind,S x3.Name,I x3.N,I x3.At, .p (.sl 5 (mI x3.Kids))]] [] [] [] Qa Tryz.func88 rfl Tryz.ntmps88 rfl Qa Qa Qa (Qg Qe ⟨[(0,I 9),qq 3],WK x3⟩ Qa (sG (xR 6 Qa (X8 160 (.agg [I 9,I x3.At]) Qa rfl Qa (ZO [] [] Qa (Kk (Zj (Zp (Zp (Zj (Kv ZG [] Qa Qa Qa)))))))))))))) (sK (Qk (qA yI l1_1 x3 (.func (.func 93) #[] #[]) l1_2 l1_3 l1_4 l1_5 yS yF yD h7_m h8_m l1_6) Qa (sS (sS (YK Qe rfl (xR 6 Qa ?_)))))))))
  refine Ze Qa Qa (Zx (kt:=9) (e:=4) (ke:=Q6) (ve:=Q7) (eq:=Qd) (b:=1010) (m:=l1_6) (k:=x3.Name) (z0:=false) rfl Qa Qa Qa Qa Qa QW (fun _ _=>Za rfl _ _) Qa) ?_
  refine Yh Qa (Qk (iy yI l1_1 (QJ Qd x3.Name false l1_6) x3 (.func (.func 93) #[] #[]) l1_2 l1_3 l1_4 l1_5 yS yF yD h7_m h8_m l1_6) Qa (sC (QJ Qd x3.Name false l1_6) Qa (sG (xR 1 Qa (Yr [] [I 5, .agg [I x3.Kind,S x3.Name,I x3.N,I x3.At, .p (.sl 5 (mI x3.Kids))]] [] [] [] Qa Tryz.func88 rfl Tryz.ntmps88 rfl Qa Qa Qa (Qg Qe ⟨[(0,I 5),qq 3],WK x3⟩ Qa (sG (xR 6 Qa (X8 160 (.agg [I 5,I x3.At]) Qa rfl Qa (ZO [] [] Qa (Kk (Zj (Zp (Zp (Zj (Kv ZG [] Qa Qa Qa)))))))))))))) (sK (Qk (qA yI l1_1 x3 (.func (.func 93) #[] #[]) l1_2 l1_3 l1_4 l1_5 yS yF yD h7_m h8_m l1_6) Qa (sS (YK Qe rfl (xR 6 Qa ?_)))))))
  refine Ze Qa Qa (Yk (kt:=9) (e:=4) (ke:=Q6) (ve:=Q7) (eq:=Qd) (b:=1010) (m:=l1_6) (k:=x3.Name) (v:=true) rfl Qa Qa Qa Qa Qa Qa QW (fun _ _=>Za rfl _ _)) ?_
  refine Yh Qa (Qk (qA yI l1_1 x3 (.func (.func 93) #[] #[]) l1_2 l1_3 l1_4 l1_5 yS yF yD h7_m h8_m (Qq Qd x3.Name true l1_6)) Qa (sG (xR 4 Qa (Yr ((KD yI l1_2 l1_3 l1_4 l1_5)++QQ yS yF yD h7_m h8_m++(K5 (Qq Qd x3.Name true l1_6))) [Ka, .agg [I x3.Kind,S x3.Name,I x3.N,I x3.At, .p (.sl 5 (mI x3.Kids))]] tK [] [] Qa Tryz.func93 rfl Tryz.ntmps93 rfl Qa Qa Qa (Qg Qe (kR x3 yI l1_2 l1_3 l1_4 l1_5 yS yF yD h7_m h8_m (Qq Qd x3.Name true l1_6)) Qa (sG (xR 4 Qa ?_)))))))
  refine Fq [.id, .sl 2] Qa (ZU n x3 [(⟨0,80⟩:Kc)]) Qa Qa QW QW (fun r72=>?_) (fun e73=>?_)
  ·exact xG Qa Qa (QC (e:=3) (S:=1) (enc:=ci) (l:=r72) (k:=.i64) (n:=0) (sv:=.p (.sl 1 (List.map ci r72))) rfl Qa Qa Qa Qa Qa) (fun x74=>xR 5 Qa (xE (Ww (.id) [1000,1001,1002,1003,1004,1005,1006,1007,1008,1009,1010] [] (.tup []) Qa Qa (Yq (xE (QT (Ky (k:=fun (j2_1,j2_2,j2_3,j2_4,j2_5)=>QP l1_1 recl1 j2_1 j2_2 j2_3 j2_4 j2_5) (l1_2,l1_3,(⟨l1_4.Name,l1_4.At,l1_4.Phases,l1_4.Min,l1_4.Max,l1_4.Step,x74,l1_4.Owner⟩:ZL),l1_5,Qq Qd x3.Name true l1_6) Qa)))))))
  exact ZO [1000,1001,1002,1003,1004,1005,1006,1007,1008,1009,1010] [] Qa (Zj (Zp (Zp (Zj (Kv ZG [] Qa Qa Qa)))))
 refine xS (Q8 x3.Name [99,104,97,114,103,101,114]&&true) (fun h75=>Ze Qa Qa (Ji (kt:=9) (e:=155) (b:=1011) (w:=x3.Name) (ok:=true) (es:=(U8 1012 1013 1014 1015 1016 1017 1018 1019 1020 1021)) (v:=.agg [.tsl 1 (List.map ci [6]) 1021,B false, .p (.val (.func (.func 94) #[] #[]))]) rfl Qa Qa Qa Qa Qa (Qx h5 (Qx h11 (Qx h17 (Qx h24 (Qx h33 (Qx h38 (Qx h42 (Qx h47 (Qx h54 (Qx h58 (Qx h62 (Qx h70 (Jh h75)))))))))))))) (xR 6 Qa (xE (Qk ⟨Iq true yI l1_1,rJ x3++KD yI l1_2 l1_3 l1_4 l1_5++QQ yS yF yD h7_m h8_m++K5 l1_6++Zl⟩ Qa (sS (sS (YK Qe rfl (xR 9 Qa ?_)))))))) (fun h75=>Ze Qa Qa (dx (kt:=9) (e:=155) (b:=1011) (w:=x3.Name) (ok:=true) (es:=(U8 1012 1013 1014 1015 1016 1017 1018 1019 1020 1021)) (z:=.agg #[.slice none 0 0, .bool false, .nilFunc]) rfl Qa Qa Qa Qa Qa Qa (Qx h5 (Qx h11 (Qx h17 (Qx h24 (Qx h33 (Qx h38 (Qx h42 (Qx h47 (Qx h54 (Qx h58 (Qx h62 (Qx h70 (Qx h75 (dw))))))))))))))) (xR 6 Qa (xE (Qk ⟨Iq false yI l1_1,Qby x3++KD yI l1_2 l1_3 l1_4 l1_5++QQ yS yF yD h7_m h8_m++K5 l1_6++Zl⟩ Qa (sS (Qg Qe ⟨Ir yI l1_1 true,Qby x3++KD yI l1_2 l1_3 l1_4 l1_5++QQ yS yF yD h7_m h8_m++K5 l1_6++Zl⟩ Qa (Q3 Qa (sG (xR 1 Qa (Yr [] [I 9, .agg [I x3.Kind,S x3.Name,I x3.N,I x3.At, .p (.sl 5 (mI x3.Kids))]] [] [] [] Qa Tryz.func88 rfl Tryz.ntmps88 rfl Qa Qa Qa (Qg Qe ⟨[(0,I 9),qq 3],WK x3⟩ Qa (sG (xR 6 Qa (X8 160 (.agg [I 9,I x3.At]) Qa rfl Qa (ZO [] [] Qa (Kk (Zj (Zp (Zp (Zj (Kv ZG [] Qa Qa Qa)))))))))))))))))))))
 refine xC [.agg [.sl 1, .id, .id], .id] Qa (QF n [6] false yI.N (.func 94,#[],#[])) Qa Qa QW (fun r76=>?_)
 refine xR 2 Qa (Yh Qa (Qk ⟨Ir yI l1_1 (!r76),rJ x3++KD yI l1_2 l1_3 l1_4 l1_5++QQ yS yF yD h7_m h8_m++K5 l1_6++Zl⟩ Qa (sC (!r76) Qa (sG (xR 1 Qa (Yr [] [I 9, .agg [I x3.Kind,S x3.Name,I x3.N,I x3.At, .p (.sl 5 (mI x3.Kids))]] [] [] [] Qa Tryz.func88 rfl Tryz.ntmps88 rfl Qa Qa Qa (Qg Qe ⟨[(0,I 9),qq 3],WK x3⟩ Qa (sG (xR 6 Qa (X8 160 (.agg [I 9,I x3.At]) Qa rfl Qa (ZO [] [] Qa (Kk (Zj (Zp (Zp (Zj (Kv ZG [] Qa Qa Qa)))))))))))))) (sK (Qk (iB yI l1_1 x3 l1_2 l1_3 l1_4 l1_5 yS yF yD h7_m h8_m l1_6) Qa (sS (sS (YK Qe rfl (xR 6 Qa ?_)))))))))
 refine Ze Qa Qa (Zx (kt:=9) (e:=4) (ke:=Q6) (ve:=Q7) (eq:=Qd) (b:=1010) (m:=l1_6) (k:=x3.Name) (z0:=false) rfl Qa Qa Qa Qa Qa QW (fun _ _=>Za rfl _ _) Qa) ?_
 refine Yh Qa (Qk ⟨qz yI l1_1 (QJ Qd x3.Name false l1_6),rJ x3++KD yI l1_2 l1_3 l1_4 l1_5++QQ yS yF yD h7_m h8_m++K5 l1_6++Zl⟩ Qa (sC (QJ Qd x3.Name false l1_6) Qa (sG (xR 1 Qa (Yr [] [I 5, .agg [I x3.Kind,S x3.Name,I x3.N,I x3.At, .p (.sl 5 (mI x3.Kids))]] [] [] [] Qa Tryz.func88 rfl Tryz.ntmps88 rfl Qa Qa Qa (Qg Qe ⟨[(0,I 5),qq 3],WK x3⟩ Qa (sG (xR 6 Qa (X8 160 (.agg [I 5,I x3.At]) Qa rfl Qa (ZO [] [] Qa (Kk (Zj (Zp (Zp (Zj (Kv ZG [] Qa Qa Qa)))))))))))))) (sK (Qk (iB yI l1_1 x3 l1_2 l1_3 l1_4 l1_5 yS yF yD h7_m h8_m l1_6) Qa (sS (YK Qe rfl (xR 6 Qa ?_)))))))
 refine Ze Qa Qa (Yk (kt:=9) (e:=4) (ke:=Q6) (ve:=Q7) (eq:=Qd) (b:=1010) (m:=l1_6) (k:=x3.Name) (v:=true) rfl Qa Qa Qa Qa Qa Qa QW (fun _ _=>Za rfl _ _)) ?_
 refine Yh Qa (Qk (iB yI l1_1 x3 l1_2 l1_3 l1_4 l1_5 yS yF yD h7_m h8_m (Qq Qd x3.Name true l1_6)) Qa (sG (xR 4 Qa (Yr ((KD yI l1_2 l1_3 l1_4 l1_5)++QQ yS yF yD h7_m h8_m++(K5 (Qq Qd x3.Name true l1_6))) [Ka, .agg [I x3.Kind,S x3.Name,I x3.N,I x3.At, .p (.sl 5 (mI x3.Kids))]] tK [] [] Qa Tryz.func94 rfl Tryz.ntmps94 rfl Qa Qa Qa (Qg Qe (kR x3 yI l1_2 l1_3 l1_4 l1_5 yS yF yD h7_m h8_m (Qq Qd x3.Name true l1_6)) Qa (sG (xR 4 Qa ?_)))))))
 refine Gg nq8 [] [] Qa (Av n x3 yI l1_2 l1_3 l1_4 l1_5 yS yF yD h7_m h8_m (Qq Qd x3.Name true l1_6)) Qa Qa Qa QW QW QW QW (fun r77=>?_) (fun e78=>?_)
 ·exact xR 4 Qa (xE (Ww (.id) [1000,1001,1002,1003,1004,1005,1006,1007,1008,1009,1010] [] (.tup []) Qa Qa (Yq (xE (QT (Ky (k:=fun (j2_1,j2_2,j2_3,j2_4,j2_5)=>QP l1_1 recl1 j2_1 j2_2 j2_3 j2_4 j2_5) (l1_2,l1_3,l1_4,(⟨l1_5.Name,r77⟩:Zt),Qq Qd x3.Name true l1_6) Qa))))))
 exact ZO [1000,1001,1002,1003,1004,1005,1006,1007,1008,1009,1010] [] Qa (Zj (Zp (Zp (Zj (Kv ZG [] Qa Qa Qa)))))
def VL (n:Nat) (a0c:KN):Option Bool :=
 some (QL a0c.Ambient a0c.Most)
def vW:=fun x0=>([(1, .box 52 (Kw (KN.cs x0)))]:List (Nat × Blk))
theorem U2 (n:Nat) (a0c:KN):∀ r,VL n a0c=some r→Q0 Tryz.prog 136 [ag (KN.cs a0c)] (.ret (B r)):=by
 refine Qp Tryz.func136 rfl Tryz.ntmps136 rfl ?_
 unfold VL
 exact Qg Qe ⟨[qq 1],vW a0c⟩ Qa (Qg Qe ⟨[(2,B (QL a0c.Ambient a0c.Most))],[]⟩ Qa (sT (qR (.id) Qa Qa Qa)))
def Y5 (n:Nat) (a0c:ZL):Option Bool :=
 cond (leI a0c.Min a0c.Max)
  (cond (Qs a0c.Fallback 0)
   (some true)
   (cond (leI a0c.Min a0c.Fallback)
    (some (leI a0c.Fallback a0c.Max))
    (some false)))
  (some false)
def QbA:=fun x0=>(⟨[(1, .ptr 1 0)],[(1, .box 32 (Kw (ZL.cs x0)))]⟩:St)
theorem Xb (n:Nat) (a0c:ZL):∀ r,Y5 n a0c=some r→Q0 Tryz.prog 137 [ag (ZL.cs a0c)] (.ret (B r)):=by
 refine Qp Tryz.func137 rfl Tryz.ntmps137 rfl ?_
 unfold Y5
 exact Qg Qe (QbA a0c) Qa (sS (sG (xR 6 Qa (xS (leI a0c.Min a0c.Max) (fun h1=>xO (Qt Qa h1) Qa (xR 3 Qa (xS (Qs a0c.Fallback 0) (fun h2=>xN (QB Qa h2) Qa (xR 14 Qa (xE (Qk ⟨[(2,B true)],[]⟩ Qa (sT (qR (.id) Qa Qa Qa)))))) (fun h2=>xO (QA Qa h2) Qa (xR 5 Qa (xS (leI a0c.Min a0c.Fallback) (fun h3=>xO (Qt Qa h3) Qa (xR 8 Qa (xE (Qk ⟨[(2,B (leI a0c.Fallback a0c.Max))],[]⟩ Qa (sT (qR (.id) Qa Qa Qa)))))) (fun h3=>xN (Qu Qa h3) Qa (xR 8 Qa (xE (Qk ⟨[(2,B false)],[]⟩ Qa (sT (qR (.id) Qa Qa Qa)))))))))))) (fun h1=>xN (Qu Qa h1) Qa (xR 18 Qa (xE (Qk ⟨[(2,B false)],[]⟩ Qa (sT (qR (.id) Qa Qa Qa))))))))))
def Ej (yI:GN) (yC:ZI) (yK:Kq) (yG:ZL) (yB:Zt) (yS:Qj) (yF:Bool) (yD:List KG) (h7_m:List ((List UInt8) × Bool)) (h8_m:List ((List UInt8) × KP)) (h10_m:List ((List UInt8) × Bool)):List (Nat × Blk):=[(1000, .box 152 ([.ptr 1001 0]++Kw (GN.cs yI)++[.mv 1010]++Kw (ZI.cs yC)++Kw (Kq.cs yK)++Kw (ZL.cs yG)++[S yB.Name,I yB.Charger])),(1001, .box 113 [.tsl 11 (List.map ZI.cs yS.Conductors) 1002, .tsl 1 (List.map Zf.cs yS.Owners) 1003, .tsl 4 (List.map Kq.cs yS.Contracts) 1004, .tsl 8 (List.map ZL.cs yS.Chargers) 1005, .tsl 2 (List.map Zt.cs yS.Bays) 1006, .mv 1007,B yF, .mv 1008, .tsl 2 (List.map KG.cs yD) 1009]),(1002, .arr 54 11 (List.map ZI.cs yS.Conductors).length),(1003, .arr 166 1 (List.map Zf.cs yS.Owners).length),(1004, .arr 120 4 (List.map Kq.cs yS.Contracts).length),(1005, .arr 32 8 (List.map ZL.cs yS.Chargers).length),(1006, .arr 123 2 (List.map Zt.cs yS.Bays).length),(1007, .mp (JH Q6 Q7 h7_m)),(1008, .mp (JH VH VJ h8_m)),(1009, .arr 99 2 (List.map KG.cs yD).length),(1010, .mp (JH Q6 Q7 h10_m)),(1011, .mf (U8 1012 1013 1014 1015 1016 1017 1018 1019 1020 1021)),(1012, .arr 3 1 (List.map ci [1,2]).length),(1013, .box 148 [I 1,I 1000]),(1014, .arr 3 1 (List.map ci [2]).length),(1015, .box 29 [.tsl 1 (List.map ci [1,2]) 1012]),(1016, .arr 3 1 (List.map ci [4,5]).length),(1017, .arr 3 1 (List.map ci [4]).length),(1018, .arr 3 1 (List.map ci [4]).length),(1019, .arr 3 1 (List.map ci [5]).length),(1020, .box 148 [I 1,I 80]),(1021, .arr 3 1 (List.map ci [6]).length)]
def Yl:List Nat:=[1000,1001,1002,1003,1004,1005,1006,1007,1008,1009,1010,1011,1012,1013,1014,1015,1016,1017,1018,1019,1020,1021]
def JR (n:Nat) (yI:GN) (yC:ZI) (yG:ZL) (h10_m:List ((List UInt8) × Bool)):Option (Except (Int × Int) Unit) :=
 (cond (QJ Qd [116,104,101,114,109,97,108] false h10_m)
  ((VL n yC.Cable).bind fun r4 =>
  cond (!r4)
   (some true)
   (cond (Qs yI.N 5)
    ((Y5 n yG).bind fun r7 =>
    some (!r7))
    (some false)))
  (cond (Qs yI.N 5)
   ((Y5 n yG).bind fun r9 =>
   some (!r9))
   (some false))).bind fun j2 =>
 cond j2
  (some (.error (3,yI.At)))
  (some (.ok ()))
def CP (n:Nat) (yI:GN) (yC:ZI) (yK:Kq) (yG:ZL) (yB:Zt) (yS:Qj) (yF:Bool) (yD:List KG) (h7_m:List ((List UInt8) × Bool)) (h8_m:List ((List UInt8) × KP)) (h10_m:List ((List UInt8) × Bool)):Option (Except (Int × Int) Unit) :=
 nk (some (.error (4,yI.At))) (JR n yI yC yG h10_m) [(fun q16 =>
  ((QS n [1,2] false yI.N).bind fun r20 =>
  cond r20
   (some (!(QJ Qd [108,105,109,105,116] false h10_m)))
   (some false)).bind fun j19 =>
  cond j19
   (some (.error (4,yI.At)))
   q16),(fun q23 =>
  ((QS n [1,2] false yI.N).bind fun r27 =>
  cond r27
   (some (!(QJ Qd [110,101,117,116,114,97,108] false h10_m)))
   (some false)).bind fun j26 =>
  cond j26
   (some (.error (4,yI.At)))
   q23),(fun q30 =>
  ((QS n [1,2] true yI.N).bind fun r34 =>
  cond r34
   (some ())
   (some ())).bind fun _ =>
  q30),(fun q37 =>
  ((QS n [1,2] true yI.N).bind fun r40 =>
  cond r40
   (some ())
   (some ())).bind fun _ =>
  q37),(fun q43 =>
  ((QS n [2] false yI.N).bind fun r47 =>
  cond r47
   (some (!(QJ Qd [102,114,111,109] false h10_m)))
   (some false)).bind fun j46 =>
  cond j46
   (some (.error (4,yI.At)))
   q43),(fun q50 =>
  ((QS n [4,5] false yI.N).bind fun r53 =>
  cond r53
   (some (!(QJ Qd [111,119,110,101,114] false h10_m)))
   (some false)).bind fun j52 =>
  cond j52
   (some (.error (4,yI.At)))
   q50),(fun q56 =>
  ((QS n [4] false yI.N).bind fun r59 =>
  cond r59
   (some (!(QJ Qd [114,97,110,107] false h10_m)))
   (some false)).bind fun j58 =>
  cond j58
   (some (.error (4,yI.At)))
   q56),(fun q62 =>
  ((QS n [4] false yI.N).bind fun r65 =>
  cond r65
   (some (!(QJ Qd [99,97,114,100] false h10_m)))
   (some false)).bind fun j64 =>
  cond j64
   (some (.error (4,yI.At)))
   q62),(fun q68 =>
  ((QS n [5] false yI.N).bind fun r71 =>
  cond r71
   (some (!(QJ Qd [97,116] false h10_m)))
   (some false)).bind fun j70 =>
  cond j70
   (some (.error (4,yI.At)))
   q68),(fun q74 =>
  ((QS n [5] false yI.N).bind fun r77 =>
  cond r77
   (some (!(QJ Qd [112,104,97,115,101,115] false h10_m)))
   (some false)).bind fun j76 =>
  cond j76
   (some (.error (4,yI.At)))
   q74),(fun q80 =>
  ((QS n [5] false yI.N).bind fun r84 =>
  cond r84
   (some (!(QJ Qd [97,109,112,115] false h10_m)))
   (some false)).bind fun j83 =>
  cond j83
   (some (.error (4,yI.At)))
   q80),(fun q87 =>
  ((QS n [5] false yI.N).bind fun r90 =>
  cond r90
   (some (!(QJ Qd [102,97,108,108,98,97,99,107] false h10_m)))
   (some false)).bind fun j89 =>
  cond j89
   (some (.error (4,yI.At)))
   q87),(fun q93 =>
  ((QS n [6] false yI.N).bind fun r96 =>
  cond r96
   (some (!(QJ Qd [99,104,97,114,103,101,114] false h10_m)))
   (some false)).bind fun j95 =>
  cond j95
   (some (.error (4,yI.At)))
   q93)]
def qB (yI:GN) (yC:ZI) (yK:Kq) (yG:ZL) (yB:Zt) (yS:Qj) (yF:Bool) (yD:List KG) (h7_m:List ((List UInt8) × Bool)) (h8_m:List ((List UInt8) × KP)) (h10_m:List ((List UInt8) × Bool)):List (Nat × Blk):=Ej yI yC yK yG yB yS yF yD h7_m h8_m h10_m
def Qc4:=fun x0 x1 x2=>(.box 113 [.tsl 11 (List.map ZI.cs (Qj.Conductors x0)) 1002, .tsl 1 (List.map Zf.cs (Qj.Owners x0)) 1003, .tsl 4 (List.map Kq.cs (Qj.Contracts x0)) 1004, .tsl 8 (List.map ZL.cs (Qj.Chargers x0)) 1005, .tsl 2 (List.map Zt.cs (Qj.Bays x0)) 1006, .mv 1007,B x1, .mv 1008, .tsl 2 (List.map KG.cs x2) 1009]:Blk)
def Qc5:=fun x0=>(.arr 54 11 (List.map ZI.cs (Qj.Conductors x0)).length:Blk)
def Qc6:=fun x0=>(.arr 166 1 (List.map Zf.cs (Qj.Owners x0)).length:Blk)
def Qc7:=fun x0=>(.arr 120 4 (List.map Kq.cs (Qj.Contracts x0)).length:Blk)
def Qc8:=fun x0=>(.arr 32 8 (List.map ZL.cs (Qj.Chargers x0)).length:Blk)
def Qc9:=fun x0=>(.arr 123 2 (List.map Zt.cs (Qj.Bays x0)).length:Blk)
def Qda:Blk:=.box 29 [.tsl 1 (List.map ci [1,2]) 1012]
def CQ:=fun x0 x1 x2 x3 x4 x5 x6 x7 x8 x9 x10 x11 x12=>([(1000,(Qbl x0 x1 x2 x3 x4)),(1001,(Qc4 x5 x6 x7)),(1002,(Qc5 x5)),(1003,(Qc6 x5)),(1004,(Qc7 x5)),(1005,(Qc8 x5)),(1006,(Qc9 x5)),(1007, .mp (JH Q6 Q7 x8)),(1008, .mp (JH VH VJ x9)),(1009,(Wy x7)),(1010, .mp (JH Q6 Q7 x10)),(1011, .mg x11 x12 (U8 1012 1013 1014 1015 1016 1017 1018 1019 1020 1021)),(1012, .arr 3 1 (List.map ci [1,2]).length),(1013, .box 148 [I 1,I 1000]),(1014, .arr 3 1 (List.map ci [2]).length),(1015,Qda)]:List (Nat × Blk))
def CR:List (Nat × Blk):=[(1016, .arr 3 1 (List.map ci [4,5]).length),(1017, .arr 3 1 (List.map ci [4]).length),(1018, .arr 3 1 (List.map ci [4]).length),(1019, .arr 3 1 (List.map ci [5]).length),(1020, .box 148 [I 1,I 80]),(1021, .arr 3 1 (List.map ci [6]).length)]
def Qdb:List (Nat × AV):=[(0, .ptr 1000 0),(7, .iv 700),(9,B true)]
def iC:=fun x0 x1=>([(700, .it 1011 x0 x1)]:List (Nat × Blk))
def NS:=fun x0 x1 x2 x3 x4 x5 x6 x7 x8 x9 x10 x11 x12 x13=>(⟨Qdb,iC x0 x1++CQ x2 x3 x4 x5 x6 x7 x8 x9 x10 x11 x12 x13 x0++CR⟩:St)
def NT:=fun x0 x1 x2 x3 x4 x5 x6 x7 x8 x9 x10 x11 x12 x13=>(⟨[(0, .ptr 1000 0),(7, .iv 700)],iC x0 x1++CQ x2 x3 x4 x5 x6 x7 x8 x9 x10 x11 x12 x13 x0++CR⟩:St)
end Go.Proofs
