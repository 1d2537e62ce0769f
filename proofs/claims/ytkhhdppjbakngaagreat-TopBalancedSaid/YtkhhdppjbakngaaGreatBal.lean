/-
  A part of the proof of a statement of the seat YtkhhdppjbakngaaGreat.
-/
import Derived.Test.YtkhhdppjbakngaaGreatBal05
set_option linter.unusedVariables false
namespace Go.Proofs
open Go Go.Abs
set_option maxRecDepth 100000
theorem M4 (n:Nat) (a0s:Qj):∀ r,JS n a0s=some r→Q0 Tryz.prog 50 [ag (Qj.cs a0s)] (.ret (B r)):=by
 refine Qp Tryz.func50 rfl Tryz.ntmps50 rfl ?_
 unfold JS
 refine Qg Qe ⟨[qq 1],ZC a0s⟩ Qa (Qg Qe ⟨kL,ZC a0s⟩ Qa (KM (fun j1=>⟨kZ j1,Kz a0s j1⟩:(List (List UInt8))→St) ?_ ?_))
 ·refine Qg Qe ⟨[qq 1,(3,zS),(4,I 0)],ZC a0s⟩ Qa (sB (M3 ⟨[qq 1,(3,zS),(4,I 0)],ZC a0s⟩ Qa (Zq (KZ 9 1 25 [3] [] Qa) (Qw (fun (l2_1,l2_2)=>⟨nX l2_1 l2_2,Kz a0s l2_1⟩:((List (List UInt8)) × Int)→St) (Wq Qa) ?_))))
  rintro recl2 ⟨l2_1,l2_2⟩
  show QU (Jk a0s recl2 l2_1 l2_2) _ _ _ _ _ _
  unfold Jk
  exact sS (Qg Qe ⟨[qq 1,(3, .tsl 1 (List.map Zo l2_1) 25),(4,I l2_2),(14,B (QL l2_2 (Qc (XM a0s.Conductors))))],Kz a0s l2_1⟩ Qa (sC (QL l2_2 (Qc (XM a0s.Conductors))) Qa (sK (Qk ⟨nX l2_1 l2_2,Kz a0s l2_1⟩ Qa (sS (sB (sG (xR 4 Qa (xG Qa Qa (QC (e:=54) (S:=11) (enc:=ZI.cs) (l:=a0s.Conductors) (k:=.i64) (n:=l2_2) (sv:=.p (.sl 11 (XM a0s.Conductors))) rfl Qa Qa Qa Qa Qa) (fun x3=>xR 3 Qa (xF Qa Qa (ZM (e:=9) (S:=1) (by_:=16) (enc:=Zo) (tk:=25) (l:=l2_1) (l2:=[x3.Name]) (xv:=.tsl 1 (List.map Zo [x3.Name]) 24) rfl Qa Qa rfl Qa Qa Qa rfl Qa) (xR 1 Qa (xE (QT (Qk ⟨nX (l2_1++[x3.Name]) l2_2,MP a0s (l2_1++[x3.Name])⟩ Qa (sL Qe Qa (Ky (l2_1++[x3.Name],wi (l2_2+1)) Qa))))))))))))))) (Qm (Zu (ZP (QG (QV l2_1 Qa)))))))
 rintro j1
 refine KM (fun j4=>⟨kZ j4,Kz a0s j4⟩:(List (List UInt8))→St) ?_ ?_
 ·refine Qg Qe ⟨jM j1 0,Kz a0s j1⟩ Qa (sB (Qw (fun (l5_1,l5_2)=>⟨jM l5_1 l5_2,Kz a0s l5_1⟩:((List (List UInt8)) × Int)→St) (Wq Qa) ?_))
  rintro recl5 ⟨l5_1,l5_2⟩
  show QU (Jl a0s recl5 l5_1 l5_2) _ _ _ _ _ _
  unfold Jl
  exact sS (Qg Qe ⟨[qq 1,(3, .tsl 1 (List.map Zo l5_1) 25),(5,I l5_2),(30,B (QL l5_2 (Qc (K3 a0s.Owners))))],Kz a0s l5_1⟩ Qa (sC (QL l5_2 (Qc (K3 a0s.Owners))) Qa (sK (Qk ⟨jM l5_1 l5_2,Kz a0s l5_1⟩ Qa (sS (sB (sG (xR 4 Qa (xG Qa Qa (QC (e:=166) (S:=1) (enc:=Zf.cs) (l:=a0s.Owners) (k:=.i64) (n:=l5_2) (sv:=.p (.sl 1 (K3 a0s.Owners))) rfl Qa Qa Qa Qa Qa) (fun x6=>xR 3 Qa (xF Qa Qa (ZM (e:=9) (S:=1) (by_:=16) (enc:=Zo) (tk:=25) (l:=l5_1) (l2:=[x6.Name]) (xv:=.tsl 1 (List.map Zo [x6.Name]) 40) rfl Qa Qa rfl Qa Qa Qa rfl Qa) (xR 1 Qa (xE (QT (Qk ⟨jM (l5_1++[x6.Name]) l5_2,MP a0s (l5_1++[x6.Name])⟩ Qa (sL Qe Qa (Ky (l5_1++[x6.Name],wi (l5_2+1)) Qa))))))))))))))) (Qm (Zu (ZP (QG (QV l5_1 Qa)))))))
 rintro j4
 refine KM (fun j7=>⟨kZ j7,Kz a0s j7⟩:(List (List UInt8))→St) ?_ ?_
 ·refine Qg Qe ⟨jN j4 0,Kz a0s j4⟩ Qa (sB (Qw (fun (l8_1,l8_2)=>⟨jN l8_1 l8_2,Kz a0s l8_1⟩:((List (List UInt8)) × Int)→St) (Wq Qa) ?_))
  rintro recl8 ⟨l8_1,l8_2⟩
  show QU (Jm a0s recl8 l8_1 l8_2) _ _ _ _ _ _
  unfold Jm
  exact sS (Qg Qe ⟨[qq 1,(3, .tsl 1 (List.map Zo l8_1) 25),(6,I l8_2),(46,B (QL l8_2 (Qc (Fw a0s.Contracts))))],Kz a0s l8_1⟩ Qa (sC (QL l8_2 (Qc (Fw a0s.Contracts))) Qa (sK (Qk ⟨jN l8_1 l8_2,Kz a0s l8_1⟩ Qa (sS (sB (sG (xR 4 Qa (xG Qa Qa (QC (e:=120) (S:=4) (enc:=Kq.cs) (l:=a0s.Contracts) (k:=.i64) (n:=l8_2) (sv:=.p (.sl 4 (Fw a0s.Contracts))) rfl Qa Qa Qa Qa Qa) (fun x9=>xR 3 Qa (xF Qa Qa (ZM (e:=9) (S:=1) (by_:=16) (enc:=Zo) (tk:=25) (l:=l8_1) (l2:=[x9.Name]) (xv:=.tsl 1 (List.map Zo [x9.Name]) 56) rfl Qa Qa rfl Qa Qa Qa rfl Qa) (xR 1 Qa (xE (QT (Qk ⟨jN (l8_1++[x9.Name]) l8_2,MP a0s (l8_1++[x9.Name])⟩ Qa (sL Qe Qa (Ky (l8_1++[x9.Name],wi (l8_2+1)) Qa))))))))))))))) (Qm (Zu (ZP (QG (QV l8_1 Qa)))))))
 rintro j7
 refine KM (fun j10=>⟨kZ j10,Kz a0s j10⟩:(List (List UInt8))→St) ?_ ?_
 ·refine Qg Qe ⟨jO j7 0,Kz a0s j7⟩ Qa (sB (Qw (fun (l11_1,l11_2)=>⟨jO l11_1 l11_2,Kz a0s l11_1⟩:((List (List UInt8)) × Int)→St) (Wq Qa) ?_))
  rintro recl11 ⟨l11_1,l11_2⟩
  show QU (WH a0s recl11 l11_1 l11_2) _ _ _ _ _ _
  unfold WH
  exact sS (Qg Qe ⟨[qq 1,(3, .tsl 1 (List.map Zo l11_1) 25),(7,I l11_2),(62,B (QL l11_2 (Qc (Z5 a0s.Chargers))))],Kz a0s l11_1⟩ Qa (sC (QL l11_2 (Qc (Z5 a0s.Chargers))) Qa (sK (Qk ⟨jO l11_1 l11_2,Kz a0s l11_1⟩ Qa (sS (sB (sG (xR 4 Qa (xG Qa Qa (QC (e:=32) (S:=8) (enc:=ZL.cs) (l:=a0s.Chargers) (k:=.i64) (n:=l11_2) (sv:=.p (.sl 8 (Z5 a0s.Chargers))) rfl Qa Qa Qa Qa Qa) (fun x12=>xR 3 Qa (xF Qa Qa (ZM (e:=9) (S:=1) (by_:=16) (enc:=Zo) (tk:=25) (l:=l11_1) (l2:=[x12.Name]) (xv:=.tsl 1 (List.map Zo [x12.Name]) 72) rfl Qa Qa rfl Qa Qa Qa rfl Qa) (xR 1 Qa (xE (QT (Qk ⟨jO (l11_1++[x12.Name]) l11_2,MP a0s (l11_1++[x12.Name])⟩ Qa (sL Qe Qa (Ky (l11_1++[x12.Name],wi (l11_2+1)) Qa))))))))))))))) (Qm (Zu (ZP (QG (QV l11_1 Qa)))))))
 rintro j10
 refine KM (fun j13=>(QbQ j13):(List (List UInt8))→St) ?_ ?_
 ·refine Qg Qe ⟨jP j10 0,Kz a0s j10⟩ Qa (sB (Qw (fun (l14_1,l14_2)=>⟨jP l14_1 l14_2,Kz a0s l14_1⟩:((List (List UInt8)) × Int)→St) (Wq Qa) ?_))
  rintro recl14 ⟨l14_1,l14_2⟩
  show QU (WI a0s recl14 l14_1 l14_2) _ _ _ _ _ _
  unfold WI
  exact sS (Qg Qe ⟨[qq 1,(3, .tsl 1 (List.map Zo l14_1) 25),(8,I l14_2),(78,B (QL l14_2 (Qc (Wx a0s.Bays))))],Kz a0s l14_1⟩ Qa (sC (QL l14_2 (Qc (Wx a0s.Bays))) Qa (sK (Qk ⟨jP l14_1 l14_2,Kz a0s l14_1⟩ Qa (sS (sB (sG (xR 4 Qa (xG Qa Qa (QC (e:=123) (S:=2) (enc:=Zt.cs) (l:=a0s.Bays) (k:=.i64) (n:=l14_2) (sv:=.p (.sl 2 (Wx a0s.Bays))) rfl Qa Qa Qa Qa Qa) (fun x15=>xR 3 Qa (xF Qa Qa (ZM (e:=9) (S:=1) (by_:=16) (enc:=Zo) (tk:=25) (l:=l14_1) (l2:=[x15.Name]) (xv:=.tsl 1 (List.map Zo [x15.Name]) 88) rfl Qa Qa rfl Qa Qa Qa rfl Qa) (xR 1 Qa (xE (QT (Qk ⟨jP (l14_1++[x15.Name]) l14_2,MP a0s (l14_1++[x15.Name])⟩ Qa (sL Qe Qa (Ky (l14_1++[x15.Name],wi (l14_2+1)) Qa))))))))))))))) (Qm (Zu (ZP (QG (QV l14_1 Qa)))))))
 rintro j13
 refine sS (Qg Qe ⟨jQ j13 0,Rt j13⟩ Qa (sB (Qw (fun l16=>⟨jQ j13 l16,Rt j13⟩:Int→St) (Wq Qa) ?_)))
 rintro recl16 l16
 show QU (Yu n j13 recl16 l16) _ _ _ _ _ _
 unfold Yu
 refine sS (Qg Qe ⟨[(3, .tsl 1 (List.map Zo j13) 25),(9,I l16),(93,B (QL l16 (Qc (List.map Zo j13))))],Rt j13⟩ Qa (sC (QL l16 (Qc (List.map Zo j13))) Qa (sK (Qk ⟨jQ j13 l16,Rt j13⟩ Qa (sS (sB (KM (fun j17=>⟨[(3, .tsl 1 (List.map Zo j13) 25),(9,I l16),(111,B j17)],Rt j13⟩:Bool→St) ?_ ?_))))) (Qm (Zu (ZP (QG (Qk ⟨[],[]⟩ Qa (Qg Qe ⟨[(2,B true)],[]⟩ Qa (sT (qR (.id) Qa Qa Qa))))))))))
 rotate_left
 ·rintro j17
  exact sC j17 Qa (Qg Qe ⟨[(2,B false)],[]⟩ Qa (sT (Q9 (QY (KC (Q9 (QY (qR (.id) Qa Qa Qa)))))))) (sK (QT (Qk ⟨jQ j13 l16,Rt j13⟩ Qa (sL Qe Qa (Ky (wi (l16+1)) Qa)))))
 refine YK Qe rfl (xR 2 Qa (xG Qa Qa (QC (e:=9) (S:=1) (enc:=Zo) (l:=j13) (k:=.i64) (n:=l16) (sv:=.tsl 1 (List.map Zo j13) 25) rfl Qa Qa Qa Qa Qa) (fun x18=>xR 1 Qa ?_)))
 refine xC [] Qa (P6 n x18) Qa Qa QW (fun r19=>?_)
 refine xR 2 Qa (xS (!r19) (fun h20=>xN (QB Qa h20) Qa (xR 8 Qa (Yh Qa (QV true Qa)))) (fun h20=>xO (QA Qa h20) Qa (xR 1 Qa (xF Qa Qa (I4 (e:=9) (S:=1) (enc:=Zo) (l:=j13) (sv:=.tsl 1 (List.map Zo j13) 25) (a:=0) (b:=l16) rfl Qa Qa Qa Qa Qa Qa) (xR 2 Qa (xG Qa Qa (QC (e:=9) (S:=1) (enc:=Zo) (l:=j13) (k:=.i64) (n:=l16) (sv:=.tsl 1 (List.map Zo j13) 25) rfl Qa Qa Qa Qa Qa) (fun x21=>xR 1 Qa ?_)))))))
 refine xC [] Qa (AL n (List.drop (Int.toNat 0) (List.take (Int.toNat l16) j13)) x21) Qa Qa QW (fun r22=>?_)
 exact xR 1 Qa (Yh Qa (QV r22 Qa))
def Y7 (n:Nat) (a0c:ZI) (a1i:Int):Option Bool :=
 ((Qy n a0c.Limit 1 1000).bind fun r2 =>
 cond (!r2)
  (some true)
  ((Qy n a0c.Neutral 1 1000).bind fun r4 =>
  cond (!r4)
   (some true)
   (cond (Qs a1i 0)
    (cond (!Qs a0c.Up (-1))
     (some true)
     (cond (QL 0 a1i)
      ((Qy n a0c.Up 0 (wi (a1i - 1))).bind fun r9 =>
      some (!r9))
      (some false)))
    (cond (QL 0 a1i)
     ((Qy n a0c.Up 0 (wi (a1i - 1))).bind fun r11 =>
     some (!r11))
     (some false))))).bind fun j1 =>
 cond j1
  (some false)
  ((cond (!Dw ((Qs a0c.Fuse.Rated 0)&&((Qs a0c.Fuse.Heat 0)&&true)))
   ((Qy n a0c.Fuse.Rated 1 1000).bind fun r14 =>
   cond (!r14)
    (some true)
    ((Qy n a0c.Fuse.Heat 0 1000000).bind fun r16 =>
    some (!r16)))
   (some false)).bind fun j12 =>
  cond j12
   (some false)
   ((cond (Dw ((Qs a0c.Cable.Ambient 0)&&((Qs a0c.Cable.Most 0)&&((Qs a0c.Cable.Gain 0)&&((Qs a0c.Cable.Loss 0)&&((Qs a0c.Cable.Den 0)&&true))))))
    (some true)
    ((Qy n a0c.Cable.Ambient 0 200000).bind fun r19 =>
    cond r19
     ((Qy n a0c.Cable.Most (wi (a0c.Cable.Ambient+1)) 200000).bind fun r21 =>
     cond r21
      ((Qy n a0c.Cable.Gain 0 1000).bind fun r23 =>
      cond r23
       ((Qy n a0c.Cable.Loss 0 1000).bind fun r25 =>
       cond r25
        ((Qy n a0c.Cable.Den 1 1000000).bind fun r27 =>
        some r27)
        (some false))
       (some false))
      (some false))
     (some false))).bind fun j17 =>
   some j17))
theorem RI (n:Nat) (a0c:ZI) (a1i:Int):∀ r,Y7 n a0c a1i=some r→Q0 Tryz.prog 51 [ag (ZI.cs a0c),I a1i] (.ret (B r)):=by
 refine Qp Tryz.func51 rfl Tryz.ntmps51 rfl ?_
 unfold Y7
 refine Qg Qe ⟨[(1,I a1i),qq 2],Od a0c⟩ Qa (sS (KM (fun j1=>⟨[qq 2,(37,B j1)],Od a0c⟩:Bool→St) ?_ ?_))
 ·refine sG (xR 2 Qa ?_)
  refine xC [] Qa (QO n a0c.Limit 1 1000) Qa Qa QW (fun r2=>?_)
  refine xR 2 Qa (xS (!r2) (fun h3=>xN (QB Qa h3) Qa (xR 25 Qa (xE (QV true Qa)))) (fun h3=>xO (QA Qa h3) Qa (xR 1 Qa ?_)))
  refine xC [] Qa (QO n a0c.Neutral 1 1000) Qa Qa QW (fun r4=>?_)
  refine xR 3 Qa (xS (!r4) (fun h5=>xN (QB Qa h5) Qa (xR 19 Qa (xE (QV true Qa)))) (fun h5=>xO (QA Qa h5) Qa (xR 2 Qa (xS (Qs a1i 0) (fun h6=>?_) (fun h6=>?_)))))
  rotate_left
  ·refine xN (Qu Qa h6) Qa (xR 8 Qa (xS (QL 0 a1i) (fun h10=>?_) (fun h10=>?_)))
   ·refine xO (Qt Qa h10) Qa (xR 3 Qa ?_)
    refine xC [] Qa (QO n a0c.Up 0 (wi (a1i - 1))) Qa Qa QW (fun r11=>?_)
    exact xR 3 Qa (xE (QV (!r11) Qa))
   exact xN (Qu Qa h10) Qa (xR 7 Qa (xE (QV false Qa)))
  refine xO (Qt Qa h6) Qa (xR 5 Qa (xS (!Qs a0c.Up (-1)) (fun h7=>xN (QB Qa h7) Qa (xR 10 Qa (xE (QV true Qa)))) (fun h7=>xO (QA Qa h7) Qa (xR 2 Qa (xS (QL 0 a1i) (fun h8=>?_) (fun h8=>?_))))))
  ·refine xO (Qt Qa h8) Qa (xR 3 Qa ?_)
   refine xC [] Qa (QO n a0c.Up 0 (wi (a1i - 1))) Qa Qa QW (fun r9=>?_)
   exact xR 3 Qa (xE (QV (!r9) Qa))
  exact xN (Qu Qa h8) Qa (xR 7 Qa (xE (QV false Qa)))
 rintro j1
 refine sC j1 Qa (Qg Qe ⟨[(4,B false)],[]⟩ Qa (sT (QY (qR (.id) Qa Qa Qa)))) (sK (Qk ⟨[qq 2],Od a0c⟩ Qa (Qg Qe ⟨[qq 2,qq 5],[(2,vY a0c),(5,Az a0c.Fuse)]⟩ Qa (Qg Qe ⟨[qq 5,qq 6],[(5,Az a0c.Fuse),(6,Ll a0c.Cable)]⟩ Qa (sS (KM (fun j12=>⟨[qq 6,(56,B j12)],[(6,Ll a0c.Cable)]⟩:Bool→St) ?_ ?_))))))
 ·refine sG (xR 2 Qa (Ze Qa Qa (ja (xs:=[I a0c.Fuse.Rated,I a0c.Fuse.Heat]) (ys:=[I 0,I 0]) (vx:=[.int .i64 a0c.Fuse.Rated, .int .i64 a0c.Fuse.Heat]) (vy:=[.int .i64 0, .int .i64 0]) (b:=(Qs a0c.Fuse.Rated 0)&&((Qs a0c.Fuse.Heat 0)&&true)) rfl Qa Qa Qa Qa Qa Qa) (xR 1 Qa (xS (!Dw ((Qs a0c.Fuse.Rated 0)&&((Qs a0c.Fuse.Heat 0)&&true))) (fun h13=>?_) (fun h13=>?_)))))
  ·refine xO (Qt Qa h13) Qa (xR 1 Qa ?_)
   refine xC [] Qa (QO n a0c.Fuse.Rated 1 1000) Qa Qa QW (fun r14=>?_)
   refine xR 2 Qa (xS (!r14) (fun h15=>xN (QB Qa h15) Qa (xR 5 Qa (xE (QV true Qa)))) (fun h15=>xO (QA Qa h15) Qa (xR 1 Qa ?_)))
   refine xC [] Qa (QO n a0c.Fuse.Heat 0 1000000) Qa Qa QW (fun r16=>?_)
   exact xR 3 Qa (xE (QV (!r16) Qa))
  exact xN (Qu Qa h13) Qa (xR 10 Qa (xE (QV false Qa)))
 rintro j12
 refine sC j12 Qa (Qg Qe ⟨[(4,B false)],[]⟩ Qa (sT (QY (qR (.id) Qa Qa Qa)))) (sK (Qk ⟨[qq 6],[(6,Ll a0c.Cable)]⟩ Qa (KM (fun j17=>⟨[(4,B j17)],[]⟩:Bool→St) ?_ ?_)))
 rotate_left
 ·rintro j17
  exact sT (qR (.id) Qa Qa Qa)
 refine sG (xR 2 Qa (Ze Qa Qa (Eg (xs:=[I a0c.Cable.Ambient,I a0c.Cable.Most,I a0c.Cable.Gain,I a0c.Cable.Loss,I a0c.Cable.Den]) (ys:=[I 0,I 0,I 0,I 0,I 0]) (vx:=[.int .i64 a0c.Cable.Ambient, .int .i64 a0c.Cable.Most, .int .i64 a0c.Cable.Gain, .int .i64 a0c.Cable.Loss, .int .i64 a0c.Cable.Den]) (vy:=[.int .i64 0, .int .i64 0, .int .i64 0, .int .i64 0, .int .i64 0]) (b:=(Qs a0c.Cable.Ambient 0)&&((Qs a0c.Cable.Most 0)&&((Qs a0c.Cable.Gain 0)&&((Qs a0c.Cable.Loss 0)&&((Qs a0c.Cable.Den 0)&&true))))) rfl Qa Qa Qa Qa Qa Qa) (xR 1 Qa (xS (Dw ((Qs a0c.Cable.Ambient 0)&&((Qs a0c.Cable.Most 0)&&((Qs a0c.Cable.Gain 0)&&((Qs a0c.Cable.Loss 0)&&((Qs a0c.Cable.Den 0)&&true)))))) (fun h18=>xN (QB Qa h18) Qa (xR 27 Qa (xE (QV true Qa)))) (fun h18=>xO (QA Qa h18) Qa (xR 1 Qa ?_))))))
 refine xC [] Qa (QO n a0c.Cable.Ambient 0 200000) Qa Qa QW (fun r19=>?_)
 refine xR 1 Qa (xS r19 (fun h20=>xO (Qt Qa h20) Qa (xR 4 Qa ?_)) (fun h20=>xN (Qu Qa h20) Qa (xR 23 Qa (xE (QV false Qa)))))
 refine xC [] Qa (QO n a0c.Cable.Most (wi (a0c.Cable.Ambient+1)) 200000) Qa Qa QW (fun r21=>?_)
 refine xR 2 Qa (xS r21 (fun h22=>xO (Qt Qa h22) Qa (xR 1 Qa ?_)) (fun h22=>xN (Qu Qa h22) Qa (xR 15 Qa (xE (QV false Qa)))))
 refine xC [] Qa (QO n a0c.Cable.Gain 0 1000) Qa Qa QW (fun r23=>?_)
 refine xR 2 Qa (xS r23 (fun h24=>?_) (fun h24=>?_))
 ·refine xO (Qt Qa h24) Qa (xR 1 Qa ?_)
  refine xC [] Qa (QO n a0c.Cable.Loss 0 1000) Qa Qa QW (fun r25=>?_)
  refine xR 2 Qa (xS r25 (fun h26=>?_) (fun h26=>?_))
  ·refine xO (Qt Qa h26) Qa (xR 1 Qa ?_)
   refine xC [] Qa (QO n a0c.Cable.Den 1 1000000) Qa Qa QW (fun r27=>?_)
   exact xR 3 Qa (xE (QV r27 Qa))
  exact xN (Qu Qa h26) Qa (xR 5 Qa (xE (QV false Qa)))
 exact xN (Qu Qa h24) Qa (xR 10 Qa (xE (QV false Qa)))
def We (n:Nat) (a0c:ZL):Option Bool :=
 ((Qy n a0c.Phases 1 7).bind fun r2 =>
 cond r2
  ((Qy n a0c.Min 1 80).bind fun r4 =>
  cond r4
   ((Qy n a0c.Max a0c.Min 80).bind fun r6 =>
   cond r6
    ((Qy n a0c.Step 1 80).bind fun r8 =>
    cond r8
     (cond (Qs a0c.Fallback 0)
      (some true)
      ((Qy n a0c.Fallback a0c.Min a0c.Max).bind fun r11 =>
      some r11))
     (some false))
    (some false))
   (some false))
  (some false)).bind fun j1 =>
 some j1
theorem DR (n:Nat) (a0c:ZL):∀ r,We n a0c=some r→Q0 Tryz.prog 52 [ag (ZL.cs a0c)] (.ret (B r)):=by
 refine Qp Tryz.func52 rfl Tryz.ntmps52 rfl ?_
 unfold We
 refine Qg Qe (QbA a0c) Qa (KM (fun j1=>⟨[(2,B j1)],[]⟩:Bool→St) ?_ ?_)
 rotate_left
 ·rintro j1
  exact sT (qR (.id) Qa Qa Qa)
 refine sG (xR 2 Qa ?_)
 refine xC [] Qa (QO n a0c.Phases 1 7) Qa Qa QW (fun r2=>?_)
 refine xR 1 Qa (xS r2 (fun h3=>xO (Qt Qa h3) Qa (xR 1 Qa ?_)) (fun h3=>xN (Qu Qa h3) Qa (xR 30 Qa (xE (QV false Qa)))))
 refine xC [] Qa (QO n a0c.Min 1 80) Qa Qa QW (fun r4=>?_)
 refine xR 2 Qa (xS r4 (fun h5=>xO (Qt Qa h5) Qa (xR 3 Qa ?_)) (fun h5=>xN (Qu Qa h5) Qa (xR 25 Qa (xE (QV false Qa)))))
 refine xC [] Qa (QO n a0c.Max a0c.Min 80) Qa Qa QW (fun r6=>?_)
 refine xR 2 Qa (xS r6 (fun h7=>xO (Qt Qa h7) Qa (xR 1 Qa ?_)) (fun h7=>xN (Qu Qa h7) Qa (xR 18 Qa (xE (QV false Qa)))))
 refine xC [] Qa (QO n a0c.Step 1 80) Qa Qa QW (fun r8=>?_)
 refine xR 2 Qa (xS r8 (fun h9=>?_) (fun h9=>?_))
 ·refine xO (Qt Qa h9) Qa (xR 3 Qa (xS (Qs a0c.Fallback 0) (fun h10=>xN (QB Qa h10) Qa (xR 9 Qa (xE (QV true Qa)))) (fun h10=>xO (QA Qa h10) Qa (xR 5 Qa ?_))))
  refine xC [] Qa (QO n a0c.Fallback a0c.Min a0c.Max) Qa Qa QW (fun r11=>?_)
  exact xR 3 Qa (xE (QV r11 Qa))
 exact xN (Qu Qa h9) Qa (xR 13 Qa (xE (QV false Qa)))
def Y8 (n:Nat) (a0s:Qj) (recl12:Int→Option Bool) (l12:Int):Option Bool :=
 cond (QL l12 (Qc (List.map Zt.cs a0s.Bays)))
  ((Zc a0s.Bays l12).bind fun x13 =>
  (Qy n x13.Charger 0 (wi ((Qc (List.map ZL.cs a0s.Chargers)) - 1))).bind fun r14 =>
  cond (!r14)
   (some false)
   (recl12 (wi (l12+1))))
  (some true)
def KS (n:Nat) (a0s:Qj):Option Bool :=
 Q4 (fun recl12 l12=>Y8 n a0s recl12 l12) n 0
def Y9 (n:Nat) (a0s:Qj) (recl15:Int→Option Bool) (l15:Int):Option Bool :=
 cond (QL l15 (Qc (List.map ZL.cs a0s.Chargers)))
  ((Zc a0s.Chargers l15).bind fun x16 =>
  ((We n x16).bind fun r18 =>
  cond (!r18)
   (some true)
   ((Qy n x16.At 0 (wi ((Qc (List.map ZI.cs a0s.Conductors)) - 1))).bind fun r20 =>
   cond (!r20)
    (some true)
    ((Qy n x16.Owner 0 (wi ((Qc (List.map Zf.cs a0s.Owners)) - 1))).bind fun r22 =>
    some (!r22)))).bind fun j17 =>
  cond j17
   (some false)
   (recl15 (wi (l15+1))))
  (KS n a0s)
def KT (n:Nat) (a0s:Qj):Option Bool :=
 Q4 (fun recl15 l15=>Y9 n a0s recl15 l15) n 0
def Va (a0s:Qj) (l23:Int) (recl23:Int→Option Bool) (x24:Kq) (recl31:Int→Option Bool) (l31:Int):Option Bool :=
 cond (QL l31 l23)
  ((Zc a0s.Contracts l31).bind fun x32 =>
  cond (Qs x32.Card x24.Card)
   (some false)
   (recl31 (wi (l31+1))))
  (recl23 (wi (l23+1)))
def Vb (n:Nat) (a0s:Qj) (recl23:Int→Option Bool) (l23:Int):Option Bool :=
 cond (QL l23 (Qc (List.map Kq.cs a0s.Contracts)))
  ((Zc a0s.Contracts l23).bind fun x24 =>
  ((Qy n x24.Owner 0 (wi ((Qc (List.map Zf.cs a0s.Owners)) - 1))).bind fun r26 =>
  cond (!r26)
   (some true)
   ((Qy n x24.Rank 1 9).bind fun r28 =>
   cond (!r28)
    (some true)
    ((Qy n x24.Card 1 1000000).bind fun r30 =>
    some (!r30)))).bind fun j25 =>
  cond j25
   (some false)
   (Q4 (fun recl31 l31=>Va a0s l23 recl23 x24 recl31 l31) n 0))
  (KT n a0s)
def Yd (n:Nat) (a0s:Qj):Option Bool :=
 Q4 (fun recl23 l23=>Vb n a0s recl23 l23) n 0
def Vd (n:Nat) (a0s:Qj) (recl33:Int→Option Bool) (l33:Int):Option Bool :=
 cond (QL l33 (Qc (List.map ZI.cs a0s.Conductors)))
  ((Zc a0s.Conductors l33).bind fun x34 =>
  (Y7 n x34 l33).bind fun r35 =>
  cond (!r35)
   (some false)
   (recl33 (wi (l33+1))))
  (Yd n a0s)
def JI (n:Nat) (a0s:Qj):Option Bool :=
 ((Qy n (Qc (List.map ZI.cs a0s.Conductors)) 1 16).bind fun r2 =>
 cond (!r2)
  (some true)
  (cond (QL 8 (Qc (List.map Zf.cs a0s.Owners)))
   (some true)
   (cond (QL 32 (Qc (List.map Kq.cs a0s.Contracts)))
    (some true)
    (cond (QL 16 (Qc (List.map ZL.cs a0s.Chargers)))
     (some true)
     (cond (QL 24 (Qc (List.map Zt.cs a0s.Bays)))
      (some true)
      ((JS n a0s).bind fun r8 =>
      some (!r8))))))).bind fun j1 =>
 cond j1
  (some false)
  (Q4 (fun recl33 l33=>Vd n a0s recl33 l33) n 0)
def lq:=fun x0 x1=>(⟨[(1, .ptr 1 0),(3,I x0)],ZC x1⟩:St)
def lu:=fun x0 x1=>(⟨[(1, .ptr 1 0),(4,I x0)],ZC x1⟩:St)
def CV:=fun x0 x1=>([(1, .box 28 (Kw (Qj.cs x0))),(5, .box 120 (Kw (Kq.cs x1)))]:List (Nat × Blk))
def vZ:=fun x0 x1=>([(1, .ptr 1 0),(4,I x0),(5, .ptr 5 0),(6,I x1)]:List (Nat × AV))
def lv:=fun x0 x1=>(⟨[(1, .ptr 1 0),(9,I x0)],ZC x1⟩:St)
def lw:=fun x0 x1=>(⟨[(1, .ptr 1 0),(7,I x0)],ZC x1⟩:St)
theorem M5 (n:Nat) (a0s:Qj):∀ r,JI n a0s=some r→Q0 Tryz.prog 19 [ag (Qj.cs a0s)] (.ret (B r)):=by
 refine Qp Tryz.func19 rfl Tryz.ntmps19 rfl ?_
 unfold JI
 refine Qg Qe ⟨[qq 1],ZC a0s⟩ Qa (sS (KM (fun j1=>⟨[qq 1,(43,B j1)],ZC a0s⟩:Bool→St) ?_ ?_))
 ·refine sG (xR 3 Qa ?_)
  refine xC [] Qa (QO n (Qc (XM a0s.Conductors)) 1 16) Qa Qa QW (fun r2=>?_)
  refine xR 2 Qa (xS (!r2) (fun h3=>xN (QB Qa h3) Qa (xR 27 Qa (xE (QV true Qa)))) (fun h3=>xO (QA Qa h3) Qa (xR 5 Qa (xS (QL 8 (Qc (K3 a0s.Owners))) (fun h4=>xN (QB Qa h4) Qa (xR 21 Qa (xE (QV true Qa)))) (fun h4=>xO (QA Qa h4) Qa (xR 5 Qa (xS (QL 32 (Qc (Fw a0s.Contracts))) (fun h5=>xN (QB Qa h5) Qa (xR 15 Qa (xE (QV true Qa)))) (fun h5=>xO (QA Qa h5) Qa (xR 5 Qa (xS (QL 16 (Qc (Z5 a0s.Chargers))) (fun h6=>xN (QB Qa h6) Qa (xR 9 Qa (xE (QV true Qa)))) (fun h6=>xO (QA Qa h6) Qa (xR 5 Qa (xS (QL 24 (Qc (Wx a0s.Bays))) (fun h7=>xN (QB Qa h7) Qa (xR 3 Qa (xE (QV true Qa)))) (fun h7=>xO (QA Qa h7) Qa ?_))))))))))))))
  refine xC [] Qa (M4 n a0s) Qa Qa QW (fun r8=>?_)
  exact xR 2 Qa (xE (QV (!r8) Qa))
 rintro j1
 refine sC j1 Qa (Qg Qe ⟨[(2,B false)],[]⟩ Qa (sT (QY (qR (.id) Qa Qa Qa)))) (sK (Qk ⟨[qq 1],ZC a0s⟩ Qa (ZY (fun _=>⟨[qq 1],ZC a0s⟩:Unit→St) (fun _=>Yd n a0s) ?_ ?_)))
 rotate_left
 ·refine Qg Qe ⟨[qq 1,(3,I 0)],ZC a0s⟩ Qa (sB (Qw (fun l33=>(lq l33 a0s):Int→St) (Wq Qa) ?_))
  rintro recl33 l33
  show QU (Vd n a0s recl33 l33) _ _ _ _ _ _
  unfold Vd
  refine sS (Qg Qe ⟨[qq 1,(3,I l33),(48,B (QL l33 (Qc (XM a0s.Conductors))))],ZC a0s⟩ Qa (sC (QL l33 (Qc (XM a0s.Conductors))) Qa (sK (Qk (lq l33 a0s) Qa (sS (sB (sS (sG (xR 3 Qa (xG Qa Qa (QC (e:=54) (S:=11) (enc:=ZI.cs) (l:=a0s.Conductors) (k:=.i64) (n:=l33) (sv:=.p (.sl 11 (XM a0s.Conductors))) rfl Qa Qa Qa Qa Qa) (fun x34=>xR 2 Qa ?_))))))))) (Qm (Zu (ZP (QG (Ky (k:=fun _=>Yd n a0s) () Qa)))))))
  refine xC [] Qa (RI n x34 l33) Qa Qa QW (fun r35=>?_)
  exact xR 1 Qa (xE (Qk ⟨[qq 1,(3,I l33),(58,B (!r35))],ZC a0s⟩ Qa (sC (!r35) Qa (Qg Qe ⟨[(2,B false)],[]⟩ Qa (sT (Q9 (QY (KC (Q9 (KC (qR (.id) Qa Qa Qa)))))))) (sK (QT (Qk (lq l33 a0s) Qa (sL Qe Qa (Ky (wi (l33+1)) Qa))))))))
 rintro _
 show QU (Yd n a0s) _ _ _ _ _ _
 unfold Yd
 refine ZY (fun _=>⟨[qq 1],ZC a0s⟩:Unit→St) (fun _=>KT n a0s) ?_ ?_
 rotate_left
 ·refine Qg Qe ⟨[qq 1,(4,I 0)],ZC a0s⟩ Qa (sB (Qw (fun l23=>(lu l23 a0s):Int→St) (Wq Qa) ?_))
  rintro recl23 l23
  show QU (Vb n a0s recl23 l23) _ _ _ _ _ _
  unfold Vb
  refine sS (Qg Qe ⟨[qq 1,(4,I l23),(63,B (QL l23 (Qc (Fw a0s.Contracts))))],ZC a0s⟩ Qa (sC (QL l23 (Qc (Fw a0s.Contracts))) Qa (sK (Qk (lu l23 a0s) Qa (sS (sB (sS (sG (xR 3 Qa (xG Qa Qa (QC (e:=120) (S:=4) (enc:=Kq.cs) (l:=a0s.Contracts) (k:=.i64) (n:=l23) (sv:=.p (.sl 4 (Fw a0s.Contracts))) rfl Qa Qa Qa Qa Qa) (fun x24=>xR 3 Qa (xE (Qk ⟨[qq 1,(4,I l23),qq 5],CV a0s x24⟩ Qa (sS (KM (fun j25=>⟨[qq 1,(4,I l23),qq 5,(90,B j25)],CV a0s x24⟩:Bool→St) ?_ ?_))))))))))))) (Qm (Zu (ZP (QG (Ky (k:=fun _=>KT n a0s) () Qa)))))))
  ·refine sG (xR 6 Qa ?_)
   refine xC [] Qa (QO n x24.Owner 0 (wi ((Qc (K3 a0s.Owners)) - 1))) Qa Qa QW (fun r26=>?_)
   refine xR 2 Qa (xS (!r26) (fun h27=>xN (QB Qa h27) Qa (xR 10 Qa (xE (QV true Qa)))) (fun h27=>xO (QA Qa h27) Qa (xR 1 Qa ?_)))
   refine xC [] Qa (QO n x24.Rank 1 9) Qa Qa QW (fun r28=>?_)
   refine xR 3 Qa (xS (!r28) (fun h29=>xN (QB Qa h29) Qa (xR 4 Qa (xE (QV true Qa)))) (fun h29=>xO (QA Qa h29) Qa (xR 1 Qa ?_)))
   refine xC [] Qa (QO n x24.Card 1 1000000) Qa Qa QW (fun r30=>?_)
   exact xR 2 Qa (xE (QV (!r30) Qa))
  rintro j25
  refine sC j25 Qa (Qg Qe ⟨[(2,B false)],[]⟩ Qa (sT (QY (Q9 (QY (KC (Q9 (KC (qR (.id) Qa Qa Qa))))))))) (sK (Qk ⟨[qq 1,(4,I l23),qq 5],CV a0s x24⟩ Qa (Qg Qe ⟨vZ l23 0,CV a0s x24⟩ Qa (sB (Qw (fun l31=>⟨vZ l23 l31,CV a0s x24⟩:Int→St) (Wq Qa) ?_)))))
  rintro recl31 l31
  show QU (Va a0s l23 recl23 x24 recl31 l31) _ _ _ _ _ _
  unfold Va
  exact sS (Qg Qe ⟨[qq 1,(4,I l23),qq 5,(6,I l31),(93,B (QL l31 l23))],CV a0s x24⟩ Qa (sC (QL l31 l23) Qa (sK (Qk ⟨vZ l23 l31,CV a0s x24⟩ Qa (sS (sB (sS (YK Qe rfl (xR 3 Qa (xG Qa Qa (QC (e:=120) (S:=4) (enc:=Kq.cs) (l:=a0s.Contracts) (k:=.i64) (n:=l31) (sv:=.p (.sl 4 (Fw a0s.Contracts))) rfl Qa Qa Qa Qa Qa) (fun x32=>xR 5 Qa (Yh Qa (Qk ⟨[qq 1,(4,I l23),qq 5,(6,I l31),(104,B (Qs x32.Card x24.Card))],CV a0s x24⟩ Qa (sC (Qs x32.Card x24.Card) Qa (Qg Qe ⟨[(2,B false)],[]⟩ Qa (sT (Q9 (QY (KC (Q9 (Q9 (QY (KC (Q9 (KC (qR (.id) Qa Qa Qa)))))))))))) (sK (QT (Qk ⟨vZ l23 l31,CV a0s x24⟩ Qa (sL Qe Qa (Ky (wi (l31+1)) Qa))))))))))))))))) (Qm (Zu (ZP (QG (QT (Qk (lu l23 a0s) Qa (sL Qe Qa (Ky (wi (l23+1)) Qa))))))))))
 rintro _
 show QU (KT n a0s) _ _ _ _ _ _
 unfold KT
 refine ZY (fun _=>⟨[qq 1],ZC a0s⟩:Unit→St) (fun _=>KS n a0s) ?_ ?_
 ·rintro _
  show QU (KS n a0s) _ _ _ _ _ _
  unfold KS
  refine sS (Qg Qe ⟨[qq 1,(9,I 0)],ZC a0s⟩ Qa (sB (Qw (fun l12=>(lv l12 a0s):Int→St) (Wq Qa) ?_)))
  rintro recl12 l12
  show QU (Y8 n a0s recl12 l12) _ _ _ _ _ _
  unfold Y8
  refine sS (Qg Qe ⟨[qq 1,(9,I l12),(144,B (QL l12 (Qc (Wx a0s.Bays))))],ZC a0s⟩ Qa (sC (QL l12 (Qc (Wx a0s.Bays))) Qa (sK (Qk (lv l12 a0s) Qa (sS (sB (sS (YK Qe rfl (xR 3 Qa (xG Qa Qa (QC (e:=123) (S:=2) (enc:=Zt.cs) (l:=a0s.Bays) (k:=.i64) (n:=l12) (sv:=.p (.sl 2 (Wx a0s.Bays))) rfl Qa Qa Qa Qa Qa) (fun x13=>xR 6 Qa ?_))))))))) (Qm (Zu (ZP (QG (Qk ⟨[],[]⟩ Qa (Qg Qe ⟨[(2,B true)],[]⟩ Qa (sT (qR (.id) Qa Qa Qa))))))))))
  refine xC [] Qa (QO n x13.Charger 0 (wi ((Qc (Z5 a0s.Chargers)) - 1))) Qa Qa QW (fun r14=>?_)
  exact xR 1 Qa (Yh Qa (Qk ⟨[qq 1,(9,I l12),(158,B (!r14))],ZC a0s⟩ Qa (sC (!r14) Qa (Qg Qe ⟨[(2,B false)],[]⟩ Qa (sT (Q9 (QY (KC (Q9 (QY (qR (.id) Qa Qa Qa)))))))) (sK (QT (Qk (lv l12 a0s) Qa (sL Qe Qa (Ky (wi (l12+1)) Qa))))))))
 refine Qg Qe ⟨[qq 1,(7,I 0)],ZC a0s⟩ Qa (sB (Qw (fun l15=>(lw l15 a0s):Int→St) (Wq Qa) ?_))
 rintro recl15 l15
 show QU (Y9 n a0s recl15 l15) _ _ _ _ _ _
 unfold Y9
 refine sS (Qg Qe ⟨[qq 1,(7,I l15),(109,B (QL l15 (Qc (Z5 a0s.Chargers))))],ZC a0s⟩ Qa (sC (QL l15 (Qc (Z5 a0s.Chargers))) Qa (sK (Qk (lw l15 a0s) Qa (sS (sB (sS (sG (xR 3 Qa (xG Qa Qa (QC (e:=32) (S:=8) (enc:=ZL.cs) (l:=a0s.Chargers) (k:=.i64) (n:=l15) (sv:=.p (.sl 8 (Z5 a0s.Chargers))) rfl Qa Qa Qa Qa Qa) (fun x16=>xR 3 Qa (xE (Qk ⟨[qq 1,(7,I l15),qq 8],[(1,QM a0s),(8,Ym x16)]⟩ Qa (KM (fun j17=>⟨[qq 1,(7,I l15),(139,B j17)],ZC a0s⟩:Bool→St) ?_ ?_)))))))))))) (Qm (Zu (ZP (QG (Ky (k:=fun _=>KS n a0s) () Qa)))))))
 rotate_left
 ·rintro j17
  exact sC j17 Qa (Qg Qe ⟨[(2,B false)],[]⟩ Qa (sT (Q9 (QY (KC (Q9 (KC (qR (.id) Qa Qa Qa)))))))) (sK (QT (Qk (lw l15 a0s) Qa (sL Qe Qa (Ky (wi (l15+1)) Qa)))))
 refine sG (xR 1 Qa ?_)
 refine xC [] Qa (DR n x16) Qa Qa QW (fun r18=>?_)
 refine xR 2 Qa (xS (!r18) (fun h19=>xN (QB Qa h19) Qa (xR 18 Qa (xE (QV true Qa)))) (fun h19=>xO (QA Qa h19) Qa (xR 5 Qa ?_)))
 refine xC [] Qa (QO n x16.At 0 (wi ((Qc (XM a0s.Conductors)) - 1))) Qa Qa QW (fun r20=>?_)
 refine xR 3 Qa (xS (!r20) (fun h21=>xN (QB Qa h21) Qa (xR 8 Qa (xE (QV true Qa)))) (fun h21=>xO (QA Qa h21) Qa (xR 5 Qa ?_)))
 refine xC [] Qa (QO n x16.Owner 0 (wi ((Qc (K3 a0s.Owners)) - 1))) Qa Qa QW (fun r22=>?_)
 exact xR 2 Qa (xE (QV (!r22) Qa))
def YD (a0s:Qj) (a1amps:List Int) (recl1:Int→Option Bool) (l1:Int):Option Bool :=
 cond (QL l1 (Qc (List.map ci a1amps)))
  (((Zc a1amps l1).bind fun x3 =>
  cond (QL x3 0)
   (some true)
   ((Zc a1amps l1).bind fun x5 =>
   some (QL 80 x5))).bind fun j2 =>
  cond j2
   (some false)
   (recl1 (wi (l1+1))))
  (some (Qs (Qc (List.map ci a1amps)) (Qc (List.map ZL.cs a0s.Chargers))))
def Vv (n:Nat) (a0s:Qj) (a1amps:List Int):Option Bool :=
 Q4 (fun recl1 l1=>YD a0s a1amps recl1 l1) n 0
def wh:=fun x0=>([(1, .p (.sl 1 (List.map ci x0))),(2, .ptr 2 0)]:List (Nat × AV))
def wm:=fun x0 x1=>([(1, .p (.sl 1 (List.map ci x0))),(2, .ptr 2 0),(5,I x1)]:List (Nat × AV))
theorem Dm (n:Nat) (a0s:Qj) (a1amps:List Int):∀ r,Vv n a0s a1amps=some r→Q0 Tryz.prog 20 [ag (Qj.cs a0s), .p (.sl 1 (List.map ci a1amps))] (.ret (B r)):=by
 refine Qp Tryz.func20 rfl Tryz.ntmps20 rfl ?_
 unfold Vv
 refine Qg Qe ⟨wh a1amps,Fg a0s⟩ Qa (sS (Qg Qe ⟨wm a1amps 0,Fg a0s⟩ Qa (sB (Qw (fun l1=>⟨wm a1amps l1,Fg a0s⟩:Int→St) (Wq Qa) ?_))))
 rintro recl1 l1
 show QU (YD a0s a1amps recl1 l1) _ _ _ _ _ _
 unfold YD
 refine sS (Qg Qe ⟨[(1, .p (.sl 1 (List.map ci a1amps))),qq 2,(5,I l1),(9,B (QL l1 (Qc (List.map ci a1amps))))],Fg a0s⟩ Qa (sC (QL l1 (Qc (List.map ci a1amps))) Qa (sK (Qk ⟨wm a1amps l1,Fg a0s⟩ Qa (sS (sB (KM (fun j2=>⟨[(1, .p (.sl 1 (List.map ci a1amps))),qq 2,(5,I l1),(23,B j2)],Fg a0s⟩:Bool→St) (sG (xR 2 Qa (xG Qa Qa (QC (e:=3) (S:=1) (enc:=ci) (l:=a1amps) (k:=.i64) (n:=l1) (sv:=.p (.sl 1 (List.map ci a1amps))) rfl Qa Qa Qa Qa Qa) (fun x3=>xR 3 Qa (xS (QL x3 0) (fun h4=>xN (QB Qa h4) Qa (xR 5 Qa (xE (QV true Qa)))) (fun h4=>xO (QA Qa h4) Qa (xR 1 Qa (xG Qa Qa (QC (e:=3) (S:=1) (enc:=ci) (l:=a1amps) (k:=.i64) (n:=l1) (sv:=.p (.sl 1 (List.map ci a1amps))) rfl Qa Qa Qa Qa Qa) (fun x5=>xR 3 Qa (xE (QV (QL 80 x5) Qa))))))))))) ?_))))) (Qm (Zu (ZP (QG (Qk ⟨wh a1amps,Fg a0s⟩ Qa (Qg Qe ⟨[(4,B (Qs (Qc (List.map ci a1amps)) (Qc (Z5 a0s.Chargers))))],[]⟩ Qa (sT (qR (.id) Qa Qa Qa))))))))))
 rintro j2
 exact sC j2 Qa (Qg Qe ⟨[(4,B false)],[]⟩ Qa (sT (Q9 (QY (KC (Q9 (QY (qR (.id) Qa Qa Qa)))))))) (sK (QT (Qk ⟨wm a1amps l1,Fg a0s⟩ Qa (sL Qe Qa (Ky (wi (l1+1)) Qa)))))
def Ke (n:Nat) (a0s:Qj) (a1amps:List Int):Option Bool :=
 (UJ n a0s).bind fun r1 =>
 cond r1
  ((JI n a0s).bind fun r3 =>
  cond r3
   ((Vv n a0s a1amps).bind fun r5 =>
   some r5)
   (some false))
  (some false)
theorem UK (n:Nat) (a0s:Qj) (a1amps:List Int):∀ r,Ke n a0s a1amps=some r→Q0 Tryz.prog 6 [ag (Qj.cs a0s), .p (.sl 1 (List.map ci a1amps))] (.ret (B r)):=by
 refine Qp Tryz.func6 rfl Tryz.ntmps6 rfl ?_
 unfold Ke
 refine Qg Qe ⟨wh a1amps,Fg a0s⟩ Qa (sS (sG (xR 1 Qa ?_)))
 refine xC [] Qa (AJ n a0s) Qa Qa QW (fun r1=>?_)
 refine xR 1 Qa (xS r1 (fun h2=>xO (Qt Qa h2) Qa ?_) (fun h2=>xN (Qu Qa h2) Qa (xR 8 Qa (xE (Qk ⟨[(4,B false)],[]⟩ Qa (sT (qR (.id) Qa Qa Qa)))))))
 refine xC [] Qa (M5 n a0s) Qa Qa QW (fun r3=>?_)
 refine xR 2 Qa (xS r3 (fun h4=>?_) (fun h4=>?_))
 ·refine xO (Qt Qa h4) Qa (xR 1 Qa ?_)
  refine xC [] Qa (Dm n a0s a1amps) Qa Qa QW (fun r5=>?_)
  exact xR 2 Qa (xE (Qk ⟨[(4,B r5)],[]⟩ Qa (sT (qR (.id) Qa Qa Qa))))
 exact xN (Qu Qa h4) Qa (xR 4 Qa (xE (Qk ⟨[(4,B false)],[]⟩ Qa (sT (qR (.id) Qa Qa Qa)))))
def Ve (a0numbers:List Int) (recl1:Int→Option Bool) (l1:Int):Option Bool :=
 cond (QL l1 (Qc (List.map ci a0numbers)))
  ((Zc a0numbers l1).bind fun x2 =>
  (cond (QL x2 0)
   (some true)
   (some (QL 1000 x2))).bind fun j3 =>
  cond j3
   (some false)
   (recl1 (wi (l1+1))))
  (some true)
def WL (n:Nat) (a0numbers:List Int):Option Bool :=
 Q4 (fun recl1 l1=>Ve a0numbers recl1 l1) n 0
def wo:=fun x0 x1=>([(5, .p (.sl 1 (List.map ci x0))),(6,I (Qc (List.map ci x0))),(7,I x1)]:List (Nat × AV))
theorem CW (n:Nat) (a0numbers:List Int):∀ r,WL n a0numbers=some r→Q0 Tryz.prog 24 [.p (.sl 1 (List.map ci a0numbers))] (.ret (B r)):=by
 refine Qp Tryz.func24 rfl Tryz.ntmps24 rfl ?_
 unfold WL
 refine Qg Qe (su a0numbers) Qa (sS (Qg Qe ⟨wo a0numbers 0,[]⟩ Qa (sB (Qw (fun l1=>⟨wo a0numbers l1,[]⟩:Int→St) (Wq Qa) ?_))))
 rintro recl1 l1
 show QU (Ve a0numbers recl1 l1) _ _ _ _ _ _
 unfold Ve
 refine Qg Qe ⟨[(5, .p (.sl 1 (List.map ci a0numbers))),(6,I (Qc (List.map ci a0numbers))),(7,I l1),(8,B (QL l1 (Qc (List.map ci a0numbers))))],[]⟩ Qa (sS (sC (QL l1 (Qc (List.map ci a0numbers))) Qa (sK (Qk ⟨wo a0numbers l1,[]⟩ Qa (sS (sB (sS (sG (xG Qa Qa (QC (e:=3) (S:=1) (enc:=ci) (l:=a0numbers) (k:=.i64) (n:=l1) (sv:=.p (.sl 1 (List.map ci a0numbers))) rfl Qa Qa Qa Qa Qa) (fun x2=>xR 2 Qa (xE (Qk ⟨[(4,I x2),(5, .p (.sl 1 (List.map ci a0numbers))),(6,I (Qc (List.map ci a0numbers))),(7,I l1)],[]⟩ Qa (KM (fun j3=>⟨[(5, .p (.sl 1 (List.map ci a0numbers))),(6,I (Qc (List.map ci a0numbers))),(7,I l1),(16,B j3)],[]⟩:Bool→St) (sG (xR 3 Qa (xS (QL x2 0) (fun h4=>xN (QB Qa h4) Qa (xR 2 Qa (xE (QV true Qa)))) (fun h4=>xO (QA Qa h4) Qa (xR 2 Qa (xE (QV (QL 1000 x2) Qa))))))) ?_))))))))))) (Qm (Zu (ZP (QG (Qk ⟨[],[]⟩ Qa (Qg Qe ⟨[(2,B true)],[]⟩ Qa (sT (qR (.id) Qa Qa Qa))))))))))
 rintro j3
 exact sC j3 Qa (Qg Qe ⟨[(2,B false)],[]⟩ Qa (sT (Q9 (QY (KC (Q9 (QY (qR (.id) Qa Qa Qa)))))))) (sK (QT (Qk ⟨wo a0numbers l1,[]⟩ Qa (sL Qe Qa (Ky (wi (l1+1)) Qa)))))
def Jq (a0numbers:List Int) (recl1:(Int × Int)→Option Int) (l1_1:Int) (l1_2:Int):Option Int :=
 cond (QL l1_2 (Qc (List.map ci a0numbers)))
  ((Zc a0numbers l1_2).bind fun x2 =>
  recl1 (wi (l1_1+(wi (x2 * x2))),wi (l1_2+1)))
  (some l1_1)
def XP (n:Nat) (a0numbers:List Int):Option Int :=
 Q4 (fun recl1 (l1_1,l1_2)=>Jq a0numbers recl1 l1_1 l1_2) n (0,0)
def ww:=fun x0 x1 x2=>([(3,I x0),(6, .p (.sl 1 (List.map ci x1))),(7,I (Qc (List.map ci x1))),(8,I x2)]:List (Nat × AV))
theorem Dn (n:Nat) (a0numbers:List Int):∀ r,XP n a0numbers=some r→Q0 Tryz.prog 25 [.p (.sl 1 (List.map ci a0numbers))] (.ret (I r)):=by
 refine Qp Tryz.func25 rfl Tryz.ntmps25 rfl ?_
 unfold XP
 refine Qg Qe (su a0numbers) Qa (Qg Qe ⟨[(0, .p (.sl 1 (List.map ci a0numbers))),(3,I 0)],[]⟩ Qa (sS (Qg Qe ⟨ww 0 a0numbers 0,[]⟩ Qa (sB (Qw (fun (l1_1,l1_2)=>⟨ww l1_1 a0numbers l1_2,[]⟩:(Int × Int)→St) (Wq Qa) ?_)))))
 rintro recl1 ⟨l1_1,l1_2⟩
 show QU (Jq a0numbers recl1 l1_1 l1_2) _ _ _ _ _ _
 unfold Jq
 exact Qg Qe ⟨[(3,I l1_1),(6, .p (.sl 1 (List.map ci a0numbers))),(7,I (Qc (List.map ci a0numbers))),(8,I l1_2),(9,B (QL l1_2 (Qc (List.map ci a0numbers))))],[]⟩ Qa (sS (sC (QL l1_2 (Qc (List.map ci a0numbers))) Qa (sK (Qk ⟨ww l1_1 a0numbers l1_2,[]⟩ Qa (sS (sB (sS (sG (xG Qa Qa (QC (e:=3) (S:=1) (enc:=ci) (l:=a0numbers) (k:=.i64) (n:=l1_2) (sv:=.p (.sl 1 (List.map ci a0numbers))) rfl Qa Qa Qa Qa Qa) (fun x2=>xR 2 Qa (xE (Qk ⟨[(3,I l1_1),(5,I x2),(6, .p (.sl 1 (List.map ci a0numbers))),(7,I (Qc (List.map ci a0numbers))),(8,I l1_2)],[]⟩ Qa (sL Qe Qa (QT (Qk ⟨ww (wi (l1_1+(wi (x2 * x2)))) a0numbers l1_2,[]⟩ Qa (sL Qe Qa (Ky (wi (l1_1+(wi (x2 * x2))),wi (l1_2+1)) Qa))))))))))))))) (Qm (Zu (ZP (QG (Qk ⟨[(3,I l1_1)],[]⟩ Qa (Qg Qe ⟨[(2,I l1_1)],[]⟩ Qa (sT (qR (.id) Qa Qa Qa))))))))))
def Jr (r2:Int) (recl4:(Int × Int)→Option Int) (l4_1:Int) (l4_2:Int):Option Int :=
 cond (QL l4_1 l4_2)
  (cond (leI r2 (wi ((wi (2 * (wi (l4_1+(wi (Int.tdiv (wi (l4_2 - l4_1)) 2)))))) * (wi (l4_1+(wi (Int.tdiv (wi (l4_2 - l4_1)) 2)))))))
   (recl4 (l4_1,wi (l4_1+(wi (Int.tdiv (wi (l4_2 - l4_1)) 2)))))
   (recl4 (wi ((wi (l4_1+(wi (Int.tdiv (wi (l4_2 - l4_1)) 2))))+1),l4_2)))
  (some l4_1)
def Vw (n:Nat) (a0a:Int) (a1b:Int) (a2c:Int):Option (Int × Int) :=
 (WL n [a0a,a1b,a2c]).bind fun r1 =>
 cond (!r1)
  (some (0,1))
  ((XP n [wi (a0a - a1b),wi (a1b - a2c),wi (a2c - a0a)]).bind fun r2 =>
  (Q4 (fun recl4 (l4_1,l4_2)=>Jr r2 recl4 l4_1 l4_2) n (0,1000)).bind fun j3 =>
  some (j3,0))
def Rm:=fun x0=>([(1000, .box 3 [I x0])]:List (Nat × Blk))
def uO:=fun x0 x1=>([(0,I x0),(1,I x1),(2, .fn (.func 27) [] [.ptr 1000 0])]:List (Nat × AV))
theorem Dp (n:Nat) (a0a:Int) (a1b:Int) (a2c:Int):∀ r,Vw n a0a a1b a2c=some r→Q0 Tryz.prog 8 [I a0a,I a1b,I a2c] (.ret (.tup [I r.1,I r.2])):=by
 refine Qp Tryz.func8 rfl Tryz.ntmps8 rfl ?_
 unfold Vw
 refine Qg Qe (rZ a0a a1b a2c) Qa (sS (sS (sG (xR 4 Qa ?_))))
 refine xC [.sl 1] Qa (CW n [a0a,a1b,a2c]) Qa Qa QW (fun r1=>?_)
 refine xR 1 Qa (xE (Qk ⟨[(0,I a0a),(1,I a1b),(2,I a2c),(14,B (!r1))],[]⟩ Qa (sC (!r1) Qa (Qg Qe ⟨[(6,I 0),(7,I 1)],[]⟩ Qa (sT (QY (qR (.id) Qa Qa Qa)))) (sK (Qk (rZ a0a a1b a2c) Qa (sS (sG (xR 10 Qa ?_))))))))
 refine xC [.sl 1] Qa (Dn n [wi (a0a - a1b),wi (a1b - a2c),wi (a2c - a0a)]) Qa Qa QW (fun r2=>?_)
 refine xR 2 Qa (xE (Qk ⟨[qq 8],[(8, .box 3 [I r2])]⟩ Qa (sS (sG (xR 1 Qa (Yr (Rm r2) [I 0,I 1000, .fn (.func 27) [] [Ka]] [(1000,8)] [] [] Qa Tryz.func26 rfl Tryz.ntmps26 rfl Qa Qa Qa (Qg Qe ⟨uO 0 1000,Rm r2⟩ Qa (KM (fun j3=>⟨[(0,I j3)],Rm r2⟩:Int→St) ?_ ?_))))))))
 rotate_left
 ·rintro j3
  exact Qg Qe ⟨[(6,I j3)],Rm r2⟩ Qa (sT (QN (.id) [1000] [] (I j3) Qa Qa (Yq (xR 2 Qa (xE (Qk ⟨[(6,I j3),(7,I 0)],[]⟩ Qa (sT (qR (.id) Qa Qa Qa))))))))
 refine sB (Qw (fun (l4_1,l4_2)=>⟨uO l4_1 l4_2,Rm r2⟩:(Int × Int)→St) (Wq Qa) ?_)
 rintro recl4 ⟨l4_1,l4_2⟩
 show QU (Jr r2 recl4 l4_1 l4_2) _ _ _ _ _ _
 unfold Jr
 exact sS (Qg Qe ⟨[(0,I l4_1),(1,I l4_2),(2, .fn (.func 27) [] [Ka]),(10,B (QL l4_1 l4_2))],Rm r2⟩ Qa (sC (QL l4_1 l4_2) Qa (sK (Qk ⟨uO l4_1 l4_2,Rm r2⟩ Qa (sB (Qg Qe ⟨[(0,I l4_1),(1,I l4_2),(2, .fn (.func 27) [] [Ka]),(7,I (wi (l4_1+(wi (Int.tdiv (wi (l4_2 - l4_1)) 2)))))],Rm r2⟩ Qa (sS (sG (xR 2 Qa (Yr (Rm r2) [I (wi (l4_1+(wi (Int.tdiv (wi (l4_2 - l4_1)) 2)))),Ka] [(1000,1000)] [] [] Qa Tryz.func27 rfl Tryz.ntmps27 rfl Qa Qa Qa (Qg Qe ⟨[(0,I (wi (l4_1+(wi (Int.tdiv (wi (l4_2 - l4_1)) 2))))),(1,Ka)],Rm r2⟩ Qa (Qg Qe ⟨[(3,B (leI r2 (wi ((wi (2 * (wi (l4_1+(wi (Int.tdiv (wi (l4_2 - l4_1)) 2)))))) * (wi (l4_1+(wi (Int.tdiv (wi (l4_2 - l4_1)) 2))))))))],Rm r2⟩ Qa (sT (QN (.id) [1000] [] (B (leI r2 (wi ((wi (2 * (wi (l4_1+(wi (Int.tdiv (wi (l4_2 - l4_1)) 2)))))) * (wi (l4_1+(wi (Int.tdiv (wi (l4_2 - l4_1)) 2)))))))) Qa Qa (Yq (xE (Qk ⟨[(0,I l4_1),(1,I l4_2),(2, .fn (.func 27) [] [Ka]),(7,I (wi (l4_1+(wi (Int.tdiv (wi (l4_2 - l4_1)) 2))))),(19,B (leI r2 (wi ((wi (2 * (wi (l4_1+(wi (Int.tdiv (wi (l4_2 - l4_1)) 2)))))) * (wi (l4_1+(wi (Int.tdiv (wi (l4_2 - l4_1)) 2))))))))],Rm r2⟩ Qa (sC (leI r2 (wi ((wi (2 * (wi (l4_1+(wi (Int.tdiv (wi (l4_2 - l4_1)) 2)))))) * (wi (l4_1+(wi (Int.tdiv (wi (l4_2 - l4_1)) 2))))))) Qa (sL Qe Qa (QT (Ky (l4_1,wi (l4_1+(wi (Int.tdiv (wi (l4_2 - l4_1)) 2)))) Qa))) (sL Qe Qa (QT (Ky (wi ((wi (l4_1+(wi (Int.tdiv (wi (l4_2 - l4_1)) 2))))+1),l4_2) Qa))))))))))))))))))) (Qm (Zu (ZP (QG (QV l4_1 Qa)))))))
def Zm (a0s:Qj) (recl3:(Int × (List ZL))→Option (List ZL)) (l3_1:Int) (l3_2:List ZL):Option (List ZL) :=
 cond (QL l3_1 (Qc (List.map ZL.cs ([]++a0s.Chargers))))
  ((Zc l3_2 l3_1).bind fun x4 =>
  recl3 (wi (l3_1+1),List.set l3_2 (Int.toNat l3_1) (⟨x4.Name,x4.At,7,x4.Min,x4.Max,x4.Step,x4.Fallback,x4.Owner⟩:ZL)))
  (some l3_2)
def ZJ (n:Nat) (r1:Bool) (r6:(List (Int × Int × Int)) × Int) (recl9:Int→Option Bool) (l9:Int):Option Bool :=
 cond (QL l9 (Qc (List.map Qb r6.1)))
  ((Zc r6.1 l9).bind fun x10 =>
  cond (QL 1000 x10.1)
   (recl9 (wi (l9+1)))
   ((Vw n x10.1 x10.2.1 x10.2.2).bind fun r11 =>
   (cond (!Qs r11.2 0)
    (some true)
    (cond (!Qs r11.1 0)
     (some true)
     (cond (!Qs x10.1 x10.2.1)
      (some true)
      (some (!Qs x10.2.1 x10.2.2))))).bind fun j12 =>
   cond j12
    (some false)
    (recl9 (wi (l9+1)))))
  (some r1)
def ZE (n:Nat) (a0s:Qj) (a1amps:List Int):Option Bool :=
 (ZV n).bind fun r1 =>
 cond (ZB (List.length ([]++a0s.Chargers)) 72) (
  (Q4 (fun recl3 (l3_1,l3_2)=>Zm a0s recl3 l3_1 l3_2) n (0,[]++a0s.Chargers)).bind fun j2 =>
  (Ke n (⟨a0s.Conductors,a0s.Owners,a0s.Contracts,j2,a0s.Bays⟩:Qj) a1amps).bind fun r5 =>
  cond (!r5)
   (some r1)
   ((V8 n (⟨a0s.Conductors,a0s.Owners,a0s.Contracts,j2,a0s.Bays⟩:Qj) a1amps).bind fun r6 =>
   (cond (!Qs r6.2 0)
    (some true)
    (some (!Qs (Qc (List.map Qb r6.1)) (Qc (List.map ZI.cs a0s.Conductors))))).bind fun j7 =>
   cond j7
    (some false)
    (Q4 (fun recl9 l9=>ZJ n r1 r6 recl9 l9) n 0))) none
def uP:=fun x0 x1=>([(1, .p (.sl 1 (List.map ci x0))),(2, .ptr 2 0),(5,B x1)]:List (Nat × AV))
def pq:=fun x0=>(.box 28 (Kw (Qj.cs x0)):Blk)
def qH:=fun x0 x1 x2=>([(5,B x0),(52, .p (.sl 3 (List.map Qb x1))),(53,I (Qc (List.map Qb x1))),(54,I x2)]:List (Nat × AV))
def sw:=fun x0 x1 x2=>([(5,B x0),(10, .ptr 10 0),(52, .p (.sl 3 (List.map Qb x1))),(53,I (Qc (List.map Qb x1))),(54,I x2)]:List (Nat × AV))
def wy:=fun x0 x1 x2=>([(10, .box 38 [I x0,I x1,I x2])]:List (Nat × Blk))
theorem XQ (n:Nat) (a0s:Qj) (a1amps:List Int):∀ r,ZE n a0s a1amps=some r→Q0 Tryz.prog 3 [ag (Qj.cs a0s), .p (.sl 1 (List.map ci a1amps))] (.ret (B r)):=by
 refine Qp Tryz.func3 rfl Tryz.ntmps3 rfl ?_
 unfold ZE
 refine Qg Qe ⟨wh a1amps,Fg a0s⟩ Qa (sS (sG ?_))
 refine xC [] Qa (Uk n) Qa Qa QW (fun r1=>?_)
 refine xR 1 Qa (xE (Qk ⟨uP a1amps r1,Fg a0s⟩ Qa (sS (sG (xR 3 Qa (xF Qa Qa (zU (e:=32) (S:=8) (by_:=72) (enc:=ZL.cs) (tk:=14) (l:=[]) (l2:=a0s.Chargers) (xv:=.p (.sl 8 (Z5 a0s.Chargers))) (n:=(Z5 []).length) rfl Qa Qa rfl Qa Qa Qa Qa zq) (xR 2 Qa (xE (Qk ⟨[(1, .p (.sl 1 (List.map ci a1amps))),qq 2,(5,B r1)],[(2, .box 28 (List.set (Kw (Qj.cs ⟨a0s.Conductors,a0s.Owners,a0s.Contracts,[],a0s.Bays⟩)) 3 (.vsl 8 14 (Z5 ([]++a0s.Chargers)).length))),(14, .vec 32 8 (Z5 ([]++a0s.Chargers)))]⟩ Qa (KM (fun j2=>⟨uP a1amps r1,[(2,(pq ⟨a0s.Conductors,a0s.Owners,a0s.Contracts,j2,a0s.Bays⟩))]⟩:(List ZL)→St) ?_ ?_))))))))))
 ·refine sS (sG (xR 2 Qa (Ze Qa Qa (mh (tk:=14) (es:=Z5 ([]++a0s.Chargers)) (S:=8) (n:=(Z5 ([]++a0s.Chargers)).length) (e:=32) (ty:=32) rfl Qa Qa Qa zq) (xR 1 Qa (xE (Qk ⟨[(1, .p (.sl 1 (List.map ci a1amps))),qq 2,(5,B r1),(21,I (Qc (Z5 ([]++a0s.Chargers)))),(22,I 0)],[(2, .box 28 (List.set (Kw (Qj.cs ⟨a0s.Conductors,a0s.Owners,a0s.Contracts,[],a0s.Bays⟩)) 3 (.vsl 8 14 (Z5 ([]++a0s.Chargers)).length))),(14, .vec 32 8 (Z5 ([]++a0s.Chargers)))]⟩ Qa (sB (Qw (fun (l3_1,l3_2)=>⟨[(1, .p (.sl 1 (List.map ci a1amps))),qq 2,(5,B r1),(21,I (Qc (Z5 ([]++a0s.Chargers)))),(22,I l3_1)],[(2, .box 28 (List.set (Kw (Qj.cs ⟨a0s.Conductors,a0s.Owners,a0s.Contracts,[],a0s.Bays⟩)) 3 (.vsl 8 14 (Z5 l3_2).length))),(14, .vec 32 8 (Z5 l3_2))]⟩:(Int × (List ZL))→St) (Wq Qa) ?_))))))))
  rintro recl3 ⟨l3_1,l3_2⟩
  show QU (Zm a0s recl3 l3_1 l3_2) _ _ _ _ _ _
  unfold Zm
  refine Qg Qe ⟨[(1, .p (.sl 1 (List.map ci a1amps))),qq 2,(5,B r1),(21,I (Qc (Z5 ([]++a0s.Chargers)))),(22,I l3_1),(23,B (QL l3_1 (Qc (Z5 ([]++a0s.Chargers)))))],[(2, .box 28 (List.set (Kw (Qj.cs ⟨a0s.Conductors,a0s.Owners,a0s.Contracts,[],a0s.Bays⟩)) 3 (.vsl 8 14 (Z5 l3_2).length))),(14, .vec 32 8 (Z5 l3_2))]⟩ Qa (sS (sC (QL l3_1 (Qc (Z5 ([]++a0s.Chargers)))) Qa ?_ ?_))
  ·exact sK (Qk ⟨[(1, .p (.sl 1 (List.map ci a1amps))),qq 2,(5,B r1),(21,I (Qc (Z5 ([]++a0s.Chargers)))),(22,I l3_1)],[(2, .box 28 (List.set (Kw (Qj.cs ⟨a0s.Conductors,a0s.Owners,a0s.Contracts,[],a0s.Bays⟩)) 3 (.vsl 8 14 (Z5 l3_2).length))),(14, .vec 32 8 (Z5 l3_2))]⟩ Qa (sS (sB (Qg Qe ⟨[(1, .p (.sl 1 (List.map ci a1amps))),qq 2,(5,B r1),(6,I l3_1),(21,I (Qc (Z5 ([]++a0s.Chargers)))),(22,I l3_1)],[(2, .box 28 (List.set (Kw (Qj.cs ⟨a0s.Conductors,a0s.Owners,a0s.Contracts,[],a0s.Bays⟩)) 3 (.vsl 8 14 (Z5 l3_2).length))),(14, .vec 32 8 (Z5 l3_2))]⟩ Qa (sG (xR 3 Qa (BJ Qa Qa (Tp (e:=32) (S:=8) (tk:=14) (ty:=32) (enc:=ZL.cs) (l:=l3_2) (k:=.i64) (n:=l3_1) (nn:=(Z5 l3_2).length) rfl Qa Qa Qa Qa Qa zq) (fun x4 hx4=>(Ze Qa Qa (mi (S:=8) (ty:=32) (tk:=14) (k:=Int.toNat l3_1) (g:=0) (off:=2) (es:=Z5 l3_2) rfl Qa Qa Qa) (Ze Qa Qa (Um (S:=8) (tb:=32) (tk:=14) (n:=Int.toNat l3_1) (f:=2) (enc:=ZL.cs) (l:=l3_2) (v:=x4) (v':=(⟨x4.Name,x4.At,7,x4.Min,x4.Max,x4.Step,x4.Fallback,x4.Owner⟩:ZL)) (xv:=I 7) rfl Qa Qa Qa (YX hx4) Qa) (xE (QT (Qk ⟨[(1, .p (.sl 1 (List.map ci a1amps))),qq 2,(5,B r1),(21,I (Qc (Z5 ([]++a0s.Chargers)))),(22,I l3_1)],[(2, .box 28 (List.set (Kw (Qj.cs ⟨a0s.Conductors,a0s.Owners,a0s.Contracts,[],a0s.Bays⟩)) 3 (.vsl 8 14 (Z5 l3_2).length))),(14, .vec 32 8 (Z5 (List.set l3_2 (Int.toNat l3_1) (⟨x4.Name,x4.At,7,x4.Min,x4.Max,x4.Step,x4.Fallback,x4.Owner⟩:ZL))))]⟩ Qa (sL Qe Qa (bP  (wi (l3_1+1),List.set l3_2 (Int.toNat l3_1) (⟨x4.Name,x4.At,7,x4.Min,x4.Max,x4.Step,x4.Fallback,x4.Owner⟩:ZL)) ⟨[1,2,5,21,22],[2,14],[],[]⟩ ⟨[(1, .p (.sl 1 (List.map ci a1amps))),qq 2,(5,B r1),(21,I (Qc (Z5 ([]++a0s.Chargers)))),(22,I (wi (l3_1+1)))],[(2, .box 28 (List.set (Kw (Qj.cs ⟨a0s.Conductors,a0s.Owners,a0s.Contracts,[],a0s.Bays⟩)) 3 (.vsl 8 14 (Z5 l3_2).length))),(14, .vec 32 8 (Z5 (List.set l3_2 (Int.toNat l3_1) (⟨x4.Name,x4.At,7,x4.Min,x4.Max,x4.Step,x4.Fallback,x4.Owner⟩:ZL))))]⟩ Qa zq)))))))))))))))
  exact Qm (Zu (ZP (QG (Qcz l3_2 ⟨[1,2,5],[2,14],[],[]⟩ ⟨[(1, .p (.sl 1 (List.map ci a1amps))),qq 2,(5,B r1)],[(2, .box 28 (List.set (Kw (Qj.cs ⟨a0s.Conductors,a0s.Owners,a0s.Contracts,[],a0s.Bays⟩)) 3 (.vsl 8 14 (Z5 l3_2).length))),(14, .vec 32 8 (Z5 l3_2))]⟩ Qa (FY 14 32 8 (Z5 l3_2) [(Z5 l3_2).length] Qa Qa zq Qa Qa) ⟨[1,2,5],[2],[],[]⟩ Qa))))
 rintro j2
 refine sS (sS (sG (xR 2 Qa ?_)))
 refine xC [] Qa (UK n (⟨a0s.Conductors,a0s.Owners,a0s.Contracts,j2,a0s.Bays⟩:Qj) a1amps) Qa Qa QW (fun r5=>?_)
 refine xR 1 Qa (xE (Qk ⟨[(1, .p (.sl 1 (List.map ci a1amps))),qq 2,(5,B r1),(34,B (!r5))],[(2,(pq ⟨a0s.Conductors,a0s.Owners,a0s.Contracts,j2,a0s.Bays⟩))]⟩ Qa (sC (!r5) Qa (Qg Qe ⟨[(4,B r1)],[]⟩ Qa (sT (QY (qR (.id) Qa Qa Qa)))) (sK (Qk ⟨uP a1amps r1,[(2,(pq ⟨a0s.Conductors,a0s.Owners,a0s.Contracts,j2,a0s.Bays⟩))]⟩ Qa (sS (sG (xR 2 Qa ?_))))))))
 refine xC [] Qa (UV n (⟨a0s.Conductors,a0s.Owners,a0s.Contracts,j2,a0s.Bays⟩:Qj) a1amps) Qa Qa QW (fun r6=>?_)
 refine xR 5 Qa (xE (Qk ⟨[qq 2,(5,B r1),(7, .p (.sl 3 (List.map Qb r6.1))),(8,I r6.2)],[(2,(pq ⟨a0s.Conductors,a0s.Owners,a0s.Contracts,j2,a0s.Bays⟩))]⟩ Qa (sS (KM (fun j7=>⟨[(5,B r1),(7, .p (.sl 3 (List.map Qb r6.1))),(51,B j7)],[]⟩:Bool→St) (sG (xR 3 Qa (xS (!Qs r6.2 0) (fun h8=>xN (QB Qa h8) Qa (xR 6 Qa (xE (QV true Qa)))) (fun h8=>xO (QA Qa h8) Qa (xR 6 Qa (xE (QV (!Qs (Qc (List.map Qb r6.1)) (Qc (XM a0s.Conductors))) Qa))))))) ?_))))
 rintro j7
 refine sC j7 Qa (Qg Qe ⟨[(4,B false)],[]⟩ Qa (sT (QY (qR (.id) Qa Qa Qa)))) (sK (Qk ⟨[(5,B r1),(7, .p (.sl 3 (List.map Qb r6.1)))],[]⟩ Qa (sS (Qg Qe ⟨qH r1 r6.1 0,[]⟩ Qa (sB (Qw (fun l9=>⟨qH r1 r6.1 l9,[]⟩:Int→St) (Wq Qa) ?_))))))
 rintro recl9 l9
 show QU (ZJ n r1 r6 recl9 l9) _ _ _ _ _ _
 unfold ZJ
 refine Qg Qe ⟨[(5,B r1),(52, .p (.sl 3 (List.map Qb r6.1))),(53,I (Qc (List.map Qb r6.1))),(54,I l9),(55,B (QL l9 (Qc (List.map Qb r6.1))))],[]⟩ Qa (sS (sC (QL l9 (Qc (List.map Qb r6.1))) Qa (sK (Qk ⟨qH r1 r6.1 l9,[]⟩ Qa (sS (sB (sS (sG (xG Qa Qa (QC (e:=38) (S:=3) (enc:=Qb) (l:=r6.1) (k:=.i64) (n:=l9) (sv:=.p (.sl 3 (List.map Qb r6.1))) rfl Qa Qa Qa Qa Qa) (fun x10=>xR 3 Qa (xE (Qk ⟨sw r1 r6.1 l9,wy x10.1 x10.2.1 x10.2.2⟩ Qa (sS (Qg Qe ⟨[(5,B r1),qq 10,(52, .p (.sl 3 (List.map Qb r6.1))),(53,I (Qc (List.map Qb r6.1))),(54,I l9),(60,B (QL 1000 x10.1))],wy x10.1 x10.2.1 x10.2.2⟩ Qa (sC (QL 1000 x10.1) Qa (Qm (Zu (QG (Qk ⟨qH r1 r6.1 l9,[]⟩ Qa (sL Qe Qa (Ky (wi (l9+1)) Qa)))))) (sK (Qk ⟨sw r1 r6.1 l9,wy x10.1 x10.2.1 x10.2.2⟩ Qa (sS (sG (xR 6 Qa ?_)))))))))))))))))) (Qm (Zu (ZP (QG (Qk ⟨[(5,B r1)],[]⟩ Qa (Qg Qe ⟨[(4,B r1)],[]⟩ Qa (sT (qR (.id) Qa Qa Qa))))))))))
 refine xC [] Qa (Dp n x10.1 x10.2.1 x10.2.2) Qa Qa QW (fun r11=>?_)
 refine xR 5 Qa (xE (Qk ⟨[(5,B r1),qq 10,(11,I r11.1),(12,I r11.2),(52, .p (.sl 3 (List.map Qb r6.1))),(53,I (Qc (List.map Qb r6.1))),(54,I l9)],wy x10.1 x10.2.1 x10.2.2⟩ Qa (KM (fun j12=>⟨[(5,B r1),(52, .p (.sl 3 (List.map Qb r6.1))),(53,I (Qc (List.map Qb r6.1))),(54,I l9),(90,B j12)],[]⟩:Bool→St) ?_ ?_)))
 rotate_left
 ·rintro j12
  exact sC j12 Qa (Qg Qe ⟨[(4,B false)],[]⟩ Qa (sT (Q9 (QY (KC (Q9 (QY (qR (.id) Qa Qa Qa)))))))) (sK (QT (Qk ⟨qH r1 r6.1 l9,[]⟩ Qa (sL Qe Qa (Ky (wi (l9+1)) Qa)))))
 exact sG (xR 3 Qa (xS (!Qs r11.2 0) (fun h13=>xN (QB Qa h13) Qa (xR 16 Qa (xE (QV true Qa)))) (fun h13=>xO (QA Qa h13) Qa (xR 3 Qa (xS (!Qs r11.1 0) (fun h14=>xN (QB Qa h14) Qa (xR 12 Qa (xE (QV true Qa)))) (fun h14=>xO (QA Qa h14) Qa (xR 6 Qa (xS (!Qs x10.1 x10.2.1) (fun h15=>xN (QB Qa h15) Qa (xR 5 Qa (xE (QV true Qa)))) (fun h15=>xO (QA Qa h15) Qa (xR 5 Qa (xE (QV (!Qs x10.2.1 x10.2.2) Qa))))))))))))
structure pu where
 Kind:Int
 Days:Int
 From:Int
 To:Int
 Price:Int
 Unit:Int
 Free:Int
deriving DecidableEq
def pu.cs (x:pu):List PV:=[VI x.Kind,VI x.Days,VI x.From,VI x.To,VI x.Price,VI x.Unit,VI x.Free]
structure GTr where
 article:pu
 values:List (List PV)
 good:Bool
def GTr.cs (x:GTr):List PV:=[VI x.article.Kind,VI x.article.Days,VI x.article.From,VI x.article.To,VI x.article.Price,VI x.article.Unit,VI x.article.Free, .sl 5 (List.map YC x.values),VB x.good]
structure GTf where
 Name:List UInt8
 Articles:List pu
deriving DecidableEq
def GTf.cs (x:GTf):List PV:=[VS x.Name, .sl 7 (List.map pu.cs x.Articles)]
structure sD where
 At:Int
 Offset:Int
deriving DecidableEq
def sD.cs (x:sD):List PV:=[VI x.At,VI x.Offset]
structure iZ where
 Offset:Int
 Changes:List sD
 Holidays:List Int
deriving DecidableEq
def iZ.cs (x:iZ):List PV:=[VI x.Offset, .sl 2 (List.map sD.cs x.Changes), .sl 1 (List.map ci x.Holidays)]
structure sF where
 Minute:Int
 Energy:Int
deriving DecidableEq
def sF.cs (x:sF):List PV:=[VI x.Minute,VI x.Energy]
structure GSs where
 From:Int
 To:Int
 End:Int
 Slices:List sF
deriving DecidableEq
def GSs.cs (x:GSs):List PV:=[VI x.From,VI x.To,VI x.End, .sl 2 (List.map sF.cs x.Slices)]
structure Em where
 Article:Int
 Amount:Int
deriving DecidableEq
def Em.cs (x:Em):List PV:=[VI x.Article,VI x.Amount]
structure wz where
 Lines:List Em
 Net:Int
 Tax:Int
 Total:Int
deriving DecidableEq
def wz.cs (x:wz):List PV:=[.sl 2 (List.map Em.cs x.Lines),VI x.Net,VI x.Tax,VI x.Total]
structure GBB where
 article:pu
 calendar:iZ
 session:GSs
deriving DecidableEq
def GBB.cs (x:GBB):List PV:=[VI x.article.Kind,VI x.article.Days,VI x.article.From,VI x.article.To,VI x.article.Price,VI x.article.Unit,VI x.article.Free,VI x.calendar.Offset, .sl 2 (List.map sD.cs x.calendar.Changes), .sl 1 (List.map ci x.calendar.Holidays),VI x.session.From,VI x.session.To,VI x.session.End, .sl 2 (List.map sF.cs x.session.Slices)]
structure CX where
 Tariff:GTf
 calendar:iZ
 from_:Int
 to_:Int
deriving DecidableEq
def CX.cs (x:CX):List PV:=[VS x.Tariff.Name, .sl 7 (List.map pu.cs x.Tariff.Articles),VI x.calendar.Offset, .sl 2 (List.map sD.cs x.calendar.Changes), .sl 1 (List.map ci x.calendar.Holidays),VI x.from_,VI x.to_]
structure JJ where
 Serial:Int
 Number:Int
 Minute:Int
 Register:Int
 Link:Int
deriving DecidableEq
def JJ.cs (x:JJ):List PV:=[VI x.Serial,VI x.Number,VI x.Minute,VI x.Register,VU x.Link]
structure yl where
 Tariff:GTf
 Calendar:iZ
 Readings:List JJ
 Seed:Int
 Session:GSs
 Bill:wz
deriving DecidableEq
def yl.cs (x:yl):List PV:=[VS x.Tariff.Name, .sl 7 (List.map pu.cs x.Tariff.Articles),VI x.Calendar.Offset, .sl 2 (List.map sD.cs x.Calendar.Changes), .sl 1 (List.map ci x.Calendar.Holidays), .sl 5 (List.map JJ.cs x.Readings),VU x.Seed,VI x.Session.From,VI x.Session.To,VI x.Session.End, .sl 2 (List.map sF.cs x.Session.Slices), .sl 2 (List.map Em.cs x.Bill.Lines),VI x.Bill.Net,VI x.Bill.Tax,VI x.Bill.Total]
structure GAE where
 Claim:yl
 follows:GSs
 bill:wz
 rate:Int
deriving DecidableEq
def GAE.cs (x:GAE):List PV:=[VS x.Claim.Tariff.Name, .sl 7 (List.map pu.cs x.Claim.Tariff.Articles),VI x.Claim.Calendar.Offset, .sl 2 (List.map sD.cs x.Claim.Calendar.Changes), .sl 1 (List.map ci x.Claim.Calendar.Holidays), .sl 5 (List.map JJ.cs x.Claim.Readings),VU x.Claim.Seed,VI x.Claim.Session.From,VI x.Claim.Session.To,VI x.Claim.Session.End, .sl 2 (List.map sF.cs x.Claim.Session.Slices), .sl 2 (List.map Em.cs x.Claim.Bill.Lines),VI x.Claim.Bill.Net,VI x.Claim.Bill.Tax,VI x.Claim.Bill.Total,VI x.follows.From,VI x.follows.To,VI x.follows.End, .sl 2 (List.map sF.cs x.follows.Slices), .sl 2 (List.map Em.cs x.bill.Lines),VI x.bill.Net,VI x.bill.Tax,VI x.bill.Total,VI x.rate]
def Iz (n:Nat) (a0w:List UInt8):Option Bool :=
 (cond (Q8 a0w [102,101,101,100,101,114])
  (some (Q8 a0w [102,101,101,100,101,114]))
  (cond (Q8 a0w [99,97,98,108,101])
   (some (Q8 a0w [99,97,98,108,101]))
   (cond (Q8 a0w [111,119,110,101,114])
    (some (Q8 a0w [111,119,110,101,114]))
    (cond (Q8 a0w [99,111,110,116,114,97,99,116])
     (some (Q8 a0w [99,111,110,116,114,97,99,116]))
     (cond (Q8 a0w [99,104,97,114,103,101,114])
      (some (Q8 a0w [99,104,97,114,103,101,114]))
      (cond (Q8 a0w [98,97,121])
       (some (Q8 a0w [98,97,121]))
       (some (Q8 a0w [116,97,114,105,102,102])))))))).bind fun j1 =>
 cond j1
  (some true)
  ((cond (Q8 a0w [108,105,109,105,116])
   (some (Q8 a0w [108,105,109,105,116]))
   (cond (Q8 a0w [110,101,117,116,114,97,108])
    (some (Q8 a0w [110,101,117,116,114,97,108]))
    (cond (Q8 a0w [102,117,115,101])
     (some (Q8 a0w [102,117,115,101]))
     (cond (Q8 a0w [116,104,101,114,109,97,108])
      (some (Q8 a0w [116,104,101,114,109,97,108]))
      (cond (Q8 a0w [102,114,111,109])
       (some (Q8 a0w [102,114,111,109]))
       (cond (Q8 a0w [97,116])
        (some (Q8 a0w [97,116]))
        (cond (Q8 a0w [112,104,97,115,101,115])
         (some (Q8 a0w [112,104,97,115,101,115]))
         (cond (Q8 a0w [97,109,112,115])
          (some (Q8 a0w [97,109,112,115]))
          (cond (Q8 a0w [102,97,108,108,98,97,99,107])
           (some (Q8 a0w [102,97,108,108,98,97,99,107]))
           (cond (Q8 a0w [99,97,114,100])
            (some (Q8 a0w [99,97,114,100]))
            (some (Q8 a0w [114,97,110,107])))))))))))).bind fun j2 =>
  cond j2
   (some true)
   ((cond (Q8 a0w [115,116,97,114,116])
    (some (Q8 a0w [115,116,97,114,116]))
    (cond (Q8 a0w [101,110,101,114,103,121])
     (some (Q8 a0w [101,110,101,114,103,121]))
     (cond (Q8 a0w [116,105,109,101])
      (some (Q8 a0w [116,105,109,101]))
      (cond (Q8 a0w [105,100,108,101])
       (some (Q8 a0w [105,100,108,101]))
       (cond (Q8 a0w [99,97,112])
        (some (Q8 a0w [99,97,112]))
        (some (Q8 a0w [116,97,120]))))))).bind fun j3 =>
   cond j3
    (some true)
    ((cond (Q8 a0w [111,110])
     (some (Q8 a0w [111,110]))
     (cond (Q8 a0w [119,111,114,107])
      (some (Q8 a0w [119,111,114,107]))
      (cond (Q8 a0w [115,97,116,117,114,100,97,121])
       (some (Q8 a0w [115,97,116,117,114,100,97,121]))
       (cond (Q8 a0w [115,117,110,100,97,121])
        (some (Q8 a0w [115,117,110,100,97,121]))
        (cond (Q8 a0w [98,101,116,119,101,101,110])
         (some (Q8 a0w [98,101,116,119,101,101,110]))
         (cond (Q8 a0w [112,101,114])
          (some (Q8 a0w [112,101,114]))
          (some (Q8 a0w [102,114,101,101])))))))).bind fun j4 =>
    cond j4
     (some true)
     (some false))))
structure GLs where
 from_:Int
 to_:Int
deriving DecidableEq
def GLs.cs (x:GLs):List PV:=[VI x.from_,VI x.to_]
end Go.Proofs
namespace Go.Proofs
open Go Go.Abs Go.ChangeShapes Go.WideShapes Go.ChangeAt Go.RowKit Go.Proofs.YtkhhdppjbakngaaGreat
set_option maxRecDepth 100000
structure UE.wf (x:UE):Prop where
 Rated:UO x.Rated
 Heat:UO x.Heat
theorem uQ {d:Nat} {cs:List PV} (h:Sh Tryz.prog (d+2) 50 cs):∃ r:UE,cs=UE.cs r∧UE.wf r:=by
 have h:=Xk Tryz.underlying50 h
 obtain ⟨_,_,rfl,h0,_,_,rfl,h1,rfl⟩:=h
 obtain ⟨x0,rfl,w0⟩:=Y0 Tryz.underlying3 h0
 obtain ⟨x1,rfl,w1⟩:=Y0 Tryz.underlying3 h1
 exact ⟨⟨x0,x1⟩,rfl,⟨w0,w1⟩⟩
structure KN.wf (x:KN):Prop where
 Ambient:UO x.Ambient
 Most:UO x.Most
 Gain:UO x.Gain
 Loss:UO x.Loss
 Den:UO x.Den
theorem jR {d:Nat} {cs:List PV} (h:Sh Tryz.prog (d+2) 52 cs):∃ r:KN,cs=KN.cs r∧KN.wf r:=by
 have h:=Xk Tryz.underlying52 h
 obtain ⟨_,_,rfl,h0,_,_,rfl,h1,_,_,rfl,h2,_,_,rfl,h3,_,_,rfl,h4,rfl⟩:=h
 obtain ⟨x0,rfl,w0⟩:=Y0 Tryz.underlying3 h0
 obtain ⟨x1,rfl,w1⟩:=Y0 Tryz.underlying3 h1
 obtain ⟨x2,rfl,w2⟩:=Y0 Tryz.underlying3 h2
 obtain ⟨x3,rfl,w3⟩:=Y0 Tryz.underlying3 h3
 obtain ⟨x4,rfl,w4⟩:=Y0 Tryz.underlying3 h4
 exact ⟨⟨x0,x1,x2,x3,x4⟩,rfl,⟨w0,w1,w2,w3,w4⟩⟩
structure ZI.wf (x:ZI):Prop where
 Name:uh x.Name
 Up:UO x.Up
 Limit:UO x.Limit
 Neutral:UO x.Neutral
 Fuse:UE.wf x.Fuse
 Cable:KN.wf x.Cable
theorem lC {d:Nat} {cs:List PV} (h:Sh Tryz.prog (d+3) 54 cs):∃ r:ZI,cs=ZI.cs r∧ZI.wf r:=by
 have h:=Xk Tryz.underlying54 h
 obtain ⟨_,_,rfl,h0,_,_,rfl,h1,_,_,rfl,h2,_,_,rfl,h3,_,_,rfl,h4,_,_,rfl,h5,rfl⟩:=h
 obtain ⟨x0,rfl,w0⟩:=Ad Tryz.underlying9 h0
 obtain ⟨x1,rfl,w1⟩:=Y0 Tryz.underlying3 h1
 obtain ⟨x2,rfl,w2⟩:=Y0 Tryz.underlying3 h2
 obtain ⟨x3,rfl,w3⟩:=Y0 Tryz.underlying3 h3
 obtain ⟨x4,rfl,w4⟩:=uQ h4
 obtain ⟨x5,rfl,w5⟩:=jR h5
 exact ⟨⟨x0,x1,x2,x3,x4,x5⟩,rfl,⟨w0,w1,w2,w3,w4,w5⟩⟩
structure Zf.wf (x:Zf):Prop where
 Name:uh x.Name
theorem jS {d:Nat} {cs:List PV} (h:Sh Tryz.prog (d+2) 166 cs):∃ r:Zf,cs=Zf.cs r∧Zf.wf r:=by
 have h:=Xk Tryz.underlying166 h
 obtain ⟨_,_,rfl,h0,rfl⟩:=h
 obtain ⟨x0,rfl,w0⟩:=Ad Tryz.underlying9 h0
 exact ⟨⟨x0⟩,rfl,⟨w0⟩⟩
structure Kq.wf (x:Kq):Prop where
 Name:uh x.Name
 Owner:UO x.Owner
 Rank:UO x.Rank
 Card:UO x.Card
theorem lD {d:Nat} {cs:List PV} (h:Sh Tryz.prog (d+2) 120 cs):∃ r:Kq,cs=Kq.cs r∧Kq.wf r:=by
 have h:=Xk Tryz.underlying120 h
 obtain ⟨_,_,rfl,h0,_,_,rfl,h1,_,_,rfl,h2,_,_,rfl,h3,rfl⟩:=h
 obtain ⟨x0,rfl,w0⟩:=Ad Tryz.underlying9 h0
 obtain ⟨x1,rfl,w1⟩:=Y0 Tryz.underlying3 h1
 obtain ⟨x2,rfl,w2⟩:=Y0 Tryz.underlying3 h2
 obtain ⟨x3,rfl,w3⟩:=Y0 Tryz.underlying3 h3
 exact ⟨⟨x0,x1,x2,x3⟩,rfl,⟨w0,w1,w2,w3⟩⟩
structure ZL.wf (x:ZL):Prop where
 Name:uh x.Name
 At:UO x.At
 Phases:UO x.Phases
 Min:UO x.Min
 Max:UO x.Max
 Step:UO x.Step
 Fallback:UO x.Fallback
 Owner:UO x.Owner
theorem lF {d:Nat} {cs:List PV} (h:Sh Tryz.prog (d+2) 32 cs):∃ r:ZL,cs=ZL.cs r∧ZL.wf r:=by
 have h:=Xk Tryz.underlying32 h
 obtain ⟨_,_,rfl,h0,_,_,rfl,h1,_,_,rfl,h2,_,_,rfl,h3,_,_,rfl,h4,_,_,rfl,h5,_,_,rfl,h6,_,_,rfl,h7,rfl⟩:=h
 obtain ⟨x0,rfl,w0⟩:=Ad Tryz.underlying9 h0
 obtain ⟨x1,rfl,w1⟩:=Y0 Tryz.underlying3 h1
 obtain ⟨x2,rfl,w2⟩:=Y0 Tryz.underlying3 h2
 obtain ⟨x3,rfl,w3⟩:=Y0 Tryz.underlying3 h3
 obtain ⟨x4,rfl,w4⟩:=Y0 Tryz.underlying3 h4
 obtain ⟨x5,rfl,w5⟩:=Y0 Tryz.underlying3 h5
 obtain ⟨x6,rfl,w6⟩:=Y0 Tryz.underlying3 h6
 obtain ⟨x7,rfl,w7⟩:=Y0 Tryz.underlying3 h7
 exact ⟨⟨x0,x1,x2,x3,x4,x5,x6,x7⟩,rfl,⟨w0,w1,w2,w3,w4,w5,w6,w7⟩⟩
structure Zt.wf (x:Zt):Prop where
 Name:uh x.Name
 Charger:UO x.Charger
theorem pz {d:Nat} {cs:List PV} (h:Sh Tryz.prog (d+2) 123 cs):∃ r:Zt,cs=Zt.cs r∧Zt.wf r:=by
 have h:=Xk Tryz.underlying123 h
 obtain ⟨_,_,rfl,h0,_,_,rfl,h1,rfl⟩:=h
 obtain ⟨x0,rfl,w0⟩:=Ad Tryz.underlying9 h0
 obtain ⟨x1,rfl,w1⟩:=Y0 Tryz.underlying3 h1
 exact ⟨⟨x0,x1⟩,rfl,⟨w0,w1⟩⟩
structure Qj.wf (x:Qj):Prop where
 Conductors:(Ac ZI.wf) x.Conductors
 Owners:(Ac Zf.wf) x.Owners
 Contracts:(Ac Kq.wf) x.Contracts
 Chargers:(Ac ZL.wf) x.Chargers
 Bays:(Ac Zt.wf) x.Bays
theorem uR {d:Nat} {cs:List PV} (h:Sh Tryz.prog (d+5) 28 cs):∃ r:Qj,cs=Qj.cs r∧Qj.wf r:=by
 have h:=Xk Tryz.underlying28 h
 obtain ⟨_,_,rfl,h0,_,_,rfl,h1,_,_,rfl,h2,_,_,rfl,h3,_,_,rfl,h4,rfl⟩:=h
 obtain ⟨x0,rfl,w0⟩:=Dj (S:=11) (f:=ZI.cs) (W:=ZI.wf) Tryz.underlying22 Qa (fun c h=>lC h) h0
 obtain ⟨x1,rfl,w1⟩:=Dj (S:=1) (f:=Zf.cs) (W:=Zf.wf) Tryz.underlying23 Qa (fun c h=>jS h) h1
 obtain ⟨x2,rfl,w2⟩:=Dj (S:=4) (f:=Kq.cs) (W:=Kq.wf) Tryz.underlying24 Qa (fun c h=>lD h) h2
 obtain ⟨x3,rfl,w3⟩:=Dj (S:=8) (f:=ZL.cs) (W:=ZL.wf) Tryz.underlying25 Qa (fun c h=>lF h) h3
 obtain ⟨x4,rfl,w4⟩:=Dj (S:=2) (f:=Zt.cs) (W:=Zt.wf) Tryz.underlying26 Qa (fun c h=>pz h) h4
 exact ⟨⟨x0,x1,x2,x3,x4⟩,rfl,⟨w0,w1,w2,w3,w4⟩⟩
theorem PN {H:Type} {enc:TypeId × Value→H} {a:Assume} {C:Checked} {os:Os} {f:FuncId} {fn:Func} {s:ChangeSpec} {conds:List PathCond} {apart fresh handsOn again:Bool}
  (own:ownKnob C.prog.godebug=none) (started:os.Started) (noInit:C.prog.inits.idxOf? f=none) (hfn:C.prog.funcs[f]?=some fn)
  (witness:∃ (w:World) (tape:Tape) (i:Input),w.os=os∧(w.forCall tape i).Shaped C.prog∧i.vars=[]∧Input.okWide C.prog (w.forCall tape i) .any w.heap.size f i ∧
   s.pre6 enc C.prog fn conds apart (w.forCall tape i).memory i.args∧a.holds C.prog (lone (Frame.enter C.prog f i.args .normal) [] (w.forCall tape i)))
  (contract:∀ (W:World) (base:Nat) (args:Array Value) (ds gs:List (DataW H)) (before:List MemPlace),
   (∀ (j:Nat) t v,fn.params[j]?=some t→args[j]?=some v→Value.okWide C.prog W .any base t v) →
   DataW.Whole enc C.prog fn.params.toList s.vars apart W args.toList ds gs before →
   (DataW.weightsEach C.prog (fn.params.toList++s.plain.varTypes C.prog) (ds++gs)).all (·≤reachBytes)=true →
   Calls C.prog f args W fun e W'=>∃ v,e=.returned v∧s.post enc C.prog fn apart fresh handsOn again W args v W') :
  ReturnsInHanded a C os f .any (s.pre6 enc C.prog fn conds apart) (s.post enc C.prog fn apart fresh handsOn again):=by
 have h:=returnsInHanded_of_change_and (a:=a) (C:=C) (os:=os) (f:=f) (fn:=fn) (s:=s) (conds:=conds) (apart:=apart) (fresh:=fresh) (handsOn:=handsOn) (again:=again) (enc:=enc) (X:=fun _ _=>True) (fun _ _ _ _ _=>trivial) own started noInit hfn
  (by obtain ⟨w,t,i,h1,h2,h3,h4,h5,h6⟩:=witness; exact ⟨w,t,i,h1,h2,h3,h4,⟨⟨h5.1,trivial⟩,h5.2⟩,h6⟩)
  (fun W base args ds gs before h1 h2 _ h3 _ _=>contract W base args ds gs before h1 h2 h3)
 have e:(fun w args=>(s.pre enc C.prog fn conds apart w args∧True)∧sizedMet enc C.prog fn (OpenSpec.ofChange s) apart w args)=s.pre6 enc C.prog fn conds apart:=by
  funext w args
  simp [ChangeSpec.pre6]
 rw [e] at h
 exact h
theorem RJ {H:Type} {P:Program}:∀ (ts:List TypeId) (ds:List (DataW H)) (i:Nat) (t:TypeId) (d:DataW H),ts[i]?=some t→ds[i]?=some d→∀ x ∈ d.weights P t,x ∈ DataW.weightsEach P ts ds
 | [],_,_,_,_,h,_=>by simp at h
 | _ :: _,[],_,_,_,_,h=>by simp at h
 | t0 :: ts,d0 :: ds,0,t,d,h,h'=>by
  simp only [List.getElem?_cons_zero,Zd] at h h'
  subst h; subst h'
  intro x hx
  simp only [DataW.weightsEach,List.mem_append]
  exact .inl hx
 | t0 :: ts,d0 :: ds,i+1,t,d,h,h'=>by
  intro x hx
  simp only [DataW.weightsEach,List.mem_append]
  exact .inr (RJ ts ds i t d (by simpa using h) (by simpa using h') x hx)
theorem Ol {H:Type} {enc:TypeId × Value→H} {P:Program} {w w':World} {M:QR} {sp:Nat→Bool} {base fuel S:Nat} {held:Bool} {t e:TypeId} {v:Value} {es:List (List PV)} {x:DataW H × List MemPlace} (ht:P.underlying t=some (.slice e)) (h:DataW.trod enc P w base sp held fuel t [v]=some x)
  (hr:Q5 w' M (.sl S es) v):es=[]∨∃ n ∈ x.1.weights P t,es.length * P.bytesOf e≤n:=by
 simp only [Q5] at hr
 rcases DataW.trod_slice ht h with ⟨h1,rfl⟩ | ⟨a,len,cap,elems,rest,n,_,h1,rfl,_,_,_,hel,_⟩
 ·simp only [List.cons.injEq,and_true] at h1
  subst h1
  rcases hr with ⟨r,o,c,h2,_⟩ | ⟨rfl,_⟩
  ·cases h2
  ·exact .inl rfl
 ·simp only [List.cons.injEq,and_true] at h1
  subst h1
  rcases hr with ⟨r,o,c,h2,_⟩ | ⟨rfl,_⟩
  ·simp only [Value.slice.injEq] at h2
   refine .inr ⟨_,by simp only [DataW.weights,ht]; exact List.mem_cons_self,?_⟩
   refine Nat.mul_le_mul_right _ ?_
   simp only [List.length_map]
   omega
  ·exact .inl rfl
def Xn:Prop:=∀ (a0:Qj) (a1:List Int),a0.Chargers.length * 72≤140737488351232→Qj.wf a0→(Ac UO) a1→∃ n,ZE n a0 a1=some true
theorem M6 (h:Xn):∀ xs,O4 Tryz.prog 9 Tryz.f3.params.toList xs→(∀ (cs:List PV) (r:List AV) (S:Nat) (es:List (List PV)),xs=ag cs :: r→cs[3]?=some (.sl S es)→es.length * 72≤140737488351232)→Q0 Tryz.prog 3 xs (.ret (.p (.val (.bool true)))):=by
 intro xs ha hb
 rw [Tryz.params3] at ha
 obtain ⟨_,_,rfl,h0,_,_,rfl,h1,rfl⟩:=ha
 obtain ⟨a0,rfl,w0⟩:=uR h0
 obtain ⟨a1,rfl,w1⟩:=Dj (S:=1) (f:=ci) (W:=UO) Tryz.underlying29 Qa (fun c h=>Y0 Tryz.underlying3 h) h1
 rw [PG Tryz.underlying28] at hb
 have hlen:=hb _ _ _ _ rfl rfl
 rw [List.length_map] at hlen
 obtain ⟨n,hn⟩:=h a0 a1 hlen w0 w1
 simp only [PG Tryz.underlying28,vL Tryz.underlying29]
 exact XQ n a0 a1 true hn
set_option maxRecDepth 100000 in
theorem DT (h:Xn) (os:Os) (started:os.Started) (H:Type) (enc:TypeId × Value→H) :
  ReturnsInHanded {} Tryz.checked os 3 .any (Rows.topBalancedSpec.pre6 enc Tryz.prog Tryz.f3 Rows.topBalancedRow.domain false) (Rows.topBalancedSpec.post enc Tryz.prog Tryz.f3 false true false false):=by
 refine PN (C:=Tryz.checked) Qa started Qa Tryz.func3
  (ChangeSpec.witness6 (enc:=enc) (C:=Tryz.checked) false ⟨#[],#[.agg #[.slice none 0 0, .slice none 0 0, .slice none 0 0, .slice none 0 0, .slice none 0 0], .slice none 0 0],[]⟩ 8 Qa Qa Qa Qa) ?_
 intro W base args ds gs before hval hW hkk
 refine Ii (P:=Tryz.prog) (f:=3) (fn:=Tryz.f3) (s:=Rows.topBalancedSpec) (tb:=4) (d:=9) Qa Qa Qa Qa Tryz.underlying4 rfl
  (fun ds hd=>by
   have hd:ds.length=2:=by rw [hd,show Tryz.f3.params.size=2 from by kernel_rfl]
   match ds,hd with
   | [d0,d1],_=>rfl)
  hval hW (fun aas ha hrep=>M6 h aas ha (fun cs r S es e hcs=>?_))
 subst e
 obtain ⟨p,q,hA,_⟩:=hW
 rw [Tryz.params3] at hA
 obtain ⟨v,vs',d',ds',p',q',e1,e2,_,⟨fuel,h1⟩,_⟩:=trodAll_cons hA
 have hsm:∀ x ∈ DataW.weightsEach Tryz.prog (Tryz.f3.params.toList++Rows.topBalancedSpec.plain.varTypes Tryz.prog) (ds++gs),x≤140737488351232:=fun x hx=>by
  exact of_decide_eq_true (List.all_eq_true.1 hkk x hx)
 have hts:Tryz.f3.params.toList++Rows.topBalancedSpec.plain.varTypes Tryz.prog=[28,29]:=by kernel_rfl
 rw [hts] at hsm
 have hd0:=fun x hx=>hsm x (RJ _ _ 0 28 d' rfl (by rw [e2]; rfl) x hx)
 simp only [Qi] at hrep
 obtain ⟨y,ys,e3,hy,_⟩:=hrep
 rw [e1] at e3
 simp only [List.cons.injEq] at e3
 obtain ⟨rfl,rfl⟩:=e3
 simp only [ag,Qf] at hy
 obtain ⟨l,rfl,hl⟩:=hy
 obtain ⟨xs,n,_,e4,_,hxs,hall⟩:=DataW.trod_struct Tryz.underlying28 h1
 obtain ⟨c1,hc1,hrp⟩:=Ga hl 3 _ hcs
 have hf:=hall 3 _ rfl
 have hcells:((Value.agg l.toArray).cells.toList.drop 3).take 1=[c1]:=by
  have:(Value.agg l.toArray).cells.toList=l:=by simp [Value.cells]
  rw [this]
  match l,hc1 with
  | _ :: _ :: _ :: y :: _,hc1=>simp at hc1; subst hc1; rfl
 have hlt:3 < xs.length:=by rw [hxs]; decide
 have hf2:DataW.trod enc Tryz.prog W 0 (fun _=>true) true n 25 [c1]=some xs[3]:=by
  rw [← hcells,← List.getElem?_eq_getElem hlt]
  exact hf
 rcases Ol Tryz.underlying25 hf2 hrp with rfl | ⟨n2,hn2,hle⟩
 ·simp
 have hb:Tryz.prog.bytesOf 32=72:=by kernel_rfl
 rw [hb] at hle
 refine Nat.le_trans hle (hd0 n2 ?_)
 have hd':d'=.agg (xs.map (·.1)):=congrArg Prod.fst e4
 rw [hd']
 simp only [DataW.weights,Tryz.underlying28]
 exact RJ _ _ 3 25 xs[3].1 rfl (by simp [hlt]) n2 hn2
theorem M7 (h:Xn):Rows.TopBalancedSaid :=
 OpenClaim.holds_of_wide 3 Tryz.f3 rfl rfl rfl rfl rfl rfl rfl ⟨rfl,rfl,rfl,rfl,rfl⟩ rfl rfl rfl rfl rfl Qa Tryz.func3 Qa
  (of_decide_eq_true Qa) (by unfold Func.isWrapper; first | (rw [if_pos (by decide +kernel)]; kernel_rfl) | (rw [if_neg (by decide +kernel)]; exact ⟨rfl,rfl⟩))
  (fun os started H enc _=>DT h os started H enc)
end Go.Proofs
namespace Go.Proofs
open Go Go.Abs
set_option maxRecDepth 100000
def Does {α:Type} (m:Option α) (Q:α→Prop):Prop:=∃ r,m=some r∧Q r
section
variable {α β V R E:Type}
theorem QH {x:α} {Q:α→Prop} (h:Q x):Does (some x) Q:=⟨x,rfl,h⟩
theorem KE {m:Option α} {Q Q':α→Prop} (h:Does m Q) (hq:∀ x,Q x→Q' x):Does m Q':=by obtain ⟨x,e,h⟩:=h; exact ⟨x,e,hq x h⟩
theorem jT {b:Bool} {x y:Option α} {Q:α→Prop} (h1:b=true→Does x Q) (h2:b=false→Does y Q):Does (cond b x y) Q:=by
 cases b
 ·exact h2 rfl
 ·exact h1 rfl
theorem M8 {B:(V→Option R)→V→Option R} {Q:V→R→Prop} (μ:V→Nat) (Inv:V→Prop)
  (hB:∀ rec v,Inv v→(∀ v',Inv v'→μ v' < μ v→Does (rec v') (Q v'))→Does (B rec v) (Q v)):∀ {n:Nat} {v:V},Inv v→μ v < n→Does (Q4 B n v) (Q v)
 | 0,_,_,h=>absurd h (Nat.not_lt_zero _)
 | n+1,v,hv,h=>hB _ v hv (fun v' h1 h2=>M8 μ Inv hB h1 zo)
end
theorem ZK {α:Type} {l:List α} {i:Nat}:Zc l (i:Int)=l[i]?:=by
 unfold Zc; rw [if_neg zo]; simp
theorem Xd {x:Int} (h1:-9223372036854775808≤x) (h2:x≤9223372036854775807):wi x=x:=by
 simp [wi,IntKind.wrap,IntKind.signed,IntKind.bits]; omega
def Qch (a r:JJ):Bool:=if r.Serial=a.Serial then decide (a.Minute≤r.Minute∧a.Register≤r.Register) else decide (r.Minute=a.Minute)
def Qci (s x k:Int):Int:=wu ((p8 .u64 s (Js .u64 (lX .u64 (wu x) k) 255)) * 1099511628211)
def Qcj (s x:Int):Int:=[56,48,40,32,24,16,8,0].foldl (fun s k=>Qci s x k) s
def Qab (s:Int) (r:JJ):Int:=[r.Serial,r.Number,r.Minute,r.Register].foldl Qcj s
def uS (seed:Int) (l:List JJ) (i:Nat):Int:=if i=0 then seed else ((l[i - 1]?).map (·.Link)).getD 0
def pE (seed:Int) (l:List JJ) (i:Nat):Prop:=∀ r ∈ l[i]?,(1≤r.Serial∧r.Serial≤1000000)∧r.Number=i+1∧(0≤r.Minute∧r.Minute≤52560000)∧(0≤r.Register∧r.Register≤1000000000) ∧
 (i ≠ 0→∀ a ∈ l[i - 1]?,Qch a r=true)∧r.Link=Qab (uS seed l i) r
def chainOk (seed:Int) (l:List JJ):Prop:=(1≤l.length∧l.length≤64)∧∀ i,i < l.length→pE seed l i
theorem sH (x y:Int):Qs x y=decide (x=y):=by unfold Qs; by_cases h:x=y <;> simp [h]
theorem Jb {α:Type} {b:Bool} {x y:α}:cond b (some x) (some y)=some (cond b x y):=by cases b <;> rfl
def M9 (w:List UInt8):Bool:=(Iz 0 w).getD false
def Rx (x:UInt8):Bool:=decide ((97≤YY x∧YY x≤122)∨(48≤YY x∧YY x≤57)∨YY x=95)
def UZ (s:List UInt8):Bool:=decide (1≤s.length∧s.length≤12)&&decide (∀ x ∈ s.head?,97≤YY x∧YY x≤122)&&!M9 s&&s.all Rx
theorem IA {α R:Type} {l:List α} {B:(Int→Option R)→Int→Option R} {F:List α→R} (hlen:l.length≤4611686018427387904)
  (hend:∀ rec,B rec (l.length:Int)=some (F []))
  (hstep:∀ (rec:Int→Option R) (i:Nat) (x:α) (r:List α),l.drop i=x :: r→l[i]?=some x→i < l.length→wi ((i:Int)+1)=((i+1:Nat):Int)→(rec ((i+1:Nat):Int)=some (F r))→B rec (i:Int)=some (F (x :: r))) :
  ∀ {n:Nat} (i:Nat),i≤l.length→l.length - i < n→Q4 B n (i:Int)=some (F (l.drop i))
 | 0,_,_,h=>absurd h (Nat.not_lt_zero _)
 | n+1,i,hi,h=>by
  unfold Q4
  by_cases he:i=l.length
  ·subst he; rw [hend]; simp
  ·have hlt:i < l.length:=by omega
   have hd:l.drop i=l[i] :: l.drop (i+1):=by rw [List.drop_eq_getElem_cons hlt]
   rw [hd]
   exact hstep _ i _ _ hd (by simp [hlt]) hlt (by rw [Xd] <;> omega) (IA hlen hend hstep (i+1) zo zo)
theorem pF (c:Int):(bif decide (97≤c) then bif decide (c≤122) then false else bif decide (48≤c) then bif decide (c≤57) then false else !(c == 95) else !(c == 95)
  else bif decide (48≤c) then bif decide (c≤57) then false else !(c == 95) else !(c == 95))=!decide ((97≤c∧c≤122)∨(48≤c∧c≤57)∨c=95):=by
 by_cases h1:97≤c <;> by_cases h2:c≤122 <;> by_cases h3:48≤c <;> by_cases h4:c≤57 <;> by_cases h5:c=95 <;> simp [h1,h2,h3,h4,h5] <;> omega
theorem En {α R A V:Type} {l:List α} (S:A→Int→V) {B:(V→Option R)→V→Option R} {F:A→List α→R} (Inv:Nat→A→Prop) (hlen:l.length≤4611686018427387904)
  (hend:∀ rec a,Inv l.length a→B rec (S a (l.length:Int))=some (F a []))
  (hstep:∀ (rec:V→Option R) (a:A) (i:Nat) (x:α) (r:List α),Inv i a→l.drop i=x :: r→l[i]?=some x→i < l.length→wi ((i:Int)+1)=((i+1:Nat):Int)→(∀ a,Inv (i+1) a→rec (S a ((i+1:Nat):Int))=some (F a r))→B rec (S a (i:Int))=some (F a (x :: r))) :
  ∀ {n:Nat} (i:Nat) (a:A),Inv i a→i≤l.length→l.length - i < n→Q4 B n (S a (i:Int))=some (F a (l.drop i))
 | 0,_,_,_,_,h=>absurd h (Nat.not_lt_zero _)
 | n+1,i,a,ha,hi,h=>by
  unfold Q4
  by_cases he:i=l.length
  ·subst he; rw [hend _ _ ha]; simp
  ·have hlt:i < l.length:=by omega
   have hd:l.drop i=l[i] :: l.drop (i+1):=by rw [List.drop_eq_getElem_cons hlt]
   rw [hd]
   exact hstep _ a i _ _ ha hd (by simp [hlt]) hlt (by rw [Xd] <;> omega) (fun a ha=>En S Inv hlen hend hstep (i+1) a ha zo zo)
theorem IB {α R A V:Type} {l:List α} (S:A→Int→V) {B:(V→Option R)→V→Option R} {Q:A→List α→R→Prop} (Inv:Nat→A→Prop) (hlen:l.length≤4611686018427387904)
  (hend:∀ rec a,Inv l.length a→Does (B rec (S a (l.length:Int))) (Q a []))
  (hstep:∀ (rec:V→Option R) (a:A) (i:Nat) (x:α) (r:List α),Inv i a→l.drop i=x :: r→l[i]?=some x→i < l.length→wi ((i:Int)+1)=((i+1:Nat):Int)→(∀ a,Inv (i+1) a→Does (rec (S a ((i+1:Nat):Int))) (Q a r))→Does (B rec (S a (i:Int))) (Q a (x :: r))) :
  ∀ {n:Nat} (i:Nat) (a:A),Inv i a→i≤l.length→l.length - i < n→Does (Q4 B n (S a (i:Int))) (Q a (l.drop i))
 | 0,_,_,_,_,h=>absurd h (Nat.not_lt_zero _)
 | n+1,i,a,ha,hi,h=>by
  unfold Q4
  by_cases he:i=l.length
  ·subst he; simpa using hend _ _ ha
  ·have hlt:i < l.length:=by omega
   have hd:l.drop i=l[i] :: l.drop (i+1):=by rw [List.drop_eq_getElem_cons hlt]
   rw [hd]
   exact hstep _ a i _ _ ha hd (by simp [hlt]) hlt (by rw [Xd] <;> omega) (fun a ha=>IB S Inv hlen hend hstep (i+1) a ha zo zo)
def ks:List Nat:=[56,48,40,32,24,16,8,0]
theorem Qck (n:Nat) (l:List (List UInt8)) (s:List UInt8) (hn:1000≤n) (hl:l.length≤900):Does (W9 n l s) (fun r=>leI 0 r=l.contains s):=by
 unfold W9
 have:=IB (l:=l) (fun (_:Unit) i=>i) (B:=fun recl1 l1=>Wt l s recl1 l1) (Q:=fun _ r x=>leI 0 x=r.contains s) (fun _ _=>True) zo ?_ ?_ (n:=n) 0 () trivial zo zo
 ·exact this
 ·intro rec a _
  simp only [Wt,Qc,List.length_map,QL]
  rw [qD zo,cond_false]
  exact QH rfl
 ·intro rec a i x r _ hd hx hi hw hr
  simp only [Wt,Qc,List.length_map,QL,ZK,hx,Z8,Q8]
  rw [qE zo,cond_true]
  by_cases h:x=s
  ·subst h
   rw [beq_self_eq_true,cond_true]
   refine QH ?_
   simp [leI]
  ·rw [show (x == s)=false from by simpa using h,cond_false,hw]
   refine KE (hr () trivial) (fun y hy=>?_)
   rw [hy,List.contains_cons,show (s == x)=false from by simpa using fun e=>h e.symm,Bool.false_or]
def keyL:List (List UInt8):=((Vn 0).getD [])++(((Vo 0).getD [])++(((Yf 0).getD [])++((Vp 0).getD [])))
theorem cse (b c:Bool):(bif b then b else c)=(b||c):=by cases b <;> rfl
theorem cst (b c:Bool):(bif b then true else c)=(b||c):=by cases b <;> rfl
def keyA:List (List UInt8):=[[102,101,101,100,101,114],[99,97,98,108,101],[111,119,110,101,114],[99,111,110,116,114,97,99,116],[99,104,97,114,103,101,114],[98,97,121],[116,97,114,105,102,102],[108,105,109,105,116],[110,101,117,116,114,97,108],[102,117,115,101],[116,104,101,114,109,97,108],[102,114,111,109],[97,116],[112,104,97,115,101,115],[97,109,112,115],[102,97,108,108,98,97,99,107],[99,97,114,100],[114,97,110,107],[115,116,97,114,116],[101,110,101,114,103,121],[116,105,109,101],[105,100,108,101],[99,97,112],[116,97,120],[111,110],[119,111,114,107],[115,97,116,117,114,100,97,121],[115,117,110,100,97,121],[98,101,116,119,101,101,110],[112,101,114],[102,114,101,101]]
theorem uT (s:List UInt8):M9 s=keyA.contains s:=by
 unfold M9 Iz keyA
 simp only [Jb,Z8,Option.getD_some,cse,cst,Q8,List.contains_cons,List.contains_nil,Bool.or_assoc,Bool.or_false]
theorem qI (s:List UInt8):M9 s=keyL.contains s:=by
 rw [uT,Bool.eq_iff_iff,List.contains_iff_mem,List.contains_iff_mem]
 have h1:∀ x ∈ keyA,x ∈ keyL:=by decide
 have h2:∀ x ∈ keyL,x ∈ keyA:=by decide
 exact ⟨h1 s,h2 s⟩
theorem wB (n:Nat) (s:List UInt8) (hn:1000≤n):YB n s=some (decide (1≤s.length∧s.length≤12)&&!M9 s):=by
 unfold YB Vn Vo Yf Vp
 simp only [Z8]
 rw [qI]
 unfold keyL Vn Vo Yf Vp
 simp only [Option.getD_some]
 have e:=fun (l:List (List UInt8)) (hl:l.length≤900)=>Qck n l s hn hl
 obtain ⟨r1,e1,h1⟩:=e [[102,101,101,100,101,114],[99,97,98,108,101],[111,119,110,101,114],[99,111,110,116,114,97,99,116],[99,104,97,114,103,101,114],[98,97,121],[116,97,114,105,102,102]] (by decide)
 obtain ⟨r2,e2,h2⟩:=e [[108,105,109,105,116],[110,101,117,116,114,97,108],[102,117,115,101],[116,104,101,114,109,97,108],[102,114,111,109],[97,116],[112,104,97,115,101,115],[97,109,112,115],[102,97,108,108,98,97,99,107],[111,119,110,101,114],[99,97,114,100],[114,97,110,107],[99,104,97,114,103,101,114]] (by decide)
 obtain ⟨r3,e3,h3⟩:=e [[115,116,97,114,116],[101,110,101,114,103,121],[116,105,109,101],[105,100,108,101],[99,97,112],[116,97,120]] (by decide)
 obtain ⟨r4,e4,h4⟩:=e [[111,110],[119,111,114,107],[115,97,116,117,114,100,97,121],[115,117,110,100,97,121],[98,101,116,119,101,101,110],[112,101,114],[102,114,101,101]] (by decide)
 rw [e1,Z8,e2,Z8,e3,Z8,e4,Z8,h1,h2,h3,h4]
 have ha:∀ (a b:List (List UInt8)),(a++b).contains s=(a.contains s||b.contains s):=by intro a b; simp
 rw [ha,ha,ha]
 simp only [Jb,Z8,leI,Qc,cst]
 generalize ((_:Bool)||_)=k
 by_cases c1:1≤s.length
 ·by_cases c2:s.length≤12
  ·rw [qE (show (1:Int)≤s.length by omega),qE (show (s.length:Int)≤12 by omega),qE (show 1≤s.length∧s.length≤12 from ⟨c1,c2⟩)]; rfl
  ·rw [qE (show (1:Int)≤s.length by omega),qD (show ¬ (s.length:Int)≤12 by omega),qD (show ¬ (1≤s.length∧s.length≤12) from fun h=>c2 h.2)]; rfl
 ·rw [qD (show ¬ (1:Int)≤s.length by omega),qD (show ¬ (1≤s.length∧s.length≤12) from fun h=>c1 h.1)]; rfl
theorem wC (c:Int) (z:Bool):(bif decide (c < 97) then bif z then true else bif decide (c < 48) then !decide (c=95) else bif decide (57 < c) then !decide (c=95) else false
  else bif decide (122 < c) then bif z then true else bif decide (c < 48) then !decide (c=95) else bif decide (57 < c) then !decide (c=95) else false else false)=!(bif z then decide (97≤c∧c≤122) else decide ((97≤c∧c≤122)∨(48≤c∧c≤57)∨c=95)):=by
 cases z <;> by_cases h1:c < 97 <;> by_cases h2:122 < c <;> by_cases h3:c < 48 <;> by_cases h4:57 < c <;> by_cases h5:c=95 <;> simp [h1,h2,h3,h4,h5] <;> omega
theorem lG (n:Nat) (s:List UInt8) (hn:1000≤n) (hl:s.length≤900):Vl n s=some (UZ s):=by
 unfold Vl
 have h1:∀ (rec:Int→Option Bool) (a:Unit),(1≤s.length∨s.length=0)→Zz n s rec (s.length:Int)=some (([]:List UInt8).all Rx&&(decide (1≤s.length∧s.length≤12)&&!M9 s)):=by
  intro rec a ha
  simp only [Zz,Qc,QL]
  rw [qD zo,cond_false,wB n s hn]
  rfl
 have h2:∀ (rec:Int→Option Bool) (a:Unit) (i:Nat) (x:UInt8) (r:List UInt8),(1≤i∨s.length=0)→s.drop i=x :: r→s[i]?=some x→i < s.length→wi ((i:Int)+1)=((i+1:Nat):Int) →
   (∀ a:Unit,(1≤i+1∨s.length=0)→rec ((i+1:Nat):Int)=some (r.all Rx&&(decide (1≤s.length∧s.length≤12)&&!M9 s)))→Zz n s rec (i:Int)=some ((x :: r).all Rx&&(decide (1≤s.length∧s.length≤12)&&!M9 s)):=by
  intro rec a i x r ha hd hx hi hw hr
  simp only [Zz,Qc,QL,ZK,hx,Z8,hw,Jb,sH,wC]
  rw [qE zo,cond_true,qD (show ¬ (i:Int)=0 by omega),cond_false,hr () (Or.inl zo),List.all_cons]
  show (bif !Rx x then some false else _)=_
  cases Rx x <;> rfl
 cases s with
 | nil =>
  have:=En (l:=[]) (fun (_:Unit) i=>i) (F:=fun _ r=>r.all Rx&&(decide (1≤([]:List UInt8).length∧([]:List UInt8).length≤12)&&!M9 [])) (fun i _=>1≤i∨([]:List UInt8).length=0) zq h1 h2 (n:=n) 0 () (Or.inr rfl) zq (by simp; omega)
  rw [show ((0:Nat):Int)=0 from rfl] at this
  rw [this]; rfl
 | cons x r =>
  obtain ⟨m,rfl⟩:∃ m,n=m+1:=⟨n - 1,by omega⟩
  have hs:=En (l:=x :: r) (fun (_:Unit) i=>i) (F:=fun _ q=>q.all Rx&&(decide (1≤(x :: r).length∧(x :: r).length≤12)&&!M9 (x :: r))) (fun i _=>1≤i∨(x :: r).length=0) zo h1 h2 (n:=m) 1 () (Or.inl (Nat.le_refl _)) zq (by simp at hl ⊢; omega)
  rw [show ((1:Nat):Int)=1 from rfl] at hs
  unfold Q4
  show Zz (m+1) (x :: r) (Q4 (Zz (m+1) (x :: r)) m) 0=_
  generalize Q4 (Zz (m+1) (x :: r)) m=L at hs ⊢
  unfold Zz
  rw [show Zc (x :: r) 0=some x from rfl]
  simp only [Qc,QL,Z8,Jb,sH,wC,show wi (0+1)=1 from rfl]
  rw [hs,qE (show (0:Int) < ((x :: r).length:Nat) by simp),cond_true,decide_true,cond_true]
  unfold UZ
  simp only [List.head?_cons,Option.mem_def,Zd,forall_eq',List.drop_succ_cons,List.drop_zero,List.all_cons]
  by_cases hx:97≤YY x∧YY x≤122
  ·rw [qE hx]
   have:Rx x=true:=by unfold Rx; rw [qE]; exact Or.inl hx
   rw [this]
   cases decide (1≤(x :: r).length∧(x :: r).length≤12) <;> cases M9 (x :: r) <;> cases r.all Rx <;> rfl
  ·rw [qD hx]
   cases decide (1≤(x :: r).length∧(x :: r).length≤12) <;> rfl
theorem ym (n:Nat) (s:List UInt8) (hn:1000≤n):XB n s=some (decide (1≤s.length∧s.length≤12)&&decide (∀ x ∈ s.head?,97≤YY x∧YY x≤122)&&s.all Rx):=by
 unfold XB
 simp only [Qc,QL]
 cases s with
 | nil=>simp
 | cons x r =>
  rw [qD (show ¬ (((x :: r).length:Nat):Int) < 1 by simp only [nY]; omega),cond_false]
  by_cases hl:(x :: r).length≤12
  rotate_left
  ·rw [qE (show (12:Int) < (((x :: r).length:Nat):Int) by omega),qD (show ¬ (1≤(x :: r).length∧(x :: r).length≤12) by omega)]; rfl
  rw [qD (show ¬ (12:Int) < (((x :: r).length:Nat):Int) by omega),cond_false,qE (show 1≤(x :: r).length∧(x :: r).length≤12 by simp only [nY] at hl ⊢; omega)]
  rw [show Zc (x :: r) 0=some x from rfl]
  have hloop:Q4 (fun recl7 l7=>Yz (x :: r) recl7 l7) n 1=some (r.all Rx):=by
   have:=IA (l:=x :: r) (B:=fun recl7 l7=>Yz (x :: r) recl7 l7) (F:=fun r=>r.all Rx) zo ?_ ?_ (n:=n) 1 zq zo
   ·simpa using this
   ·intro rec; simp [Yz,QL,Qc]
   ·intro rec i y q hd hx hi hw hr
    unfold Yz
    simp only [Qc,ZK,hx,Z8,hw,hr,QL,leI,Qs,Jb]
    rw [qE zo,cond_true,List.all_cons]
    rw [pF,Rx]
    cases decide ((97≤YY y∧YY y≤122)∨(48≤YY y∧YY y≤57)∨YY y=95) <;> simp
  rw [hloop]
  simp only [Z8,Jb,List.head?_cons,Option.mem_def,Zd,forall_eq',Bool.true_and,List.all_cons]
  by_cases h1:YY x < 97
  ·rw [qE h1,qD (show ¬ (97≤YY x∧YY x≤122) by omega)]; rfl
  ·rw [qD h1,cond_false]
   by_cases h2:122 < YY x
   ·rw [qE h2,qD (show ¬ (97≤YY x∧YY x≤122) by omega)]; rfl
   ·have h3:97≤YY x∧YY x≤122:=by omega
    have h4:Rx x=true:=by unfold Rx; rw [qE]; exact Or.inl h3
    rw [qD h2,qE h3,h4]; rfl
theorem lH (b:Bool) (k r:Int) (hk:k ≠ 0):(!Qs (bif b then k else r) 0)=(b||!Qs r 0):=by
 cases b
 ·rfl
 ·simp [Qs,hk]
theorem pG (n:Nat) (s:List UInt8):Ht n s=some (M9 s):=by
 unfold Ht Uc J9 Ws Ue
 rw [qI]
 simp only [Jb,Z8,cse,cst,keyL,Vn,Vo,Yf,Vp,Option.getD_some,List.cons_append,List.nil_append,List.contains_cons,List.contains_nil,Bool.or_false,Q8]
 rw [lH _ 1 _ (by decide),lH _ 2 _ (by decide),lH _ 3 _ (by decide),lH _ 4 _ (by decide),lH _ 5 _ (by decide),lH _ 6 _ (by decide),lH _ 7 _ (by decide),show (!Qs 0 0)=false from rfl]
 simp only [Bool.or_assoc,Bool.or_false]
theorem yn (n:Nat) (s:List UInt8) (hn:1000≤n):Jj n s=some (UZ s):=by
 unfold Jj UZ
 rw [ym n s hn,Z8,pG,Z8,Jb]
 generalize decide (1≤s.length∧s.length≤12)=a
 generalize decide (∀ x ∈ s.head?,97≤YY x∧YY x≤122)=b
 generalize s.all Rx=c
 generalize M9 s=d
 cases a <;> cases b <;> cases c <;> cases d <;> rfl
theorem lI (k:Int) (s:List UInt8) (m t:Int) (l:List (List PV)):GN.of (GN.cs ⟨k,s,m,t,l⟩)=some ⟨k,s,m,t,l⟩:=by
 unfold GN.cs GN.of
 simp only [w9,TS,if_true]
theorem uU (n:Nat) (s:List UInt8) (hn:1000≤n):Hu n (⟨1,[],0,0,[GN.cs (⟨2,s,3,0,[]⟩:GN)]⟩:GN)=some (UZ s):=by
 obtain ⟨m,rfl⟩:∃ m,n=m+2:=⟨n - 2,by omega⟩
 have hitem:JQ (m+2) (⟨2,s,3,0,[]⟩:GN) 1498=some (UZ s,1498):=by
  unfold JQ
  rw [yn (m+2) s hn]
  simp only [show (!Qs 2 2)=false from rfl,show QL 3 1=false from rfl,show QL 7 3=false from rfl,cond_false,Z8]
  cases UZ s
  ·rfl
  ·unfold Q4; rfl
 unfold Hu
 have e1:((bif !Qs 1 1 then some true else bif !Q8 [] [] then some true else bif !Qs 0 0 then some true else some (QL (wi (1499 - Qc (List.map YC [GN.cs (⟨2,s,3,0,[]⟩:GN)]))) 0)))=some false:=rfl
 have e2:wi (1499 - Qc (List.map YC [GN.cs (⟨2,s,3,0,[]⟩:GN)]))=1498:=rfl
 simp only
 rw [e1,Z8,cond_false,e2]
 unfold Q4
 simp only [He]
 rw [show QL 0 (Qc (List.map YC [GN.cs (⟨2,s,3,0,[]⟩:GN)]))=true from rfl,cond_true,show Zc [GN.cs (⟨2,s,3,0,[]⟩:GN)] 0=some (GN.cs (⟨2,s,3,0,[]⟩:GN)) from rfl,Z8,lI,Z8,hitem,Z8]
 cases UZ s
 ·rfl
 ·unfold Q4; rfl
theorem WM {R:Type} {B:(Int→Option R)→Int→Option R} {L:Nat} (Q:Nat→R→Prop) (hL:L≤9223372036854775807)
  (hB:∀ (rec:Int→Option R) (i:Nat),i≤L→(i < L→wi ((i:Int)+1)=((i+1:Nat):Int)∧Does (rec ((i+1:Nat):Int)) (Q (i+1)))→Does (B rec (i:Int)) (Q i)) :
  ∀ {n:Nat} (i:Nat),i≤L→L - i < n→Does (Q4 B n (i:Int)) (Q i)
 | 0,_,_,h=>absurd h (Nat.not_lt_zero _)
 | n+1,i,hi,h=>hB _ i hi fun h1=>⟨by rw [Xd zo zo]; omega,WM Q hL hB (i+1) zo zo⟩
def IC (l:List (List PV)):List GN:=l.filterMap GN.of
theorem pI {n:Nat} {s:List UInt8} (hn:9223372036854776000≤n) (hl:s.length≤9223372036854775807):Vl n s=some (UZ s):=by
 by_cases h:s.length≤900
 ·exact lG n s zo h
 have hb:UZ s=false:=by
  unfold UZ
  rw [show decide (1≤s.length∧s.length≤12)=false from qD zo]
  rfl
 rw [hb]
 have:Does (Vl n s) (fun r=>r=false):=by
  unfold Vl
  refine WM (L:=s.length) (fun _ r=>r=false) hl (fun rec i hi hr=>?_) 0 zo zo
  unfold Zz
  simp only [Qc,QL]
  by_cases c1:i < s.length
  rotate_left
  ·rw [qD zo,cond_false,wB n s zo,qD zo]; exact QH rfl
  obtain ⟨w1,w2⟩:=hr c1
  rw [qE zo,cond_true,ZK,List.getElem?_eq_getElem c1,Z8,w1]
  simp only [Jb,Z8]
  exact jT (fun _=>QH rfl) fun _=>w2
 obtain ⟨r,e,rfl⟩:=this
 exact e
def sz:Nat→GN→Int
 | 0,_=>1
 | k+1,x=>1+((IC x.Kids).map (sz k)).sum
def Qcm (p:GN × Kc):Bool:=decide (p.2.from_≤p.1.N)&&decide (p.1.N≤p.2.to_)
def snR (a:GN) (sp:List Kc):Except (Int × Int) (List Int) :=
 if ((IC a.Kids).zip sp).all Qcm then .ok ((IC a.Kids).map (·.N)) else .error (3,a.At)
def snF (a:GN) (sp:List Kc):Except (Int × Int) (List Int) :=
 if a.Kids.length=sp.length then if (IC a.Kids).all (fun y=>decide (y.Kind=6)) then snR a sp else .error (9,a.At) else .error (9,a.At)
def nmF (ks:List Int) (th:List (List UInt8 × KP)) (a:GN):Except (Int × Int) Int :=
  match IC a.Kids with
  | [y]=>if y.Kind=5 then
      (match Fv QE y.Name th with
       | some t=>if ks.contains t.kind then .ok t.index else .error (8,a.At)
       | none=>.error (8,a.At))
    else .error (9,a.At)
  | _=>.error (9,a.At)
def phL (a:GN):List Int→Int→Int→Except (Int × Int) Int
 | [],bits,_=>.ok bits
 | x :: l,bits,before=>if x≤before then .error (3,a.At) else phL a l (sJ .i64 bits (Wu .i64 1 (wi (x - 1)))) x
def Qco (a:GN):List Kc:=List.take a.Kids.length [(⟨1,3⟩:Kc),(⟨1,3⟩:Kc),(⟨1,3⟩:Kc)]
def eb {A B:Type} (x:Except (Int × Int) A) (k:A→Except (Int × Int) B):Except (Int × Int) B:=match x with
 | .ok a=>k a
 | .error e=>.error e
def phF (a:GN):Except (Int × Int) Int:=if 1≤a.Kids.length∧a.Kids.length≤3 then eb (snF a (Qco a)) fun l=>phL a l 0 0 else .error (9,a.At)
abbrev SQ:=ZI × Kq × ZL × Zt
abbrev RL:=List (List UInt8 × Bool)
abbrev iT:=List (List UInt8 × KP)
def yo (h:RL) (s:List UInt8):Bool:=QJ Qd s false h
def yt (a:GN) (sp:List Kc) (f:List Int→SQ):Except (Int × Int) SQ:=eb (snF a sp) fun l=>.ok (f l)
def nmQ (ks:List Int) (th:iT) (a:GN) (f:Int→SQ):Except (Int × Int) SQ:=eb (nmF ks th a) fun x=>.ok (f x)
def Qac (cs:List Kq) (a:GN) (f:List Int→SQ):Except (Int × Int) SQ:=eb (snF a [(⟨1,1000000⟩:Kc)]) fun l=>if cs.all (fun c=>!decide (c.Card=l.getD 0 0)) then .ok (f l) else .error (5,a.At)
def Na (ks:List Int) (k:Int) (a:GN) (h:RL) (v:Except (Int × Int) SQ):Except (Int × Int) (SQ × RL) :=
 if ks.contains k then if yo h a.Name then .error (5,a.At) else eb v fun q=>.ok (q,Qq Qd a.Name true h) else .error (9,a.At)
def Qcp (k:Int) (cs:List Kq) (th:iT) (a:GN) (q:SQ) (h:RL):Except (Int × Int) (SQ × RL) :=
 if a.Name=[108,105,109,105,116] then Na [1,2] k a h (yt a [(⟨1,1000⟩:Kc)] fun l=>(⟨q.1.Name,q.1.Up,l.getD 0 0,q.1.Neutral,q.1.Fuse,q.1.Cable⟩,q.2)) else
 if a.Name=[110,101,117,116,114,97,108] then Na [1,2] k a h (yt a [(⟨1,1000⟩:Kc)] fun l=>(⟨q.1.Name,q.1.Up,q.1.Limit,l.getD 0 0,q.1.Fuse,q.1.Cable⟩,q.2)) else
 if a.Name=[102,117,115,101] then Na [1,2] k a h (yt a [(⟨1,1000⟩:Kc),(⟨0,1000000⟩:Kc)] fun l=>(⟨q.1.Name,q.1.Up,q.1.Limit,q.1.Neutral,⟨l.getD 0 0,l.getD 1 0⟩,q.1.Cable⟩,q.2)) else
 if a.Name=[116,104,101,114,109,97,108] then Na [1,2] k a h (yt a [(⟨0,200000⟩:Kc),(⟨0,200000⟩:Kc),(⟨0,1000⟩:Kc),(⟨0,1000⟩:Kc),(⟨1,1000000⟩:Kc)] fun l=>(⟨q.1.Name,q.1.Up,q.1.Limit,q.1.Neutral,q.1.Fuse,⟨l.getD 0 0,l.getD 1 0,l.getD 2 0,l.getD 3 0,l.getD 4 0⟩⟩,q.2)) else
 if a.Name=[102,114,111,109] then Na [2] k a h (nmQ [1,2] th a fun x=>(⟨q.1.Name,x,q.1.Limit,q.1.Neutral,q.1.Fuse,q.1.Cable⟩,q.2)) else
 if a.Name=[111,119,110,101,114] then Na [4,5] k a h (nmQ [3] th a fun x=>(q.1,⟨q.2.1.Name,x,q.2.1.Rank,q.2.1.Card⟩,⟨q.2.2.1.Name,q.2.2.1.At,q.2.2.1.Phases,q.2.2.1.Min,q.2.2.1.Max,q.2.2.1.Step,q.2.2.1.Fallback,x⟩,q.2.2.2)) else
 if a.Name=[114,97,110,107] then Na [4] k a h (yt a [(⟨1,9⟩:Kc)] fun l=>(q.1,⟨q.2.1.Name,q.2.1.Owner,l.getD 0 0,q.2.1.Card⟩,q.2.2)) else
 if a.Name=[99,97,114,100] then Na [4] k a h (Qac cs a fun l=>(q.1,⟨q.2.1.Name,q.2.1.Owner,q.2.1.Rank,l.getD 0 0⟩,q.2.2)) else
 if a.Name=[97,116] then Na [5] k a h (nmQ [1,2] th a fun x=>(q.1,q.2.1,⟨q.2.2.1.Name,x,q.2.2.1.Phases,q.2.2.1.Min,q.2.2.1.Max,q.2.2.1.Step,q.2.2.1.Fallback,q.2.2.1.Owner⟩,q.2.2.2)) else
 if a.Name=[112,104,97,115,101,115] then Na [5] k a h (eb (phF a) fun x=>.ok (q.1,q.2.1,⟨q.2.2.1.Name,q.2.2.1.At,x,q.2.2.1.Min,q.2.2.1.Max,q.2.2.1.Step,q.2.2.1.Fallback,q.2.2.1.Owner⟩,q.2.2.2)) else
 if a.Name=[97,109,112,115] then Na [5] k a h (yt a [(⟨1,80⟩:Kc),(⟨1,80⟩:Kc),(⟨1,80⟩:Kc)] fun l=>(q.1,q.2.1,⟨q.2.2.1.Name,q.2.2.1.At,q.2.2.1.Phases,l.getD 0 0,l.getD 1 0,l.getD 2 0,q.2.2.1.Fallback,q.2.2.1.Owner⟩,q.2.2.2)) else
 if a.Name=[102,97,108,108,98,97,99,107] then Na [5] k a h (yt a [(⟨0,80⟩:Kc)] fun l=>(q.1,q.2.1,⟨q.2.2.1.Name,q.2.2.1.At,q.2.2.1.Phases,q.2.2.1.Min,q.2.2.1.Max,q.2.2.1.Step,l.getD 0 0,q.2.2.1.Owner⟩,q.2.2.2)) else
 if a.Name=[99,104,97,114,103,101,114] then Na [6] k a h (nmQ [5] th a fun x=>(q.1,q.2.1,q.2.2.1,⟨q.2.2.2.Name,x⟩)) else
 .error (9,a.At)
def lJ (k:Int) (cs:List Kq) (th:iT):List GN→SQ→RL→Except (Int × Int) (SQ × RL)
 | [],q,h=>.ok (q,h)
 | a :: l,q,h=>if a.Kind=3 then eb (Qcp k cs th a q h) fun v=>lJ k cs th l v.1 v.2 else lJ k cs th l q h
abbrev AQ:=ZI × Kq × ZL × Zt × RL
abbrev AE:=(Int × Int) × AQ
def needT:List (List Int × List UInt8):=[([1,2],[108,105,109,105,116]),([1,2],[110,101,117,116,114,97,108]),([2],[102,114,111,109]),([4,5],[111,119,110,101,114]),([4],[114,97,110,107]),([4],[99,97,114,100]),([5],[97,116]),([5],[112,104,97,115,101,115]),([5],[97,109,112,115]),([5],[102,97,108,108,98,97,99,107]),([6],[99,104,97,114,103,101,114])]
def Qad (k:Int) (h:RL):Bool:=needT.any fun p=>p.1.contains k&&!yo h p.2
def Qae (g:ZL):Bool:=leI g.Min g.Max&&(Qs g.Fallback 0||(leI g.Min g.Fallback&&leI g.Fallback g.Max))
def Qaf (k:Int) (c:ZI) (g:ZL) (h:RL):Bool:=(yo h [116,104,101,114,109,97,108]&&!QL c.Cable.Ambient c.Cable.Most)||(Qs k 5&&!Qae g)
def whF (y:GN) (c:ZI) (g:ZL) (h:RL):Except (Int × Int) Unit:=if Qad y.N h then .error (4,y.At) else if Qaf y.N c g h then .error (3,y.At) else .ok ()
structure BS where
 cs:List ZI
 os:List Zf
 ks:List Kq
 gs:List ZL
 bs:List Zt
 fd:Bool
 dg:List KG
 nm:RL
 th:iT
def BS.t (s:BS):List ZI × List Zf × List Kq × List ZL × List Zt × Bool × List KG × RL × iT:=(s.cs,s.os,s.ks,s.gs,s.bs,s.fd,s.dg,s.nm,s.th)
def BS.u (s:BS):List ZI × List Zf × List Kq × List ZL × List Zt × Bool × List KG × iT:=(s.cs,s.os,s.ks,s.gs,s.bs,s.fd,s.dg,s.th)
def BS.err (s:BS) (e:Int × Int):BS:={ s with dg:=s.dg++[⟨e.1,e.2⟩] }
def Qag:SQ:=(⟨[],0,0,0,⟨0,0⟩,⟨0,0,0,0,0⟩⟩,⟨[],0,0,0⟩,⟨[],0,0,0,0,0,0,0⟩,⟨[],0⟩)
def twB (y:GN) (s:BS):Bool:=yo s.nm y.Name||(Qs y.N 1&&s.fd)
def sI (k:Int) (s:BS):Int:=cond (Qs k 1||Qs k 2) (s.cs.length:Int) (cond (Qs k 3) (s.os.length:Int) (cond (Qs k 4) (s.ks.length:Int) (cond (Qs k 5) (s.gs.length:Int) (s.bs.length:Int))))
def Qah (k:Int):Int:=cond (Qs k 1||Qs k 2) 16 (cond (Qs k 3) 8 (cond (Qs k 4) 32 (cond (Qs k 5) 16 24)))
def Qai (y:GN) (s:BS):Except (Int × Int) SQ:=eb (lJ y.N s.ks s.th (IC y.Kids) Qag []) fun v=>eb (whF y v.1.1 v.1.2.2.1 v.2) fun _=>.ok v.1
def Qaj (y:GN) (q:SQ) (s:BS):BS :=
 let t:=Qq QE y.Name (⟨y.N,sI y.N s⟩:KP) s.th
 if y.N=1 then { s with cs:=s.cs++[⟨y.Name,-1,q.1.Limit,q.1.Neutral,q.1.Fuse,q.1.Cable⟩],th:=t }
 else if y.N=2 then { s with cs:=s.cs++[⟨y.Name,q.1.Up,q.1.Limit,q.1.Neutral,q.1.Fuse,q.1.Cable⟩],th:=t }
 else if y.N=3 then { s with os:=s.os++[⟨y.Name⟩],th:=t }
 else if y.N=4 then { s with ks:=s.ks++[⟨y.Name,q.2.1.Owner,q.2.1.Rank,q.2.1.Card⟩],th:=t }
 else if y.N=5 then { s with gs:=s.gs++[⟨y.Name,q.2.2.1.At,q.2.2.1.Phases,q.2.2.1.Min,q.2.2.1.Max,q.2.2.1.Step,q.2.2.1.Fallback,q.2.2.1.Owner⟩],th:=t }
 else if y.N=6 then { s with bs:=s.bs++[⟨y.Name,q.2.2.2.Charger⟩],th:=t }
 else { s with th:=t }
def qJ (y:GN) (s:BS):BS:={ s with fd:=s.fd||Qs y.N 1,nm:=Qq Qd y.Name true s.nm }
def uV (y:GN) (s:BS):BS :=
 if twB y s then (qJ y s).err (5,y.At)
 else if y.N=7 then qJ y s
 else if Qah y.N≤sI y.N s then (qJ y s).err (2,y.At)
 else match Qai y s with
  | .error e=>(qJ y s).err e
  | .ok q=>Qaj y q (qJ y s)
def runF:List GN→BS→BS
 | [],s=>s
 | y :: l,s=>if (uV y s).dg.length=20 then uV y s else runF l (uV y s)
theorem uW (s k:List UInt8):∀ m:List (List UInt8 × Bool),QJ Qd s false (Qq Qd k true m)=(QJ Qd s false m||(s == k))
 | []=>by
  unfold Qq QJ Fv Fv Qd Q8
  by_cases h:s=k
  ·subst h; simp
  ·rw [show (s == k)=false from by simpa using h]; rfl
 | (q,w) :: m=>by
  have ih:=uW s k m
  unfold QJ at ih ⊢
  unfold Qq
  unfold Qd Q8 at ih ⊢
  by_cases h:k=q
  ·subst h
   rw [beq_self_eq_true,cond_true]
   unfold Fv
   by_cases h2:s=k
   ·subst h2; simp
   ·rw [show (s == k)=false from by simpa using h2]; simp
  ·rw [show (k == q)=false from by simpa using h,cond_false]
   unfold Fv
   by_cases h2:s=q
   ·subst h2
    rw [beq_self_eq_true,cond_true,cond_true,show (s == k)=false from by simpa using fun e=>h e.symm,Bool.or_false]
   ·rw [show (s == q)=false from by simpa using h2,cond_false,cond_false]
    exact ih
theorem pJ (s k:List UInt8) (m:RL):yo (Qq Qd k true m) s=(yo m s||(s == k)):=uW s k m
theorem qK {K V:Type} {eq:K→K→Bool} (he:∀ a b,eq a b=true↔a=b) (k k2:K) (v:V):∀ m:List (K × V),Fv eq k2 (Qq eq k v m)=bif eq k2 k then some v else Fv eq k2 m
 | []=>by unfold Qq Fv Fv; cases eq k2 k <;> rfl
 | (q,w) :: m=>by
  have ih:=qK he k k2 v m
  unfold Qq
  cases h:eq k q
  ·rw [cond_false]
   unfold Fv
   rw [ih]
   cases h2:eq k2 q
   ·rfl
   ·have:eq k2 k=false:=by
     cases h3:eq k2 k
     ·rfl
     ·rw [(he _ _).1 h2] at h3
      rw [(he _ _).1 h3,(he k k).2 rfl] at h
      cases h
    rw [this]; rfl
  ·obtain rfl:=(he _ _).1 h
   rw [cond_true]
   unfold Fv
   cases eq k2 k <;> rfl
def K8 (s:Qj):List (List UInt8):=s.Conductors.map (·.Name)++s.Owners.map (·.Name)++s.Contracts.map (·.Name)++s.Chargers.map (·.Name)++s.Bays.map (·.Name)
def okF (f:UE):Prop:=(f.Rated=0∧f.Heat=0)∨((1≤f.Rated∧f.Rated≤1000)∧0≤f.Heat∧f.Heat≤1000000)
def okW (c:KN):Prop:=c=⟨0,0,0,0,0⟩∨(((0≤c.Ambient∧c.Ambient≤200000)∧(0≤c.Most∧c.Most≤200000)∧(0≤c.Gain∧c.Gain≤1000)∧(0≤c.Loss∧c.Loss≤1000)∧1≤c.Den∧c.Den≤1000000)∧c.Ambient < c.Most)
def okC (c:ZI) (i:Nat):Prop:=((i=0→c.Up=-1)∧(0 < i→0≤c.Up∧c.Up < i))∧(1≤c.Limit∧c.Limit≤1000)∧(1≤c.Neutral∧c.Neutral≤1000)∧okF c.Fuse∧okW c.Cable
def iU (no:Nat) (c:Kq):Prop:=(0≤c.Owner∧c.Owner < no)∧(1≤c.Rank∧c.Rank≤9)∧1≤c.Card∧c.Card≤1000000
def pK (nc no:Nat) (c:ZL):Prop:=(0≤c.At∧c.At < nc)∧(0≤c.Owner∧c.Owner < no)∧(1≤c.Phases∧c.Phases≤7)∧(1≤c.Min∧c.Min≤80)∧(1≤c.Max∧c.Max≤80)∧(1≤c.Step∧c.Step≤80)∧(0≤c.Fallback∧c.Fallback≤80)∧c.Min≤c.Max∧(c.Fallback=0∨(c.Min≤c.Fallback∧c.Fallback≤c.Max))
structure OkS (s:Qj):Prop where
 c:∀ i c,s.Conductors[i]?=some c→okC c i
 k:∀ c ∈ s.Contracts,iU s.Owners.length c
 kd:s.Contracts.Pairwise fun a b=>a.Card ≠ b.Card
 g:∀ c ∈ s.Chargers,pK s.Conductors.length s.Owners.length c
 b:∀ c ∈ s.Bays,0≤c.Charger∧c.Charger < s.Chargers.length
 nm:∀ w ∈ K8 s,UZ w=true
 nd:(K8 s).Nodup
theorem step_loop {R V:Type} {B:(V→Option R)→V→Option R} {E:Option R} {f:Nat→V} {k:Nat} (hs:∀ rec (i:Nat),i < k→B rec (f i)=rec (f (i+1))) (he:∀ rec,B rec (f k)=E):∀ {n:Nat} (i:Nat),i≤k→k - i < n→Q4 B n (f i)=E
 | 0,_,_,h=>absurd h (Nat.not_lt_zero _)
 | n+1,i,hi,h=>by
  unfold Q4
  by_cases c:i < k
  ·rw [hs _ i c]; exact step_loop hs he (i+1) c zo
  ·rw [show i=k by omega]; exact he _
theorem U3 {n:Nat} {x lo hi:Int} (h:lo≤x∧x≤hi):Qy n x lo hi=some true:=by
 unfold Qy
 rw [Wh h.1,cond_true,Wh h.2]
theorem FP {n:Nat} {x lo hi:Int} (h:lo≤x∧x≤hi):QD n (⟨lo,hi⟩:Kc) x=some true:=by
 unfold QD
 rw [Wh h.1,cond_true,Wh h.2]
theorem lK {f:UE} (h:okF f):Dw ((Qs f.Rated 0)&&((Qs f.Heat 0)&&true))=true∨(Dw ((Qs f.Rated 0)&&((Qs f.Heat 0)&&true))=false∧(1≤f.Rated∧f.Rated≤1000)∧0≤f.Heat∧f.Heat≤1000000):=by
 rcases h with ⟨h1,h2⟩ | ⟨h1,h2⟩
 ·left; rw [h1,h2]; rfl
 ·right; refine ⟨?_,h1,h2⟩
  rw [N8 zo]; rfl
theorem pM {c:KN} (h:okW c):Dw ((Qs c.Ambient 0)&&((Qs c.Most 0)&&((Qs c.Gain 0)&&((Qs c.Loss 0)&&((Qs c.Den 0)&&true)))))=true∨(Dw ((Qs c.Ambient 0)&&((Qs c.Most 0)&&((Qs c.Gain 0)&&((Qs c.Loss 0)&&((Qs c.Den 0)&&true)))))=false∧((0≤c.Ambient∧c.Ambient≤200000)∧(0≤c.Most∧c.Most≤200000)∧(0≤c.Gain∧c.Gain≤1000)∧(0≤c.Loss∧c.Loss≤1000)∧1≤c.Den∧c.Den≤1000000)∧c.Ambient < c.Most):=by
 rcases h with rfl | h
 ·left; rfl
 ·right; refine ⟨?_,h⟩
  rw [N8 (show ¬ c.Den=0 by omega)]; simp [Dw]
theorem lL {n:Nat} {c:ZI} {i:Nat} (h:okC c i):Yb n c (i:Int)=some true:=by
 obtain ⟨⟨u1,u2⟩,h2,h3,h4,h5⟩:=h
 unfold Yb
 have hu:(cond (Qs (i:Int) 0) (cond (!Qs c.Up (-1)) (some true) (cond (QL 0 (i:Int)) (cond (QL c.Up 0) (some true) (some (leI (i:Int) c.Up))) (some false))) (cond (QL 0 (i:Int)) (cond (QL c.Up 0) (some true) (some (leI (i:Int) c.Up))) (some false)))=some false:=by
  by_cases h0:i=0
  ·subst h0
   rw [u1 rfl]; rfl
  ·have hi:=u2 zo
   rw [N8 zo,cond_false,YN zo,cond_true,KW zo,cond_false,Dx zo]
 rw [hu,Z8,cond_false,FP h2,Z8,Bool.not_true,cond_false,FP h3,Z8,Z8,Bool.not_true,cond_false]
 have hf:(cond (!Dw ((Qs c.Fuse.Rated 0)&&((Qs c.Fuse.Heat 0)&&true))) ((QD n (⟨1,1000⟩:Kc) c.Fuse.Rated).bind fun r14=>cond r14 ((QD n (⟨0,1000000⟩:Kc) c.Fuse.Heat).bind fun r16=>some (!r16)) (some true)) (some false))=some false:=by
  rcases lK h4 with e | ⟨e,e1,e2⟩
  ·rw [e]; rfl
  ·rw [e,FP e1,Z8,FP e2]; rfl
 rw [hf,Z8,cond_false]
 rcases pM h5 with e | ⟨e,⟨e1,e2,e3,e4,e5⟩,e6⟩
 ·rw [e]; rfl
 ·rw [e,cond_false,FP e1,Z8,cond_true,FP e2,Z8,cond_true,FP e3,Z8,cond_true,FP e4,Z8,cond_true,FP e5,Z8,cond_true]
  unfold VL
  rw [YN e6]; rfl
theorem Om {k:Nat} (h:k≤1000):wi ((k:Int) - 1)=(k:Int) - 1:=Xd zo zo
theorem Qal {n:Nat} {s:Qj} {c:ZL} (h:pK s.Conductors.length s.Owners.length c) (h1:s.Conductors.length≤1000) (h2:s.Owners.length≤1000):YG n s c=some true:=by
 obtain ⟨a1,a2,a3,a4,a5,a6,a7,a8,a9⟩:=h
 unfold YG
 simp only [Qc,List.length_map]
 rw [Om h1,Om h2,FP zo,Z8,cond_true,FP zo,Z8,cond_true,FP a3,Z8,cond_true,FP a4,Z8,cond_true,FP a5,Z8,cond_true,FP a6,Z8,cond_true,FP a7,Z8,cond_true]
 unfold Y5
 rw [Wh a8,cond_true]
 rcases a9 with a9 | a9
 ·rw [a9]; rfl
 ·rw [Wh a9.1,Wh a9.2]
  cases Qs c.Fallback 0 <;> rfl
theorem Oo {α:Type} {L:List α} {i:Nat} (hi:i < L.length):L.take (i+1)=L.take i++[L[i]]:=by
 rw [List.take_add_one,List.getElem?_eq_getElem hi]; rfl
theorem Vm {α:Type} {L:List α} {nm:α→List UInt8} {cs:α→List PV} {B:(List (List UInt8) × Int→Option (List (List UInt8)))→List (List UInt8) × Int→Option (List (List UInt8))} {n:Nat} {acc:List (List UInt8)}
  (hB:∀ rec a i,B rec (a,i)=cond (QL i (Qc (L.map cs))) ((Zc L i).bind fun x=>cond (ZB (List.length (a++[nm x])) 16) (rec (a++[nm x],wi (i+1))) none) (some a)) (hl:L.length≤50) (ha:acc.length≤500) (hn:2000≤n):Q4 B n (acc,0)=some (acc++L.map nm):=by
 have:=step_loop (B:=B) (E:=some (acc++L.map nm)) (k:=L.length) (f:=fun i=>(acc++(L.take i).map nm,(i:Int))) (fun rec i hi=>?_) (fun rec=>?_) (n:=n) 0 zo zo
 ·simpa using this
 ·rw [hB]
  simp only [Qc,List.length_map]
  rw [YN zo,cond_true,ZK,List.getElem?_eq_getElem hi,Z8,Xd zo zo]
  have e:acc++List.map nm (List.take i L)++[nm L[i]]=acc++(L.take (i+1)).map nm:=by rw [Oo hi,List.map_append,List.append_assoc]; rfl
  rw [e,show ZB (List.length (acc++(L.take (i+1)).map nm)) 16=true from by unfold ZB; simp; omega,cond_true]
  rfl
 ·rw [hB]
  simp only [Qc,List.length_map]
  rw [KW zo,cond_false,List.take_length]
theorem Qam {n:Nat} {l:List (List UInt8)} {s:List UInt8} (hs:s ∉ l) (hl:l.length≤1000) (hn:2000≤n):Ja n l s=some false:=by
 unfold Ja
 refine step_loop (f:=fun i:Nat=>(i:Int)) (k:=l.length) (fun rec i hi=>?_) (fun rec=>?_) 0 zo zo
 ·unfold YW
  simp only [Qc,List.length_map]
  rw [YN zo,cond_true,ZK,List.getElem?_eq_getElem hi,Z8,Xd zo zo]
  have:Q8 l[i] s=false:=by
   unfold Q8
   rw [beq_eq_false_iff_ne]
   intro e
   exact hs (e ▸ List.getElem_mem hi)
  rw [this,cond_false]
  rfl
 ·unfold YW
  simp only [Qc,List.length_map]
  rw [KW zo,cond_false]
theorem yu {l:List (List UInt8)} (h:l.Nodup) {i:Nat} (hi:i < l.length):l[i] ∉ l.take i:=by
 intro hm
 obtain ⟨j,hj,e⟩:=List.mem_iff_getElem.1 hm
 simp only [List.length_take] at hj
 rw [List.getElem_take] at e
 have:=(List.getElem_inj h).1 e
 omega
def qL (s:Qj):Prop:=s.Conductors.length≤16∧s.Owners.length≤8∧s.Contracts.length≤32∧s.Chargers.length≤16∧s.Bays.length≤24
theorem yw {s:Qj} (h:qL s):(K8 s).length≤100:=by
 unfold qL at h
 simp only [K8,uJ,List.length_map]
 omega
theorem pO {n:Nat} {s:Qj} (hf:qL s) (hn:2000≤n):WY n s=some (K8 s):=by
 obtain ⟨f1,f2,f3,f4,f5⟩:=hf
 unfold WY
 refine (congrArg (fun q=>Option.bind q _) (Vm (L:=s.Conductors) (nm:=(·.Name)) (acc:=[]) (B:=fun rec (v:List (List UInt8) × Int)=>WA s rec v.1 v.2) (fun _ _ _=>rfl) zo (by simp; try omega) hn)).trans ?_
 rw [Z8]
 refine (congrArg (fun q=>Option.bind q _) (Vm (L:=s.Owners) (nm:=(·.Name)) (acc:=([]++s.Conductors.map (·.Name))) (B:=fun rec (v:List (List UInt8) × Int)=>WB s rec v.1 v.2) (fun _ _ _=>rfl) zo (by simp; try omega) hn)).trans ?_
 rw [Z8]
 refine (congrArg (fun q=>Option.bind q _) (Vm (L:=s.Contracts) (nm:=(·.Name)) (acc:=(([]++s.Conductors.map (·.Name))++s.Owners.map (·.Name))) (B:=fun rec (v:List (List UInt8) × Int)=>WC s rec v.1 v.2) (fun _ _ _=>rfl) zo (by simp; try omega) hn)).trans ?_
 rw [Z8]
 refine (congrArg (fun q=>Option.bind q _) (Vm (L:=s.Chargers) (nm:=(·.Name)) (acc:=((([]++s.Conductors.map (·.Name))++s.Owners.map (·.Name))++s.Contracts.map (·.Name))) (B:=fun rec (v:List (List UInt8) × Int)=>V5 s rec v.1 v.2) (fun _ _ _=>rfl) zo (by simp; try omega) hn)).trans ?_
 rw [Z8]
 refine (Vm (L:=s.Bays) (nm:=(·.Name)) (acc:=(((([]++s.Conductors.map (·.Name))++s.Owners.map (·.Name))++s.Contracts.map (·.Name))++s.Chargers.map (·.Name))) (B:=fun rec (v:List (List UInt8) × Int)=>V6 s rec v.1 v.2) (fun _ _ _=>rfl) zo (by simp; try omega) hn).trans ?_
 rw [List.nil_append]; rfl
def qM (l:List Kq):List (Int × Bool):=l.foldl (fun m c=>Qq Zk c.Card true m) []
theorem uX (a b:Int):Zk a b=true↔a=b:=by
 unfold Zk Qs
 simp
theorem IE:∀ (l:List Kq) (m:List (Int × Bool)) (z:Int),(∀ c ∈ l,c.Card ≠ z)→QJ Zk z false m=false→QJ Zk z false (l.foldl (fun m c=>Qq Zk c.Card true m) m)=false
 | [],m,z,_,h=>h
 | c :: l,m,z,hc,h=>by
  rw [List.foldl_cons]
  refine IE l _ z (fun a ha=>hc a (by simp [ha])) ?_
  unfold QJ at h ⊢
  rw [qK uX,show Zk z c.Card=false from by
   cases e:Zk z c.Card
   ·rfl
   ·exact absurd ((uX _ _).1 e).symm (hc c zq)]
  exact h
def qN (l:List (List UInt8)):RL:=l.foldl (fun m w=>Qq Qd w true m) []
theorem IG:∀ (l:List (List UInt8)) (m:RL) (z:List UInt8),z ∉ l→QJ Qd z false m=false→QJ Qd z false (l.foldl (fun m w=>Qq Qd w true m) m)=false
 | [],m,z,_,h=>h
 | c :: l,m,z,hc,h=>by
  rw [List.foldl_cons]
  simp only [List.mem_cons,not_or] at hc
  refine IG l _ z hc.2 ?_
  have:=pJ z c m
  unfold yo at this
  rw [this,h,Bool.false_or,beq_eq_false_iff_ne]
  exact hc.1
theorem pQ {n:Nat} {s:Qj} (h:OkS s) (hf:qL s) (hn:2000≤n):Vj n s=some true:=by
 obtain ⟨f1,f2,f3,f4,f5⟩:=hf
 unfold Vj
 refine step_loop (f:=fun i:Nat=>(i:Int)) (k:=s.Conductors.length) (fun rec i hi=>?_) (fun rec=>?_) 0 zo zo
 ·unfold Yc
  simp only [Qc,List.length_map]
  rw [YN zo,cond_true,ZK,List.getElem?_eq_getElem hi,Z8,lL (h.c i _ (List.getElem?_eq_getElem hi)),Z8,Bool.not_true,cond_false,Xd zo zo]
  rfl
 unfold Yc
 simp only [Qc,List.length_map]
 rw [KW zo,cond_false]
 unfold KJ
 refine step_loop (B:=fun rec (v:Int × List (Int × Bool))=>Kr n s rec v.1 v.2) (f:=fun i:Nat=>((i:Int),qM (s.Contracts.take i))) (k:=s.Contracts.length) (fun rec i hi=>?_) (fun rec=>?_) 0 zo zo
 ·unfold Kr
  simp only [Qc,List.length_map]
  obtain ⟨k1,k2,k3⟩:=h.k _ (List.getElem_mem hi)
  have e:QJ Zk s.Contracts[i].Card false (qM (s.Contracts.take i))=false:=by
   refine IE _ _ _ (fun c hc=>?_) rfl
   obtain ⟨j,hj,e⟩:=List.mem_iff_getElem.1 hc
   simp only [List.length_take] at hj
   rw [List.getElem_take] at e
   rw [← e]
   exact List.pairwise_iff_getElem.1 h.kd j i zo hi zo
  have e2:qM (s.Contracts.take (i+1))=Qq Zk s.Contracts[i].Card true (qM (s.Contracts.take i)):=by
   unfold qM
   rw [Oo hi,List.foldl_append]; rfl
  rw [YN zo,cond_true,ZK,List.getElem?_eq_getElem hi,Z8,Om zo,FP zo,Z8,Bool.not_true,cond_false,FP k2,Z8,Bool.not_true,cond_false,FP k3,Z8,Bool.not_true,cond_false,e,Z8,cond_false,Xd zo zo,e2]
  rfl
 unfold Kr
 simp only [Qc,List.length_map]
 rw [KW zo,cond_false]
 unfold KI
 refine step_loop (f:=fun i:Nat=>(i:Int)) (k:=s.Chargers.length) (fun rec i hi=>?_) (fun rec=>?_) 0 zo zo
 ·unfold Yo
  simp only [Qc,List.length_map]
  rw [YN zo,cond_true,ZK,List.getElem?_eq_getElem hi,Z8,Qal (h.g _ (List.getElem_mem hi)) zo zo,Z8,Bool.not_true,cond_false,Xd zo zo]
  rfl
 unfold Yo
 simp only [Qc,List.length_map]
 rw [KW zo,cond_false]
 unfold KH
 refine step_loop (f:=fun i:Nat=>(i:Int)) (k:=s.Bays.length) (fun rec i hi=>?_) (fun rec=>?_) 0 zo zo
 ·unfold Yn
  simp only [Qc,List.length_map]
  have k1:=h.b _ (List.getElem_mem hi)
  rw [YN zo,cond_true,ZK,List.getElem?_eq_getElem hi,Z8,Om zo,FP zo,Z8,Bool.not_true,cond_false,Xd zo zo]
  rfl
 unfold Yn
 simp only [Qc,List.length_map]
 rw [KW zo,cond_false]
theorem uY {n:Nat} {s:Qj} (h:OkS s) (hf:qL s) (h1:1≤s.Conductors.length) (hn:2000≤n):V7 n s=some true:=by
 have hp:=pQ h hf hn
 have hnm:=pO hf hn
 have hl:=yw hf
 obtain ⟨f1,f2,f3,f4,f5⟩:=hf
 unfold V7
 simp only [Qc,List.length_map]
 rw [KW zo,cond_false,KW zo,cond_false,KW zo,cond_false,KW zo,cond_false,KW zo,cond_false,KW zo,Z8,cond_false,hnm,Z8]
 refine step_loop (B:=fun rec (v:Int × RL)=>YL n s (K8 s) rec v.1 v.2) (f:=fun i:Nat=>((i:Int),qN ((K8 s).take i))) (k:=(K8 s).length) (fun rec i hi=>?_) (fun rec=>?_) 0 zo zo
 ·unfold YL
  simp only [Qc,List.length_map]
  have e:QJ Qd (K8 s)[i] false (qN ((K8 s).take i))=false:=IG _ _ _ (yu h.nd hi) rfl
  have e2:qN ((K8 s).take (i+1))=Qq Qd (K8 s)[i] true (qN ((K8 s).take i)):=by
   unfold qN
   rw [Oo hi,List.foldl_append]; rfl
  have e3:Wi n (K8 s)[i]=some true:=by
   unfold Wi
   rw [uU n _ zo,h.nm _ (List.getElem_mem hi)]; rfl
  rw [YN zo,cond_true,ZK,List.getElem?_eq_getElem hi,Z8,e3,Z8,Bool.not_true,cond_false,e,Z8,cond_false,Xd zo zo,e2]
  rfl
 unfold YL
 simp only [Qc,List.length_map]
 rw [KW zo,cond_false]
 unfold Y6
 rw [hp]; rfl
theorem GG {n:Nat} {x lo hi:Int} (h:¬ (lo≤x∧x≤hi)):Qy n x lo hi=some false:=by
 unfold Qy
 by_cases h1:lo≤x
 ·rw [Wh h1,cond_true,Dx zo]
 ·rw [Dx h1]; rfl
theorem lM {n:Nat} {c:ZI} {i:Nat} (hi:i≤1000):Does (Y7 n c (i:Int)) (fun b=>b=true→okC c i):=by
 unfold Y7
 by_cases h2:1≤c.Limit∧c.Limit≤1000
 rotate_left
 ·rw [GG h2]; exact QH (x:=false) nofun
 by_cases h3:1≤c.Neutral∧c.Neutral≤1000
 rotate_left
 ·rw [U3 h2,GG h3]; exact QH (x:=false) nofun
 rw [U3 h2,Z8,Bool.not_true,cond_false,U3 h3,Z8,Bool.not_true,cond_false]
 have hu:(cond (Qs (i:Int) 0) (cond (!Qs c.Up (-1)) (some true) (cond (QL 0 (i:Int)) ((Qy n c.Up 0 (wi ((i:Int) - 1))).bind fun r9=>some (!r9)) (some false))) (cond (QL 0 (i:Int)) ((Qy n c.Up 0 (wi ((i:Int) - 1))).bind fun r11=>some (!r11)) (some false)))=some false∧((i=0→c.Up=-1)∧(0 < i→0≤c.Up∧c.Up < i))∨(cond (Qs (i:Int) 0) (cond (!Qs c.Up (-1)) (some true) (cond (QL 0 (i:Int)) ((Qy n c.Up 0 (wi ((i:Int) - 1))).bind fun r9=>some (!r9)) (some false))) (cond (QL 0 (i:Int)) ((Qy n c.Up 0 (wi ((i:Int) - 1))).bind fun r11=>some (!r11)) (some false)))=some true:=by
  by_cases h0:i=0
  ·subst h0
   by_cases hu:c.Up=-1
   ·left; rw [hu]; exact ⟨rfl,fun _=>rfl,fun h=>absurd h zo⟩
   ·right; rw [N8 hu]; rfl
  ·rw [N8 (show ¬ (i:Int)=0 by omega),cond_false,YN zo,cond_true,Xd zo zo]
   by_cases hu:0≤c.Up∧c.Up≤(i:Int) - 1
   ·left; rw [U3 hu]; exact ⟨rfl,fun h=>absurd h h0,fun _=>by omega⟩
   ·right; rw [GG hu]; rfl
 rcases hu with ⟨e,hu⟩ | e
 rotate_left
 ·rw [e]; exact QH (x:=false) nofun
 rw [e,Z8,cond_false]
 have hf:(cond (!Dw ((Qs c.Fuse.Rated 0)&&((Qs c.Fuse.Heat 0)&&true))) ((Qy n c.Fuse.Rated 1 1000).bind fun r14=>cond (!r14) (some true) ((Qy n c.Fuse.Heat 0 1000000).bind fun r16=>some (!r16))) (some false))=some false∧okF c.Fuse∨(cond (!Dw ((Qs c.Fuse.Rated 0)&&((Qs c.Fuse.Heat 0)&&true))) ((Qy n c.Fuse.Rated 1 1000).bind fun r14=>cond (!r14) (some true) ((Qy n c.Fuse.Heat 0 1000000).bind fun r16=>some (!r16))) (some false))=some true:=by
  cases e1:Dw ((Qs c.Fuse.Rated 0)&&((Qs c.Fuse.Heat 0)&&true))
  ·rw [Bool.not_false,cond_true]
   by_cases h4:1≤c.Fuse.Rated∧c.Fuse.Rated≤1000
   rotate_left
   ·right; rw [GG h4]; rfl
   by_cases h5:0≤c.Fuse.Heat∧c.Fuse.Heat≤1000000
   rotate_left
   ·right; rw [U3 h4,GG h5]; rfl
   left; rw [U3 h4,U3 h5]; exact ⟨rfl, .inr ⟨h4,h5⟩⟩
  ·left
   refine ⟨rfl, .inl ?_⟩
   simpa [Dw,Qs] using e1
 rcases hf with ⟨e,hf⟩ | e
 rotate_left
 ·rw [e]; exact QH (x:=false) nofun
 rw [e,Z8,cond_false]
 cases e1:Dw ((Qs c.Cable.Ambient 0)&&((Qs c.Cable.Most 0)&&((Qs c.Cable.Gain 0)&&((Qs c.Cable.Loss 0)&&((Qs c.Cable.Den 0)&&true)))))
 rotate_left
 ·refine QH (x:=true) fun _=>⟨hu,h2,h3,hf, .inl ?_⟩
  have h5:c.Cable.Ambient=0∧c.Cable.Most=0∧c.Cable.Gain=0∧c.Cable.Loss=0∧c.Cable.Den=0:=by simpa [Dw,Qs] using e1
  generalize c.Cable=q at h5
  obtain ⟨a,b,g,l,d⟩:=q
  simp only at h5
  obtain ⟨rfl,rfl,rfl,rfl,rfl⟩:=h5
  rfl
 rw [cond_false]
 by_cases a1:0≤c.Cable.Ambient∧c.Cable.Ambient≤200000
 rotate_left
 ·rw [GG a1]; exact QH (x:=false) nofun
 rw [U3 a1,Z8,cond_true,Xd (x:=c.Cable.Ambient+1) zo zo]
 by_cases a2:c.Cable.Ambient+1≤c.Cable.Most∧c.Cable.Most≤200000
 rotate_left
 ·rw [GG a2]; exact QH (x:=false) nofun
 rw [U3 a2,Z8,cond_true]
 by_cases a3:0≤c.Cable.Gain∧c.Cable.Gain≤1000
 rotate_left
 ·rw [GG a3]; exact QH (x:=false) nofun
 rw [U3 a3,Z8,cond_true]
 by_cases a4:0≤c.Cable.Loss∧c.Cable.Loss≤1000
 rotate_left
 ·rw [GG a4]; exact QH (x:=false) nofun
 rw [U3 a4,Z8,cond_true]
 by_cases a5:1≤c.Cable.Den∧c.Cable.Den≤1000000
 rotate_left
 ·rw [GG a5]; exact QH (x:=false) nofun
 rw [U3 a5]
 exact QH (x:=true) fun _=>⟨hu,h2,h3,hf, .inr ⟨⟨a1,by omega,a3,a4,a5⟩,by omega⟩⟩
theorem lN {n:Nat} {c:ZL}:Does (We n c) (fun b=>b=true→(1≤c.Phases∧c.Phases≤7)∧(1≤c.Min∧c.Min≤80)∧(c.Min≤c.Max∧c.Max≤80)∧(1≤c.Step∧c.Step≤80)∧(c.Fallback=0∨(c.Min≤c.Fallback∧c.Fallback≤c.Max))):=by
 unfold We
 by_cases a1:1≤c.Phases∧c.Phases≤7
 rotate_left
 ·rw [GG a1]; exact QH (x:=false) nofun
 rw [U3 a1,Z8,cond_true]
 by_cases a2:1≤c.Min∧c.Min≤80
 rotate_left
 ·rw [GG a2]; exact QH (x:=false) nofun
 rw [U3 a2,Z8,cond_true]
 by_cases a3:c.Min≤c.Max∧c.Max≤80
 rotate_left
 ·rw [GG a3]; exact QH (x:=false) nofun
 rw [U3 a3,Z8,cond_true]
 by_cases a4:1≤c.Step∧c.Step≤80
 rotate_left
 ·rw [GG a4]; exact QH (x:=false) nofun
 rw [U3 a4,Z8,cond_true]
 by_cases a5:c.Fallback=0
 ·rw [EA a5]; exact QH (x:=true) fun _=>⟨a1,a2,a3,a4, .inl a5⟩
 rw [N8 a5,cond_false]
 by_cases a6:c.Min≤c.Fallback∧c.Fallback≤c.Max
 rotate_left
 ·rw [GG a6]; exact QH (x:=false) nofun
 rw [U3 a6]
 exact QH (x:=true) fun _=>⟨a1,a2,a3,a4, .inr a6⟩
theorem lQ {n:Nat} {l:List (List UInt8)} {s:List UInt8} (hl:l.length≤1000) (hn:2000≤n):Does (Ja n l s) (fun b=>b=false→s ∉ l):=by
 by_cases h:s ∈ l
 rotate_left
 ·exact ⟨_,Qam h hl hn,fun _=>h⟩
 unfold Ja
 have:=WM (B:=fun rec i=>YW l s rec i) (n:=n) (L:=l.length) (fun i b=>b=false→s ∉ l.drop i) zo (fun rec i hi hr=>?_) 0 zo zo
 ·exact KE this fun b hb e=>by simpa using hb e
 unfold YW
 simp only [Qc,List.length_map]
 by_cases c1:i < l.length
 rotate_left
 ·rw [KW zo,cond_false]; exact QH fun _=>by rw [List.drop_eq_nil_of_le zo]; simp
 obtain ⟨w1,w2⟩:=hr c1
 rw [YN zo,cond_true,ZK,List.getElem?_eq_getElem c1,Z8,w1]
 cases e:Q8 l[i] s
 ·rw [cond_false]
  refine KE w2 fun b hb hf=>?_
  rw [List.drop_eq_getElem_cons c1]
  intro hm
  rcases List.mem_cons.1 hm with h1 | h1
  ·rw [← h1] at e; unfold Q8 at e; simp at e
  ·exact hb hf h1
 ·exact QH nofun
theorem uZ {l:List (List UInt8)} (h:∀ j (hj:j < l.length),l[j] ∉ l.take j):l.Nodup:=by
 rw [List.nodup_iff_pairwise_ne,List.pairwise_iff_getElem]
 intro i j hi hj hij e
 apply h j hj
 rw [← e]
 exact List.mem_iff_getElem.2 ⟨i,by simp; omega,by rw [List.getElem_take]⟩
theorem u6 {n:Nat} {l:List (List UInt8)} (hl:l.length≤500) (hw:∀ w ∈ l,w.length≤9223372036854775807) (hn:9223372036854776000≤n):Does (Q4 (fun rec i=>Yu n l rec i) n 0) (fun b=>b=true→(∀ w ∈ l,UZ w=true)∧l.Nodup):=by
 have:=WM (B:=fun rec i=>Yu n l rec i) (n:=n) (L:=l.length) (fun i b=>b=true→∀ j (hj:j < l.length),i≤j→UZ l[j]=true∧l[j] ∉ l.take j) zo (fun rec i hi hr=>?_) 0 zo zo
 ·refine KE this fun b hb e=>?_
  have h:=hb e
  refine ⟨fun w hw=>?_,uZ fun j hj=>(h j hj zo).2⟩
  obtain ⟨j,hj,rfl⟩:=List.mem_iff_getElem.1 hw
  exact (h j hj zo).1
 unfold Yu
 simp only [Qc,List.length_map]
 by_cases c1:i < l.length
 rotate_left
 ·rw [KW zo,cond_false]; exact QH fun _ j hj hij=>absurd hj zo
 obtain ⟨w1,w2⟩:=hr c1
 rw [YN zo,cond_true,ZK,List.getElem?_eq_getElem c1,Z8,pI hn (hw _ (List.getElem_mem c1)),Z8]
 cases hb:UZ l[i]
 ·exact QH (x:=false) nofun
 rw [Bool.not_true,cond_false,show sliceB 0 (i:Int) l.length=true from by unfold sliceB; rw [decide_eq_true_eq]; omega,cond_true,Z8]
 have e:List.drop (Int.toNat 0) (List.take (Int.toNat (i:Int)) l)=l.take i:=by simp
 obtain ⟨b,hb1,hb2⟩:=lQ (n:=n) (l:=l.take i) (s:=l[i]) (by simp; omega) zo
 rw [e,hb1,Z8]
 cases b
 rotate_left
 ·exact QH (x:=false) nofun
 rw [Z8,cond_false,w1]
 refine KE w2 fun b h hf j hj hij=>?_
 by_cases hji:j=i
 ·subst hji; exact ⟨hb,hb2 rfl⟩
 ·exact h hf j hj zo
def pR (s:Qj):Prop:=s.Conductors.length≤40∧s.Owners.length≤40∧s.Contracts.length≤40∧s.Chargers.length≤40∧s.Bays.length≤40
theorem u7 {n:Nat} {s:Qj} (hf:pR s) (hw:∀ w ∈ K8 s,w.length≤9223372036854775807) (hn:9223372036854776000≤n):Does (JS n s) (fun b=>b=true→(∀ w ∈ K8 s,UZ w=true)∧(K8 s).Nodup):=by
 obtain ⟨f1,f2,f3,f4,f5⟩:=hf
 unfold JS
 have e1:=Vm (L:=s.Conductors) (nm:=(·.Name)) (acc:=[]) (B:=fun rec (v:List (List UInt8) × Int)=>Jk s rec v.1 v.2) (n:=n) (fun _ _ _=>rfl) zo zq zo
 have e2:=Vm (L:=s.Owners) (nm:=(·.Name)) (acc:=[]++s.Conductors.map (·.Name)) (B:=fun rec (v:List (List UInt8) × Int)=>Jl s rec v.1 v.2) (n:=n) (fun _ _ _=>rfl) zo (by simp; omega) zo
 have e3:=Vm (L:=s.Contracts) (nm:=(·.Name)) (acc:=[]++s.Conductors.map (·.Name)++s.Owners.map (·.Name)) (B:=fun rec (v:List (List UInt8) × Int)=>Jm s rec v.1 v.2) (n:=n) (fun _ _ _=>rfl) zo (by simp; omega) zo
 have e4:=Vm (L:=s.Chargers) (nm:=(·.Name)) (acc:=[]++s.Conductors.map (·.Name)++s.Owners.map (·.Name)++s.Contracts.map (·.Name)) (B:=fun rec (v:List (List UInt8) × Int)=>WH s rec v.1 v.2) (n:=n) (fun _ _ _=>rfl) zo (by simp; omega) zo
 have e5:=Vm (L:=s.Bays) (nm:=(·.Name)) (acc:=[]++s.Conductors.map (·.Name)++s.Owners.map (·.Name)++s.Contracts.map (·.Name)++s.Chargers.map (·.Name)) (B:=fun rec (v:List (List UInt8) × Int)=>WI s rec v.1 v.2) (n:=n) (fun _ _ _=>rfl) zo (by simp; omega) zo
 have hL:[]++s.Conductors.map (·.Name)++s.Owners.map (·.Name)++s.Contracts.map (·.Name)++s.Chargers.map (·.Name)++s.Bays.map (·.Name)=K8 s:=rfl
 have hlen:(K8 s).length≤500:=by simp only [K8,uJ,List.length_map]; omega
 obtain ⟨b,hb,h⟩:=u6 hlen hw hn
 refine ⟨b,?_,h⟩
 refine (congrArg (fun q=>Option.bind q _) e1).trans ?_
 rw [Z8]
 refine (congrArg (fun q=>Option.bind q _) e2).trans ?_
 rw [Z8]
 refine (congrArg (fun q=>Option.bind q _) e3).trans ?_
 rw [Z8]
 refine (congrArg (fun q=>Option.bind q _) e4).trans ?_
 rw [Z8]
 refine (congrArg (fun q=>Option.bind q _) e5).trans ?_
 rw [Z8,hL]
 exact hb
theorem wD {k:Nat} (h:k≤1000):wi ((k:Int) - 1)=(k:Int) - 1:=Xd zo zo
theorem gp {n:Nat} {s:Qj} (hf:pR s) (hw:∀ w ∈ K8 s,w.length≤9223372036854775807) (hn:9223372036854776000≤n):Does (JI n s) (fun b=>b=true→OkS s∧qL s∧1≤s.Conductors.length):=by
 have hnm:=u7 hf hw hn
 obtain ⟨f1,f2,f3,f4,f5⟩:=hf
 unfold JI
 simp only [Qc,List.length_map]
 by_cases g1:(1:Int)≤s.Conductors.length∧(s.Conductors.length:Int)≤16
 rotate_left
 ·rw [GG g1]; exact QH (x:=false) nofun
 rw [U3 g1,Z8,Bool.not_true,cond_false]
 by_cases g2:(8:Int) < s.Owners.length
 ·rw [YN g2]; exact QH (x:=false) nofun
 rw [KW g2,cond_false]
 by_cases g3:(32:Int) < s.Contracts.length
 ·rw [YN g3]; exact QH (x:=false) nofun
 rw [KW g3,cond_false]
 by_cases g4:(16:Int) < s.Chargers.length
 ·rw [YN g4]; exact QH (x:=false) nofun
 rw [KW g4,cond_false]
 by_cases g5:(24:Int) < s.Bays.length
 ·rw [YN g5]; exact QH (x:=false) nofun
 rw [KW g5,cond_false]
 obtain ⟨b,hb,hnm⟩:=hnm
 rw [hb,Z8,Z8]
 cases b
 ·exact QH (x:=false) nofun
 obtain ⟨hnm,hnd⟩:=hnm rfl
 rw [Bool.not_true,cond_false]
 have hB:Does (KS n s) (fun b=>b=true→∀ c ∈ s.Bays,0≤c.Charger∧c.Charger < s.Chargers.length):=by
  unfold KS
  have:=WM (B:=fun rec i=>Y8 n s rec i) (n:=n) (L:=s.Bays.length) (fun i b=>b=true→∀ c ∈ s.Bays.drop i,0≤c.Charger∧c.Charger < s.Chargers.length) zo (fun rec i hi hr=>?_) 0 zo zo
  ·exact this
  unfold Y8
  simp only [Qc,List.length_map]
  by_cases c1:i < s.Bays.length
  rotate_left
  ·rw [KW zo,cond_false,List.drop_eq_nil_of_le zo]; exact QH fun _ c hc=>by cases hc
  obtain ⟨w1,w2⟩:=hr c1
  rw [YN zo,cond_true,ZK,List.getElem?_eq_getElem c1,Z8,wD zo,w1]
  by_cases a1:0≤s.Bays[i].Charger∧s.Bays[i].Charger≤(s.Chargers.length:Int) - 1
  rotate_left
  ·rw [GG a1]; exact QH (x:=false) nofun
  rw [U3 a1,Z8,Bool.not_true,cond_false]
  refine KE w2 fun b hb hf c hc=>?_
  rw [List.drop_eq_getElem_cons c1] at hc
  rcases List.mem_cons.1 hc with rfl | hc
  ·omega
  ·exact hb hf c hc
 have hG:Does (KT n s) (fun b=>b=true→(∀ c ∈ s.Chargers,pK s.Conductors.length s.Owners.length c)∧∀ c ∈ s.Bays,0≤c.Charger∧c.Charger < s.Chargers.length):=by
  unfold KT
  have:=WM (B:=fun rec i=>Y9 n s rec i) (n:=n) (L:=s.Chargers.length) (fun i b=>b=true→(∀ c ∈ s.Chargers.drop i,pK s.Conductors.length s.Owners.length c)∧∀ c ∈ s.Bays,0≤c.Charger∧c.Charger < s.Chargers.length) zo (fun rec i hi hr=>?_) 0 zo zo
  ·exact this
  unfold Y9
  simp only [Qc,List.length_map]
  by_cases c1:i < s.Chargers.length
  rotate_left
  ·rw [KW zo,cond_false,List.drop_eq_nil_of_le zo]
   exact KE hB fun b hb hf=>⟨(fun c hc=>by cases hc),hb hf⟩
  obtain ⟨w1,w2⟩:=hr c1
  rw [YN zo,cond_true,ZK,List.getElem?_eq_getElem c1,Z8,wD zo,wD zo,w1]
  obtain ⟨b,hb,hch⟩:=lN (n:=n) (c:=s.Chargers[i])
  rw [hb,Z8]
  cases b
  ·exact QH (x:=false) nofun
  obtain ⟨k1,k2,k3,k4,k5⟩:=hch rfl
  rw [Bool.not_true,cond_false]
  by_cases a1:0≤s.Chargers[i].At∧s.Chargers[i].At≤(s.Conductors.length:Int) - 1
  rotate_left
  ·rw [GG a1]; exact QH (x:=false) nofun
  rw [U3 a1,Z8,Bool.not_true,cond_false]
  by_cases a2:0≤s.Chargers[i].Owner∧s.Chargers[i].Owner≤(s.Owners.length:Int) - 1
  rotate_left
  ·rw [GG a2]; exact QH (x:=false) nofun
  rw [U3 a2,Z8,Bool.not_true,Z8,cond_false]
  refine KE w2 fun b hb hf=>?_
  obtain ⟨h1,h2⟩:=hb hf
  refine ⟨fun c hc=>?_,h2⟩
  rw [List.drop_eq_getElem_cons c1] at hc
  rcases List.mem_cons.1 hc with rfl | hc
  ·unfold pK; omega
  ·exact h1 c hc
 have hK:Does (Yd n s) (fun b=>b=true→((∀ c ∈ s.Contracts,iU s.Owners.length c)∧s.Contracts.Pairwise fun a b=>a.Card ≠ b.Card)∧(∀ c ∈ s.Chargers,pK s.Conductors.length s.Owners.length c)∧∀ c ∈ s.Bays,0≤c.Charger∧c.Charger < s.Chargers.length):=by
  unfold Yd
  have:=WM (B:=fun rec i=>Vb n s rec i) (n:=n) (L:=s.Contracts.length) (fun i b=>b=true→(∀ j (hj:j < s.Contracts.length),i≤j→iU s.Owners.length s.Contracts[j]∧∀ k (hk:k < j),s.Contracts[k].Card ≠ s.Contracts[j].Card)∧(∀ c ∈ s.Chargers,pK s.Conductors.length s.Owners.length c)∧∀ c ∈ s.Bays,0≤c.Charger∧c.Charger < s.Chargers.length) zo (fun rec i hi hr=>?_) 0 zo zo
  ·refine KE this fun b hb hf=>?_
   obtain ⟨h1,h2⟩:=hb hf
   refine ⟨⟨fun c hc=>?_,?_⟩,h2⟩
   ·obtain ⟨j,hj,rfl⟩:=List.mem_iff_getElem.1 hc
    exact (h1 j hj zo).1
   ·rw [List.pairwise_iff_getElem]
    exact fun k j hk hj hkj=>(h1 j hj zo).2 k hkj
  unfold Vb
  simp only [Qc,List.length_map]
  by_cases c1:i < s.Contracts.length
  rotate_left
  ·rw [KW zo,cond_false]
   exact KE hG fun b hb hf=>⟨fun j hj hij=>absurd hj zo,hb hf⟩
  obtain ⟨w1,w2⟩:=hr c1
  rw [YN zo,cond_true,ZK,List.getElem?_eq_getElem c1,Z8,wD zo]
  by_cases a1:0≤s.Contracts[i].Owner∧s.Contracts[i].Owner≤(s.Owners.length:Int) - 1
  rotate_left
  ·rw [GG a1]; exact QH (x:=false) nofun
  rw [U3 a1,Z8,Bool.not_true,cond_false]
  by_cases a2:1≤s.Contracts[i].Rank∧s.Contracts[i].Rank≤9
  rotate_left
  ·rw [GG a2]; exact QH (x:=false) nofun
  rw [U3 a2,Z8,Bool.not_true,cond_false]
  by_cases a3:1≤s.Contracts[i].Card∧s.Contracts[i].Card≤1000000
  rotate_left
  ·rw [GG a3]; exact QH (x:=false) nofun
  rw [U3 a3,Z8,Bool.not_true,Z8,cond_false]
  have hin:=WM (B:=fun rec2 j=>Va s (i:Int) rec s.Contracts[i] rec2 j) (n:=n) (L:=i) (fun j b=>b=true→(∀ k (hk:k < i),j≤k→s.Contracts[k].Card ≠ s.Contracts[i].Card)∧((∀ j (hj:j < s.Contracts.length),i+1≤j→iU s.Owners.length s.Contracts[j]∧∀ k (hk:k < j),s.Contracts[k].Card ≠ s.Contracts[j].Card)∧(∀ c ∈ s.Chargers,pK s.Conductors.length s.Owners.length c)∧∀ c ∈ s.Bays,0≤c.Charger∧c.Charger < s.Chargers.length)) zo (fun rec2 j hj hr2=>?_) 0 zo zo
  ·refine KE hin fun b hb hf=>?_
   obtain ⟨h1,h2,h3⟩:=hb hf
   refine ⟨fun j hj hij=>?_,h3⟩
   by_cases hji:j=i
   ·subst hji
    exact ⟨by unfold iU; omega,fun k hk=>h1 k hk zo⟩
   ·exact h2 j hj zo
  unfold Va
  by_cases c2:j < i
  rotate_left
  ·rw [KW zo,cond_false,w1]
   exact KE w2 fun b hb hf=>⟨fun k hk hjk=>absurd hk zo,hb hf⟩
  obtain ⟨v1,v2⟩:=hr2 c2
  rw [YN zo,cond_true,ZK,List.getElem?_eq_getElem (show j < s.Contracts.length by omega),Z8,v1]
  by_cases a4:s.Contracts[j].Card=s.Contracts[i].Card
  ·rw [EA a4]; exact QH (x:=false) nofun
  rw [N8 a4,cond_false]
  refine KE v2 fun b hb hf=>?_
  obtain ⟨h1,h2⟩:=hb hf
  refine ⟨fun k hk hjk=>?_,h2⟩
  by_cases hkj:k=j
  ·subst hkj; exact a4
  ·exact h1 k hk zo
 have:=WM (B:=fun rec i=>Vd n s rec i) (n:=n) (L:=s.Conductors.length) (fun i b=>b=true→(∀ j c,i≤j→s.Conductors[j]?=some c→okC c j)∧((∀ c ∈ s.Contracts,iU s.Owners.length c)∧s.Contracts.Pairwise fun a b=>a.Card ≠ b.Card)∧(∀ c ∈ s.Chargers,pK s.Conductors.length s.Owners.length c)∧∀ c ∈ s.Bays,0≤c.Charger∧c.Charger < s.Chargers.length) zo (fun rec i hi hr=>?_) 0 zo zo
 ·refine KE this fun b hb hf=>?_
  obtain ⟨h1,⟨h2,h3⟩,h4,h5⟩:=hb hf
  exact ⟨⟨fun i c hc=>h1 i c zo hc,h2,h3,h4,h5,hnm,hnd⟩,⟨by omega,by omega,by omega,by omega,by omega⟩,by omega⟩
 unfold Vd
 simp only [Qc,List.length_map]
 by_cases c1:i < s.Conductors.length
 rotate_left
 ·rw [KW zo,cond_false]
  refine KE hK fun b hb hf=>⟨fun j c hij hc=>?_,hb hf⟩
  obtain ⟨h1,_⟩:=List.getElem?_eq_some_iff.1 hc
  omega
 obtain ⟨w1,w2⟩:=hr c1
 obtain ⟨b,hb,hc⟩:=lM (n:=n) (c:=s.Conductors[i]) (i:=i) zo
 rw [YN zo,cond_true,ZK,List.getElem?_eq_getElem c1,Z8,hb,Z8,w1]
 cases b
 ·exact QH (x:=false) nofun
 rw [Bool.not_true,cond_false]
 refine KE w2 fun b hb hf=>?_
 obtain ⟨h1,h2⟩:=hb hf
 refine ⟨fun j c hij hcj=>?_,h2⟩
 by_cases hji:j=i
 ·subst hji
  rw [List.getElem?_eq_getElem c1] at hcj
  cases hcj
  exact hc rfl
 ·exact h1 j c zo hcj
theorem pU:ZV 36893488147419103232=some true:=by kernel_rfl
def p7 (x:ZL):ZL:=⟨x.Name,x.At,7,x.Min,x.Max,x.Step,x.Fallback,x.Owner⟩
theorem Qcq {n:Nat} {s:Qj} (hl:s.Chargers.length≤140737488355328) (hn:9223372036854776000≤n):Q4 (fun rec (v:Int × List ZL)=>Zm s rec v.1 v.2) n (0,[]++s.Chargers)=some (s.Chargers.map p7):=by
 have:=step_loop (B:=fun rec (v:Int × List ZL)=>Zm s rec v.1 v.2) (E:=some (s.Chargers.map p7)) (k:=s.Chargers.length) (f:=fun i=>((i:Int),(s.Chargers.take i).map p7++s.Chargers.drop i)) (fun rec i hi=>?_) (fun rec=>?_) (n:=n) 0 zo zo
 ·simpa using this
 ·unfold Zm
  simp only [Qc,List.length_map,List.nil_append]
  have hlen:((s.Chargers.take i).map p7).length=i:=by simp; omega
  have hg:Zc ((s.Chargers.take i).map p7++s.Chargers.drop i) (i:Int)=some s.Chargers[i]:=by
   rw [ZK,List.getElem?_append_right zo,hlen,Nat.sub_self,List.getElem?_drop,Nat.add_zero,List.getElem?_eq_getElem hi]
  rw [YN zo,cond_true,hg,Z8,Xd zo zo,Int.toNat_natCast,List.set_append_right _ _ zo,hlen,Nat.sub_self,List.drop_eq_getElem_cons hi,List.set_cons_zero,Oo hi,List.map_append,List.append_assoc]
  rfl
 ·unfold Zm
  simp only [Qc,List.length_map,List.nil_append]
  rw [KW zo,cond_false,List.take_length,List.drop_length,List.append_nil]
theorem Qan {n:Nat} {s:Qj}:Does (UJ n s) (fun b=>b=true→pR s):=by
 unfold UJ
 simp only [Qc,List.length_map]
 by_cases h1:(s.Conductors.length:Int)≤40
 rotate_left
 ·rw [Dx h1]; exact QH (x:=false) nofun
 by_cases h2:(s.Owners.length:Int)≤40
 rotate_left
 ·rw [Wh h1,Dx h2]; exact QH (x:=false) nofun
 by_cases h3:(s.Contracts.length:Int)≤40
 rotate_left
 ·rw [Wh h1,Wh h2,Dx h3]; exact QH (x:=false) nofun
 by_cases h4:(s.Chargers.length:Int)≤40
 rotate_left
 ·rw [Wh h1,Wh h2,Wh h3,Dx h4]; exact QH (x:=false) nofun
 by_cases h5:(s.Bays.length:Int)≤40
 rotate_left
 ·rw [Wh h1,Wh h2,Wh h3,Wh h4,Dx h5]; exact QH (x:=false) nofun
 rw [Wh h1,Wh h2,Wh h3,Wh h4,Wh h5]
 exact QH (x:=true) fun _=>by unfold pR; omega
theorem Qao {n:Nat} {s:Qj} {amps:List Int} (hl:amps.length≤9223372036854775807) (hn:9223372036854776000≤n):Does (Vv n s amps) (fun b=>b=true→(∀ a ∈ amps,0≤a∧a≤80)∧amps.length=s.Chargers.length):=by
 unfold Vv
 have:=WM (B:=fun rec i=>YD s amps rec i) (n:=n) (L:=amps.length) (fun i b=>b=true→(∀ a ∈ amps.drop i,0≤a∧a≤80)∧amps.length=s.Chargers.length) hl (fun rec i hi hr=>?_) 0 zo zo
 ·exact this
 unfold YD
 simp only [Qc,List.length_map]
 by_cases c1:i < amps.length
 rotate_left
 ·rw [KW zo,cond_false,List.drop_eq_nil_of_le zo]
  refine QH fun h=>⟨fun a ha=>(by cases ha),?_⟩
  exact Int.ofNat_inj.1 (by simpa [Qs] using h)
 obtain ⟨w1,w2⟩:=hr c1
 rw [YN zo,cond_true,ZK,List.getElem?_eq_getElem c1,Z8,Z8,w1]
 by_cases h1:amps[i] < 0
 ·rw [YN h1]; exact QH (x:=false) nofun
 by_cases h2:80 < amps[i]
 ·rw [KW h1,YN h2]; exact QH (x:=false) nofun
 rw [KW h1,cond_false,KW h2,Z8,cond_false]
 refine KE w2 fun b hb hf=>?_
 obtain ⟨g1,g2⟩:=hb hf
 refine ⟨fun a ha=>?_,g2⟩
 rw [List.drop_eq_getElem_cons c1] at ha
 rcases List.mem_cons.1 ha with rfl | ha
 ·omega
 ·exact g1 a ha
def Bal (nc:Nat) (b:Int) (l:List (Int × Int × Int)):Prop:=l.length=nc∧∀ x ∈ l,x.1=x.2.1∧x.2.1=x.2.2∧0≤x.1∧x.1≤b
theorem yx {nc:Nat} {b b2:Int} {l:List (Int × Int × Int)} (h:Bal nc b l) (hb:b≤b2):Bal nc b2 l:=⟨h.1,fun x hx=>by obtain ⟨h1,h2,h3,h4⟩:=h.2 x hx; exact ⟨h1,h2,h3,by omega⟩⟩
theorem pV {n:Nat} {s:Qj} {amps:List Int} (hok:OkS s) (hfit:qL s) (hc:1≤s.Conductors.length) (h7:∀ c ∈ s.Chargers,c.Phases=7) (ha:∀ a ∈ amps,0≤a∧a≤80) (hal:amps.length=s.Chargers.length) (hn:9223372036854776000≤n) :
  Does (V8 n s amps) (fun r=>r.2=0∧Bal s.Conductors.length 20480 r.1):=by
 have hv:=uY (n:=n) hok hfit hc zo
 obtain ⟨f1,f2,f3,f4,f5⟩:=hfit
 unfold V8
 simp only [Qc,List.length_map]
 rw [hv,Z8,Bool.not_true,cond_false,hal,EA rfl,Bool.not_true,Z8,cond_false]
 have hj:Does (YA n s amps) (fun r=>r.2=0∧Bal s.Conductors.length 20480 r.1):=by
  unfold YA
  simp only [Qc,List.length_map]
  rw [show Sz (s.Conductors.length:Int) (s.Conductors.length:Int) 24=true from by unfold Sz; simp; omega,cond_true,Int.toNat_natCast]
  refine M8 (B:=fun rec (v:Int × List (Int × Int × Int))=>Wl n s amps rec v.1 v.2) (Q:=fun _ r=>r.2=0∧Bal s.Conductors.length 20480 r.1) (fun v=>s.Chargers.length - v.1.toNat) (fun v=>∃ i:Nat,v.1=(i:Int)∧i≤s.Chargers.length∧Bal s.Conductors.length (1280 * i) v.2) ?_ ⟨0,rfl,by omega,by simp,fun x hx=>by rw [(List.mem_replicate.1 hx).2]; simp⟩ (by simp only; omega)
  rintro rec ⟨q,l⟩ ⟨i,hi,hil,hb⟩ hrec
  simp only at hi hb hrec ⊢
  subst hi
  unfold Wl
  simp only [Qc,List.length_map,Int.toNat_natCast] at hrec ⊢
  by_cases c1:i < s.Chargers.length
  rotate_left
  ·rw [KW zo,cond_false]
   exact QH ⟨rfl,yx hb zo⟩
  rw [YN zo,cond_true,ZK,List.getElem?_eq_getElem c1,Z8]
  have hP:=h7 _ (List.getElem_mem c1)
  obtain ⟨⟨a1,a2⟩,_⟩:=hok.g _ (List.getElem_mem c1)
  have c2:i < amps.length:=by omega
  have hA:=ha _ (List.getElem_mem c2)
  refine M8 (B:=fun rec8 (v:Int × List (Int × Int × Int))=>Wj s amps (i:Int) rec s.Chargers[i] rec8 v.1 v.2) (Q:=fun _ r=>r.2=0∧Bal s.Conductors.length 20480 r.1) (fun v=>(v.1+1).toNat) (fun v=>-1≤v.1∧v.1 < s.Conductors.length∧Bal s.Conductors.length (1280 * i+80 * (15 - v.1)) v.2) ?_ ⟨by omega,a2,yx hb zo⟩ (by simp only; omega)
  rintro rec8 ⟨c,l⟩ ⟨b1,b2,hb⟩ hrec8
  simp only at b1 b2 hb hrec8 ⊢
  unfold Wj
  by_cases c3:0≤c
  rotate_left
  ·rw [Dx c3,cond_false,Xd zo zo]
   have:=hrec ((i:Int)+1,l) ⟨i+1,by simp,c1,yx hb zo⟩ (by simp only; omega)
   exact this
  obtain ⟨k,rfl⟩:∃ k:Nat,c=(k:Int):=⟨c.toNat,by omega⟩
  have hk:k < s.Conductors.length:=by omega
  have hkl:k < l.length:=by rw [hb.1]; exact hk
  obtain ⟨e1,e2,e3,e4⟩:=hb.2 _ (List.getElem_mem hkl)
  obtain ⟨⟨u1,u2⟩,_⟩:=hok.c k _ (List.getElem?_eq_getElem hk)
  rw [Wh c3,cond_true,ZK,List.getElem?_eq_getElem hkl,Z8,ZK,List.getElem?_eq_getElem c2,Z8,hP]
  rw [show (!Qs (Js .i64 7 (Wu .i64 1 0)) 0)=true from by kernel_rfl,show (!Qs (Js .i64 7 (Wu .i64 1 1)) 0)=true from by kernel_rfl,show (!Qs (Js .i64 7 (Wu .i64 1 2)) 0)=true from by kernel_rfl]
  rw [cond_true,cond_true,cond_true,Z8,ZK,List.getElem?_eq_getElem hk,Z8,Int.toNat_natCast,List.set_set,List.set_set,← e2,← e1,Xd zo zo]
  refine hrec8 (s.Conductors[k].Up,_) ⟨?_,?_,?_⟩ ?_
  ·by_cases hk0:k=0
   ·have:=u1 hk0; simp only; omega
   ·have:=u2 zo; simp only; omega
  ·by_cases hk0:k=0
   ·have:=u1 hk0; simp only; omega
   ·have:=u2 zo; simp only; omega
  ·simp only
   have hup:s.Conductors[k].Up≤(k:Int) - 1:=by
    by_cases hk0:k=0
    ·have:=u1 hk0; omega
    ·have:=u2 zo; omega
   refine ⟨by rw [List.length_set]; exact hb.1,fun x hx=>?_⟩
   rcases List.mem_or_eq_of_mem_set hx with hx | rfl
   ·obtain ⟨h1,h2,h3,h4⟩:=hb.2 x hx
    exact ⟨h1,h2,h3,by omega⟩
   ·exact ⟨rfl,rfl,by simp only; omega,by simp only; omega⟩
  ·by_cases hk0:k=0
   ·have:=u1 hk0; simp only; omega
   ·have:=u2 zo; simp only; omega
 have:=WM (B:=fun rec i=>VM n s amps rec i) (n:=n) (L:=amps.length) (fun _ r=>r.2=0∧Bal s.Conductors.length 20480 r.1) zo (fun rec i hi hr=>?_) 0 zo zo
 ·exact this
 unfold VM
 simp only [Qc,List.length_map]
 by_cases c1:i < amps.length
 rotate_left
 ·rw [KW zo,cond_false]; exact hj
 obtain ⟨w1,w2⟩:=hr c1
 have hA:=ha _ (List.getElem_mem c1)
 rw [YN zo,cond_true,ZK,List.getElem?_eq_getElem c1,Z8,w1,KW zo,cond_false,KW zo,Z8,cond_false]
 exact w2
theorem jU {n:Nat} {v:Int} (h:0≤v∧v≤1000) (hn:2000≤n):Vw n v v v=some (0,0):=by
 have hv:WL n [v,v,v]=some true:=by
  unfold WL
  refine step_loop (f:=fun i:Nat=>(i:Int)) (k:=3) (fun rec i hi=>?_) (fun rec=>?_) 0 zo zo
  ·unfold Ve
   have hg:Zc [v,v,v] (i:Int)=some v:=by
    rw [ZK]
    match i,hi with
    | 0,_=>rfl
    | 1,_=>rfl
    | 2,_=>rfl
   simp only [Qc,List.length_map,nY,List.length_nil]
   rw [YN zo,cond_true,hg,Z8,KW zo,cond_false,KW zo,Z8,cond_false,Xd zo zo]
   rfl
  ·unfold Ve
   rfl
 unfold Vw
 rw [hv,Z8,Bool.not_true,cond_false,show wi (v - v)=0 from by rw [Int.sub_self]; rfl]
 obtain ⟨m,rfl⟩:∃ m,n=m+20:=⟨n - 20,by omega⟩
 rfl
theorem Oq {n:Nat} {s:Qj} {amps:List Int} (hr:ZB (List.length ([]++s.Chargers)) 72=true) (hw:∀ w ∈ K8 s,w.length≤9223372036854775807) (hal:amps.length≤9223372036854775807) (hn:9223372036854776000≤n) (hh:ZV n=some true) :
  ZE n s amps=some true:=by
 have hlen:s.Chargers.length≤140737488355328:=by
  unfold ZB at hr
  rw [decide_eq_true_eq] at hr
  simpa using hr.2
 unfold ZE
 rw [hh,Z8,hr,cond_true]
 refine (congrArg (fun q=>Option.bind q _) (Qcq hlen hn)).trans ?_
 rw [Z8]
 generalize hs:(⟨s.Conductors,s.Owners,s.Contracts,s.Chargers.map p7,s.Bays⟩:Qj)=t
 have hnm:K8 t=K8 s:=by
  subst hs
  unfold K8
  simp only [List.map_map]
  rfl
 have h7:∀ c ∈ t.Chargers,c.Phases=7:=by
  subst hs
  intro c hc
  obtain ⟨x,_,rfl⟩:=List.mem_map.1 hc
  rfl
 have hco:t.Conductors=s.Conductors:=by subst hs; rfl
 rw [← hco]
 have hU:Does (Ke n t amps) (fun b=>b=true→(OkS t∧qL t∧1≤t.Conductors.length)∧(∀ a ∈ amps,0≤a∧a≤80)∧amps.length=t.Chargers.length):=by
  unfold Ke
  obtain ⟨b,e,hb⟩:=Qan (n:=n) (s:=t)
  rw [e,Z8]
  cases b
  ·exact QH (x:=false) nofun
  obtain ⟨b2,e2,hb2⟩:=gp (hb rfl) (by rw [hnm]; exact hw) hn
  rw [cond_true,e2,Z8]
  cases b2
  ·exact QH (x:=false) nofun
  rw [cond_true]
  obtain ⟨b3,e3,hb3⟩:=Qao (s:=t) hal hn
  rw [e3,Z8]
  exact QH fun h=>⟨hb2 rfl,hb3 h⟩
 obtain ⟨b,e,hU⟩:=hU
 rw [e,Z8]
 cases b
 ·rfl
 obtain ⟨⟨hok,hfit,hc⟩,ha,hal2⟩:=hU rfl
 rw [Bool.not_true,cond_false]
 obtain ⟨r,hr1,hr2,hb⟩:=pV hok hfit hc h7 ha hal2 hn
 rw [hr1,Z8]
 simp only [Qc,List.length_map]
 rw [hr2,EA rfl,Bool.not_true,cond_false,hb.1,EA rfl,Bool.not_true,Z8,cond_false]
 have hl16:r.1.length≤16:=by rw [hb.1]; exact hfit.1
 refine step_loop (f:=fun i:Nat=>(i:Int)) (k:=r.1.length) (fun rec i hi=>?_) (fun rec=>?_) 0 zo zo
 ·unfold ZJ
  simp only [Qc,List.length_map]
  obtain ⟨e1,e2,e3,e4⟩:=hb.2 _ (List.getElem_mem hi)
  rw [YN zo,cond_true,ZK,List.getElem?_eq_getElem hi,Z8,Xd zo zo]
  by_cases h1:1000 < r.1[i].1
  ·rw [YN h1,cond_true]; rfl
  rw [KW h1,cond_false,← e2,← e1,jU ⟨e3,by omega⟩ zo,Z8]
  simp only [EA,Bool.not_true,cond_false,Z8]
  rfl
 ·unfold ZJ
  simp only [Qc,List.length_map]
  rw [KW zo,cond_false]
theorem Eo {s:Qj} {amps:List Int} (hr:ZB (List.length ([]++s.Chargers)) 72=true) (hw:∀ w ∈ K8 s,w.length≤9223372036854775807) (hal:amps.length≤9223372036854775807):ZE 36893488147419103232 s amps=some true:=Oq hr hw hal zo pU
end Go.Proofs
namespace Go.Proofs.YtkhhdppjbakngaaGreat
open Go Go.Abs Go.Proofs
theorem jV {s:Qj} (h:Qj.wf s):∀ w ∈ K8 s,w.length≤9223372036854775807:=by
 intro w hw
 simp only [K8,List.mem_append,List.mem_map] at hw
 rcases hw with (((⟨x,hx,rfl⟩ | ⟨x,hx,rfl⟩) | ⟨x,hx,rfl⟩) | ⟨x,hx,rfl⟩) | ⟨x,hx,rfl⟩
 ·exact (h.Conductors.2 x hx).Name
 ·exact (h.Owners.2 x hx).Name
 ·exact (h.Contracts.2 x hx).Name
 ·exact (h.Chargers.2 x hx).Name
 ·exact (h.Bays.2 x hx).Name
theorem topBalanced_holds:Rows.TopBalancedSaid :=
 M7 (fun s amps hlen h1 h2=>⟨_,Eo (by rw [List.nil_append]; unfold ZB; exact qE zo) (jV h1) h2.1⟩)
end Go.Proofs.YtkhhdppjbakngaaGreat
