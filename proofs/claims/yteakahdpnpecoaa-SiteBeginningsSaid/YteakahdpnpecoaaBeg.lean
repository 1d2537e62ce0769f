/-
  A part of the proof of a statement of the seat Yteakahdpnpecoaa.
-/
import Derived.Test.YteakahdpnpecoaaBeg05
set_option linter.unusedVariables false
namespace Go.Proofs
open Go Go.Abs
set_option maxRecDepth 100000
theorem s_whole {n:Nat} {y:GN} {s:GSite} {f:Bool} {dd:List GDg} {h7 h10:HasM} {th:ThM} {c:GConductor} {k:GContract} {g:GCharger} {b:GBay} (hn:2000≤n) :
  g_site_reading_whole n y c k g b s f dd h7 th h10=some (whF y c g h10):=by
 have R:∀ (ks:List Int) (o:Bool),ks.length≤5→g_site_rule_of n ks o y.N=some (ks.contains y.N):=fun ks o h=>r_rule zo hn
 unfold g_site_reading_whole
 have hj:g_site_reading_whole_j1 n y c g h10=some (if lateB y.N c g h10 then .error (3,y.At) else .ok ()):=by
  unfold g_site_reading_whole_j1 g_site_goodCable lateB hasN
  rw [s_amps]
  cases mgetD me_msb [116,104,101,114,109,97,108] false h10 <;> cases ltI c.Cable.Ambient c.Cable.Most <;> cases eqI y.N 5 <;> cases ampsB g <;> rfl
 rw [hj]
 simp only [R [1,2] false zq,R [1,2] true zq,R [2] false zq,R [4,5] false zq,R [4] false zq,R [5] false zq,R [6] false zq,obs,cb1,cb2]
 refine (mrun_any (bs:=[([1,2]:List Int).contains y.N&&!hasN h10 [108,105,109,105,116],([1,2]:List Int).contains y.N&&!hasN h10 [110,101,117,116,114,97,108],false,false,([2]:List Int).contains y.N&&!hasN h10 [102,114,111,109],([4,5]:List Int).contains y.N&&!hasN h10 [111,119,110,101,114],([4]:List Int).contains y.N&&!hasN h10 [114,97,110,107],([4]:List Int).contains y.N&&!hasN h10 [99,97,114,100],([5]:List Int).contains y.N&&!hasN h10 [97,116],([5]:List Int).contains y.N&&!hasN h10 [112,104,97,115,101,115],([5]:List Int).contains y.N&&!hasN h10 [97,109,112,115],([5]:List Int).contains y.N&&!hasN h10 [102,97,108,108,98,97,99,107],([6]:List Int).contains y.N&&!hasN h10 [99,104,97,114,103,101,114]])).trans ?_
 unfold whF missB needT
 simp only [List.any_cons,List.any_nil,id,Bool.or_false,Bool.false_or]
structure BS where
 cs:List GConductor
 os:List GOwner
 ks:List GContract
 gs:List GCharger
 bs:List GBay
 fd:Bool
 dg:List GDg
 nm:HasM
 th:ThM
def BS.t (s:BS):List GConductor × List GOwner × List GContract × List GCharger × List GBay × Bool × List GDg × HasM × ThM:=(s.cs,s.os,s.ks,s.gs,s.bs,s.fd,s.dg,s.nm,s.th)
def BS.u (s:BS):List GConductor × List GOwner × List GContract × List GCharger × List GBay × Bool × List GDg × ThM:=(s.cs,s.os,s.ks,s.gs,s.bs,s.fd,s.dg,s.th)
def BS.err (s:BS) (e:Int × Int):BS:={ s with dg:=s.dg++[⟨e.1,e.2⟩] }
def BS.site (s:BS):GSite:=⟨s.cs,s.os,s.ks,s.gs,s.bs⟩
def zeroQ:SQ:=(⟨[],0,0,0,⟨0,0⟩,⟨0,0,0,0,0⟩⟩,⟨[],0,0,0⟩,⟨[],0,0,0,0,0,0,0⟩,⟨[],0⟩)
def twB (y:GN) (s:BS):Bool:=hasN s.nm y.Name||(eqI y.N 1&&s.fd)
def roomN (k:Int) (s:BS):Int:=cond (eqI k 1||eqI k 2) (s.cs.length:Int) (cond (eqI k 3) (s.os.length:Int) (cond (eqI k 4) (s.ks.length:Int) (cond (eqI k 5) (s.gs.length:Int) (s.bs.length:Int))))
def roomM (k:Int):Int:=cond (eqI k 1||eqI k 2) 16 (cond (eqI k 3) 8 (cond (eqI k 4) 32 (cond (eqI k 5) 16 24)))
def readF (y:GN) (s:BS):Except (Int × Int) SQ:=eb (attF y.N s.ks s.th (kidsL y.Kids) zeroQ []) fun v=>eb (whF y v.1.1 v.1.2.2.1 v.2) fun _=>.ok v.1
def declF (y:GN) (q:SQ) (s:BS):BS :=
 let t:=mset me_map_string_site_thing y.Name (⟨y.N,roomN y.N s⟩:GSiteThing) s.th
 if y.N=1 then { s with cs:=s.cs++[⟨y.Name,-1,q.1.Limit,q.1.Neutral,q.1.Fuse,q.1.Cable⟩],th:=t }
 else if y.N=2 then { s with cs:=s.cs++[⟨y.Name,q.1.Up,q.1.Limit,q.1.Neutral,q.1.Fuse,q.1.Cable⟩],th:=t }
 else if y.N=3 then { s with os:=s.os++[⟨y.Name⟩],th:=t }
 else if y.N=4 then { s with ks:=s.ks++[⟨y.Name,q.2.1.Owner,q.2.1.Rank,q.2.1.Card⟩],th:=t }
 else if y.N=5 then { s with gs:=s.gs++[⟨y.Name,q.2.2.1.At,q.2.2.1.Phases,q.2.2.1.Min,q.2.2.1.Max,q.2.2.1.Step,q.2.2.1.Fallback,q.2.2.1.Owner⟩],th:=t }
 else if y.N=6 then { s with bs:=s.bs++[⟨y.Name,q.2.2.2.Charger⟩],th:=t }
 else { s with th:=t }
def markF (y:GN) (s:BS):BS:={ s with fd:=s.fd||eqI y.N 1,nm:=mset me_msb y.Name true s.nm }
def stepF (y:GN) (s:BS):BS :=
 if twB y s then (markF y s).err (5,y.At)
 else if y.N=7 then markF y s
 else if roomM y.N≤roomN y.N s then (markF y s).err (2,y.At)
 else match readF y s with
  | .error e=>(markF y s).err e
  | .ok q=>declF y q (markF y s)
def runF:List GN→BS→BS
 | [],s=>s
 | y :: l,s=>if (stepF y s).dg.length=20 then stepF y s else runF l (stepF y s)
def BS.fit (s:BS):Prop:=s.cs.length≤16∧s.os.length≤8∧s.ks.length≤32∧s.gs.length≤16∧s.bs.length≤24
def bs0:BS:=⟨[],[],[],[],[],false,[],[],[]⟩
theorem step_fit {y:GN} {s:BS} (h:s.fit):(stepF y s).fit∧(stepF y s).dg.length≤s.dg.length+1∧∃ e,(stepF y s).dg=s.dg++e:=by
 obtain ⟨h1,h2,h3,h4,h5⟩:=h
 have herr:∀ e,((markF y s).err e).fit∧((markF y s).err e).dg.length≤s.dg.length+1∧∃ d,((markF y s).err e).dg=s.dg++d:=fun e=>⟨⟨h1,h2,h3,h4,h5⟩,by simp [BS.err,markF],_,rfl⟩
 have hm:(markF y s).fit∧(markF y s).dg.length≤s.dg.length+1∧∃ d,(markF y s).dg=s.dg++d:=⟨⟨h1,h2,h3,h4,h5⟩,by simp [markF],[],by simp [markF]⟩
 unfold stepF
 split
 ·exact herr _
 split
 ·exact hm
 split
 ·exact herr _
 rename_i hr
 split
 ·exact herr _
 rename_i q _
 obtain ⟨_,hd,d,hd2⟩:=hm
 unfold roomM roomN at hr
 unfold declF
 by_cases c1:y.N=1
 ·rw [if_pos c1]
  rw [c1] at hr
  have:(s.cs.length:Int) < 16:=by simpa [eqI] using hr
  exact ⟨⟨by simp [markF]; omega,h2,h3,h4,h5⟩,hd,d,hd2⟩
 rw [if_neg c1]
 by_cases c2:y.N=2
 ·rw [if_pos c2]
  rw [c2] at hr
  have:(s.cs.length:Int) < 16:=by simpa [eqI] using hr
  exact ⟨⟨by simp [markF]; omega,h2,h3,h4,h5⟩,hd,d,hd2⟩
 rw [if_neg c2]
 by_cases c3:y.N=3
 ·rw [if_pos c3]
  rw [c3] at hr
  have:(s.os.length:Int) < 8:=by simpa [eqI] using hr
  exact ⟨⟨h1,by simp [markF]; omega,h3,h4,h5⟩,hd,d,hd2⟩
 rw [if_neg c3]
 by_cases c4:y.N=4
 ·rw [if_pos c4]
  rw [c4] at hr
  have:(s.ks.length:Int) < 32:=by simpa [eqI] using hr
  exact ⟨⟨h1,h2,by simp [markF]; omega,h4,h5⟩,hd,d,hd2⟩
 rw [if_neg c4]
 by_cases c5:y.N=5
 ·rw [if_pos c5]
  rw [c5] at hr
  have:(s.gs.length:Int) < 16:=by simpa [eqI] using hr
  exact ⟨⟨h1,h2,h3,by simp [markF]; omega,h5⟩,hd,d,hd2⟩
 rw [if_neg c5]
 by_cases c6:y.N=6
 ·rw [if_pos c6]
  rw [c6] at hr
  have:(s.bs.length:Int) < 24:=by simpa [eqI] using hr
  exact ⟨⟨h1,h2,h3,h4,by simp [markF]; omega⟩,hd,d,hd2⟩
 rw [if_neg c6]
 exact ⟨⟨h1,h2,h3,h4,h5⟩,hd,d,hd2⟩
theorem rm1 {α:Type} {l:List α} {k:Nat} (hl:l.length≤100) (hk:k≤1000):roomB l.length k=true:=by
 unfold roomB
 rw [decide_eq_true_eq]
 refine ⟨Nat.le_trans (Nat.mul_le_mul hl hk) zo,by omega⟩
theorem cod {b c:Bool}:(bif b then true else c)=(b||c):=by cases b <;> rfl
theorem cad {b c:Bool}:(bif b then c else false)=(b&&c):=by cases b <;> rfl
theorem decl_nm {y:GN} {q:SQ} {s:BS}:(declF y q s).nm=s.nm:=by
 unfold declF
 by_cases c1:y.N=1
 ·rw [if_pos c1]
 rw [if_neg c1]
 by_cases c2:y.N=2
 ·rw [if_pos c2]
 rw [if_neg c2]
 by_cases c3:y.N=3
 ·rw [if_pos c3]
 rw [if_neg c3]
 by_cases c4:y.N=4
 ·rw [if_pos c4]
 rw [if_neg c4]
 by_cases c5:y.N=5
 ·rw [if_pos c5]
 rw [if_neg c5]
 by_cases c6:y.N=6
 ·rw [if_pos c6]
 rw [if_neg c6]
theorem step_nm {y:GN} {s:BS}:(stepF y s).nm=mset me_msb y.Name true s.nm:=by
 unfold stepF
 split
 ·rfl
 split
 ·rfl
 split
 ·rfl
 split
 ·rfl
 ·rw [decl_nm]; rfl
theorem s_Build {n d:Nat} {x:GN} (ht:treeD d x) (hn:9223372036854776000≤n) (hs:1+(x.Kids.length:Int)+swL (kidsL x.Kids)≤1500) :
  g_site_Build n x=some (if validB x then (if (runF (kidsL x.Kids) bs0).dg=[] then (if (runF (kidsL x.Kids) bs0).fd then ((runF (kidsL x.Kids) bs0).site,[]) else (⟨[],[],[],[],[]⟩,[⟨4,0⟩])) else (⟨[],[],[],[],[]⟩,(runF (kidsL x.Kids) bs0).dg)) else (⟨[],[],[],[],[]⟩,[⟨1,0⟩])):=by
 unfold g_site_Build
 rw [p_valid ht hn hs,obs]
 cases hv:validB x
 ·rfl
 obtain ⟨e,rfl,hl,_,hk⟩:=tree_kids ht
 simp only [Bool.not_true,cond_false,if_true]
 have hloop:Does (loopN (fun recl3 (v:Int × List GConductor × List GOwner × List GContract × List GCharger × List GBay × Bool × List GDg × HasM × ThM)=>g_site_Build_l3 n x recl3 v.1 v.2.1 v.2.2.1 v.2.2.2.1 v.2.2.2.2.1 v.2.2.2.2.2.1 v.2.2.2.2.2.2.1 v.2.2.2.2.2.2.2.1 v.2.2.2.2.2.2.2.2.1 v.2.2.2.2.2.2.2.2.2) n (0,[],[],[],[],[],false,[],[],[])) (fun r=>r=(runF (kidsL x.Kids) bs0).t):=by
  have:=does_loop (n:=n) (B:=fun recl3 (v:Int × List GConductor × List GOwner × List GContract × List GCharger × List GBay × Bool × List GDg × HasM × ThM)=>g_site_Build_l3 n x recl3 v.1 v.2.1 v.2.2.1 v.2.2.2.1 v.2.2.2.2.1 v.2.2.2.2.2.1 v.2.2.2.2.2.2.1 v.2.2.2.2.2.2.2.1 v.2.2.2.2.2.2.2.2.1 v.2.2.2.2.2.2.2.2.2) (v:=(0,[],[],[],[],[],false,[],[],[]))
   (Q:=fun v r=>∀ s:BS,v.2=s.t→r=(runF (kidsL (x.Kids.drop v.1.toNat)) s).t) (fun v=>x.Kids.length - v.1.toNat) (fun v=>(∃ i:Nat,v.1=(i:Int)∧i≤x.Kids.length)∧∃ s:BS,v.2=s.t∧s.fit∧s.dg.length < 20) ?_ ⟨⟨0,rfl,by omega⟩,bs0,rfl,by simp [BS.fit,bs0],by simp [bs0]⟩ (by simp only; omega)
  ·obtain ⟨r,e1,h⟩:=this
   exact ⟨r,e1,h bs0 rfl⟩
  rintro rec ⟨q,v⟩ ⟨⟨i,hi,hil⟩,s,hs,hfit,hdg⟩ hrec
  simp only at hi hs hrec ⊢
  subst hi hs
  obtain ⟨cs,os,ks,gs,bs,fd,dg,nm,th⟩:=s
  have hst:∀ s:BS,BS.t ⟨cs,os,ks,gs,bs,fd,dg,nm,th⟩=s.t→(⟨cs,os,ks,gs,bs,fd,dg,nm,th⟩:BS)=s:=by
   intro s h
   obtain ⟨_,_,_,_,_,_,_,_,_⟩:=s
   simp only [BS.t,Prod.mk.injEq] at h
   obtain ⟨rfl,rfl,rfl,rfl,rfl,rfl,rfl,rfl,rfl⟩:=h
   rfl
  unfold g_site_Build_l3
  simp only [lenI,List.length_map,ltI,Int.toNat_natCast,BS.t] at hrec ⊢
  by_cases c1:i < x.Kids.length
  rotate_left
  ·rw [dzF zo,cond_false,kidL_end _ zo]
   refine does_some fun s hs=>?_
   rw [← hst s hs]; rfl
  obtain ⟨y,hy,hty,hc⟩:=kidL_at hk c1
  rw [dzT zo,cond_true,hy,obs,hc]
  obtain ⟨f1,f2,_⟩:=step_fit (y:=y) hfit
  refine does_bind (Q:=fun v=>v=(stepF y ⟨cs,os,ks,gs,bs,fd,dg,nm,th⟩).u) ?_ ?_
  ·obtain ⟨g1,g2,g3,g4,g5⟩:=hfit
   simp only at g1 g2 g3 g4 g5 hdg
   have hd:∀ e:GDg,roomB (List.length (dg++[e])) 16=true:=fun e=>rm1 (by simp; omega) zo
   simp only [cond_some,obs,cod,cad,hd,cond_true]
   unfold stepF
   rw [show (mgetD me_msb y.Name false nm||(eqI y.N 1&&fd))=twB y ⟨cs,os,ks,gs,bs,fd,dg,nm,th⟩ from rfl]
   cases twB y ⟨cs,os,ks,gs,bs,fd,dg,nm,th⟩
   rotate_left
   ·rw [cond_true,if_pos rfl]; exact does_some rfl
   rw [cond_false,if_neg zq,eqI_d (y:=7)]
   by_cases c7:y.N=7
   ·rw [dzT c7,if_pos c7,cond_true]; exact does_some rfl
   rw [dzF c7,if_neg c7,cond_false]
   have hp:(bif (eqI y.N 1||eqI y.N 2) then ((cs.length:Int),(16:Int)) else bif eqI y.N 3 then ((os.length:Int),8) else bif eqI y.N 4 then ((ks.length:Int),32) else bif eqI y.N 5 then ((gs.length:Int),16) else ((bs.length:Int),24))=(roomN y.N ⟨cs,os,ks,gs,bs,fd,dg,nm,th⟩,roomM y.N):=by
    unfold roomN roomM
    cases (eqI y.N 1||eqI y.N 2)
    ·cases eqI y.N 3
     ·cases eqI y.N 4
      ·cases eqI y.N 5 <;> rfl
      ·rfl
     ·rfl
    ·rfl
   have hx:(bif (eqI y.N 1||eqI y.N 2) then (cs.length:Int) else bif eqI y.N 3 then (os.length:Int) else bif eqI y.N 4 then (ks.length:Int) else bif eqI y.N 5 then (gs.length:Int) else (bs.length:Int))=roomN y.N ⟨cs,os,ks,gs,bs,fd,dg,nm,th⟩:=rfl
   have k1:∀ e:GConductor,roomB (List.length (cs++[e])) 96=true:=fun e=>rm1 (by simp; omega) zo
   have k2:∀ e:GOwner,roomB (List.length (os++[e])) 16=true:=fun e=>rm1 (by simp; omega) zo
   have k3:∀ e:GContract,roomB (List.length (ks++[e])) 40=true:=fun e=>rm1 (by simp; omega) zo
   have k4:∀ e:GCharger,roomB (List.length (gs++[e])) 72=true:=fun e=>rm1 (by simp; omega) zo
   have k5:∀ e:GBay,roomB (List.length (bs++[e])) 24=true:=fun e=>rm1 (by simp; omega) zo
   simp only [cse',hp,hx,leI,k1,k2,k3,k4,k5,cond_true]
   by_cases c8:roomM y.N≤roomN y.N ⟨cs,os,ks,gs,bs,fd,dg,nm,th⟩
   ·rw [dzT c8,if_pos c8]; exact does_some rfl
   rw [dzF c8,if_neg c8,cond_false]
   obtain ⟨r,e1,h⟩:=s_attrs (n:=n) (y:=y) (s:=⟨cs,os,ks,gs,bs⟩) (f:=(fd||eqI y.N 1)) (dd:=dg) (h7:=mset me_msb y.Name true nm) (h10:=[]) (th:=th) (c:=⟨[],0,0,0,⟨0,0⟩,⟨0,0,0,0,0⟩⟩) (k:=⟨[],0,0,0⟩) (g:=⟨[],0,0,0,0,0,0,0⟩) (b:=⟨[],0⟩) hty (by simp only; omega) hn
   rw [e1,obs]
   change pj r=aqF (attF y.N ks th (kidsL y.Kids) zeroQ []) at h
   have hR:readF y ⟨cs,os,ks,gs,bs,fd,dg,nm,th⟩=eb (attF y.N ks th (kidsL y.Kids) zeroQ []) fun v=>eb (whF y v.1.1 v.1.2.2.1 v.2) fun _=>.ok v.1:=rfl
   rw [hR]
   generalize attF y.N ks th (kidsL y.Kids) zeroQ []=z at h
   cases r with
   | error e =>
    cases z with
    | ok v=>cases h
    | error z =>
     have h:e.1=z:=by simpa [pj,aqF,eb] using h
     subst h
     simp only [exc,eb]
     exact does_some rfl
   | ok w =>
    cases z with
    | error z=>cases h
    | ok v =>
     have h:w=(v.1.1,v.1.2.1,v.1.2.2.1,v.1.2.2.2,v.2):=by simpa [pj,aqF,eb] using h
     subst h
     simp only [exc,eb]
     rw [s_whole zo,obs]
     cases hw:whF y v.1.1 v.1.2.2.1 v.2 with
     | error e =>
      simp only [exc]
      exact does_some rfl
     | ok _ =>
      simp only [exc,eqI_d]
      unfold declF
      by_cases c1:y.N=1
      ·rw [dzT c1,if_pos c1]; exact does_some (by simp only [BS.u,markF,eqI_d,dzT c1]; rfl)
      rw [dzF c1,if_neg c1]
      by_cases c2:y.N=2
      ·rw [dzT c2,if_pos c2]; exact does_some (by simp only [BS.u,markF,eqI_d,dzF c1]; rfl)
      rw [dzF c2,if_neg c2]
      by_cases c3:y.N=3
      ·rw [dzT c3,if_pos c3]; exact does_some (by simp only [BS.u,markF,eqI_d,dzF c1]; rfl)
      rw [dzF c3,if_neg c3]
      by_cases c4:y.N=4
      ·rw [dzT c4,if_pos c4]; exact does_some (by simp only [BS.u,markF,eqI_d,dzF c1]; rfl)
      rw [dzF c4,if_neg c4]
      by_cases c5:y.N=5
      ·rw [dzT c5,if_pos c5]; exact does_some (by simp only [BS.u,markF,eqI_d,dzF c1]; rfl)
      rw [dzF c5,if_neg c5]
      by_cases c6:y.N=6
      ·rw [dzT c6,if_pos c6]; exact does_some (by simp only [BS.u,markF,eqI_d,dzF c1]; rfl)
      rw [dzF c6,if_neg c6]
      exact does_some (by simp only [BS.u,markF,eqI_d,dzF c1]; rfl)
  rintro ⟨u1,u2,u3,u4,u5,u6,u7,u8⟩ hu
  have hnm:=step_nm (y:=y) (s:=⟨cs,os,ks,gs,bs,fd,dg,nm,th⟩)
  refine does_mono (Q:=fun r=>r=(runF (y :: kidsL (x.Kids.drop (i+1))) ⟨cs,os,ks,gs,bs,fd,dg,nm,th⟩).t) ?_ (fun r hr s hs=>by rw [hr,hst s hs]; rfl)
  unfold runF
  generalize stepF y ⟨cs,os,ks,gs,bs,fd,dg,nm,th⟩=z at *
  obtain ⟨z1,z2,z3,z4,z5,z6,z7,z8,z9⟩:=z
  simp only [BS.u,Prod.mk.injEq] at hu
  obtain ⟨rfl,rfl,rfl,rfl,rfl,rfl,rfl,rfl⟩:=hu
  simp only at hnm f2 hdg ⊢
  subst hnm
  rw [eqI_d]
  by_cases c9:u7.length=20
  ·rw [dzT zo,if_pos c9]; exact does_some rfl
  ·rw [dzF zo,if_neg c9,cond_false,wi_id (x:=(i:Int)+1) zo zo]
   refine does_mono (hrec ((i:Int)+1,u1,u2,u3,u4,u5,u6,u7,_,u8) ⟨⟨i+1,by simp,c1⟩,⟨u1,u2,u3,u4,u5,u6,u7,_,u8⟩,rfl,f1,by simp only; omega⟩ (by simp only; omega)) ?_
   intro r hr
   have:=hr ⟨u1,u2,u3,u4,u5,u6,u7,_,u8⟩ rfl
   rw [show ((i:Int)+1).toNat=i+1 by omega] at this
   exact this
 obtain ⟨r,e1,h⟩:=hloop
 rw [h] at e1
 rw [e1,obs]
 generalize runF (kidsL x.Kids) bs0=z
 obtain ⟨z1,z2,z3,z4,z5,z6,z7,z8,z9⟩:=z
 show (cond (ltI 0 (lenI (List.map GDg.cs z7))) (some ((⟨[],[],[],[],[]⟩:GSite),z7)) (cond (!z6) (some ((⟨[],[],[],[],[]⟩:GSite),[(⟨4,0⟩:GDg)])) (some ((⟨z1,z2,z3,z4,z5⟩:GSite),[]))))=_
 simp only [BS.site]
 cases z7 with
 | nil=>cases z6 <;> rfl
 | cons a l =>
  rw [if_neg zq]
  simp only [lenI,ltI,List.length_map,zLC]
  rw [dzT zo]
  rfl
theorem head04:g_law04_head 36893488147419103232=some true:=by kernel_rfl
theorem few4 {n d:Nat} {x:GN} (ht:treeD d x) (hn:9223372036854776000≤n):Does (g_ref02_Few n x 400) (fun b=>b=true→1+(x.Kids.length:Int)+swL (kidsL x.Kids)≤400):=by
 obtain ⟨c,e,c1,c2,c3⟩:=count_sz 400 n d x 400 ht zo zo zo zo
 unfold g_ref02_Few
 rw [e,obs,leI]
 by_cases h:c≤400
 rotate_left
 ·rw [dzF h]; exact does_some fun h=>by cases h
 rw [dzT h,cond_true]
 refine does_bind (names_tot 50 n d x 50 ht zo zo zo zo) fun r _=>does_some fun _=>?_
 have:=c3 h 3
 rw [sz3 ht] at this
 omega
theorem sum_sub {f:GN→Int} (hf:∀ y,0≤f y) {l l':List GN} (h:l'.Sublist l):(l'.map f).sum≤(l.map f).sum:=by
 induction h with
 | slnil=>exact Int.le_refl _
 | cons a _ ih=>have:=hf a; simp only [List.map_cons,List.sum_cons]; omega
 | cons_cons a _ ih=>simp only [List.map_cons,List.sum_cons]; omega
theorem sw_sub {l l':List GN} (h:l'.Sublist l):swL l'≤swL l:=sum_sub (fun y=>by have:=pw_nonneg (kidsL y.Kids); omega) h
theorem tree_with {d:Nat} {x:GN} {l:List (List PV)} (h:treeD (d+1) x) (hl:l.length≤x.Kids.length) (hk:kidsD d l):treeD (d+1) (⟨x.Kind,x.Name,x.N,x.At,l⟩:GN) :=
 ⟨h.1,h.2.1,h.2.2.1,h.2.2.2.1,Nat.le_trans hl h.2.2.2.2.1,hk⟩
theorem valid_sub {x:GN} {l:List (List PV)} (h:validB x=true) (hs:(kidsL l).Sublist (kidsL x.Kids)):validB (⟨x.Kind,x.Name,x.N,x.At,l⟩:GN)=true:=by
 unfold validB at h ⊢
 simp only [bae,List.all_eq_true] at h ⊢
 exact ⟨h.1,h.2.1,h.2.2.1,fun y hy=>h.2.2.2 y (hs.mem hy)⟩
theorem decl_all {y:GN} {q:SQ} {s:BS}:(declF y q s).nm=s.nm∧(declF y q s).fd=s.fd∧(declF y q s).dg=s.dg∧(∃ a,(declF y q s).cs=s.cs++a)∧(∃ a,(declF y q s).os=s.os++a)∧(∃ a,(declF y q s).ks=s.ks++a)∧(∃ a,(declF y q s).gs=s.gs++a)∧(∃ a,(declF y q s).bs=s.bs++a):=by
 have z:∀ {α:Type} (l:List α),∃ a,l=l++a:=fun l=>⟨[],by simp⟩
 unfold declF
 by_cases c1:y.N=1
 ·rw [if_pos c1]; exact ⟨rfl,rfl,rfl,⟨_,rfl⟩,z _,z _,z _,z _⟩
 rw [if_neg c1]
 by_cases c2:y.N=2
 ·rw [if_pos c2]; exact ⟨rfl,rfl,rfl,⟨_,rfl⟩,z _,z _,z _,z _⟩
 rw [if_neg c2]
 by_cases c3:y.N=3
 ·rw [if_pos c3]; exact ⟨rfl,rfl,rfl,z _,⟨_,rfl⟩,z _,z _,z _⟩
 rw [if_neg c3]
 by_cases c4:y.N=4
 ·rw [if_pos c4]; exact ⟨rfl,rfl,rfl,z _,z _,⟨_,rfl⟩,z _,z _⟩
 rw [if_neg c4]
 by_cases c5:y.N=5
 ·rw [if_pos c5]; exact ⟨rfl,rfl,rfl,z _,z _,z _,⟨_,rfl⟩,z _⟩
 rw [if_neg c5]
 by_cases c6:y.N=6
 ·rw [if_pos c6]; exact ⟨rfl,rfl,rfl,z _,z _,z _,z _,⟨_,rfl⟩⟩
 rw [if_neg c6]
 exact ⟨rfl,rfl,rfl,z _,z _,z _,z _,z _⟩
def Grow (s t:BS):Prop:=(∃ a,t.dg=s.dg++a)∧(∃ a,t.cs=s.cs++a)∧(∃ a,t.os=s.os++a)∧(∃ a,t.ks=s.ks++a)∧(∃ a,t.gs=s.gs++a)∧(∃ a,t.bs=s.bs++a)
theorem app_t {α:Type} {l m r:List α} (h1:∃ a,m=l++a) (h2:∃ a,r=m++a):∃ a,r=l++a:=by
 obtain ⟨a,rfl⟩:=h1
 obtain ⟨b,rfl⟩:=h2
 exact ⟨a++b,by simp⟩
theorem grow_t {s t u:BS} (h1:Grow s t) (h2:Grow t u):Grow s u :=
 ⟨app_t h1.1 h2.1,app_t h1.2.1 h2.2.1,app_t h1.2.2.1 h2.2.2.1,app_t h1.2.2.2.1 h2.2.2.2.1,app_t h1.2.2.2.2.1 h2.2.2.2.2.1,app_t h1.2.2.2.2.2 h2.2.2.2.2.2⟩
theorem grow_r (s:BS):Grow s s:=⟨⟨[],by simp⟩,⟨[],by simp⟩,⟨[],by simp⟩,⟨[],by simp⟩,⟨[],by simp⟩,⟨[],by simp⟩⟩
theorem step_grow {y:GN} {s:BS}:Grow s (stepF y s)∧(stepF y s).fd=(s.fd||eqI y.N 1):=by
 have hm:Grow s (markF y s):=grow_r s
 have he:∀ e,Grow s ((markF y s).err e):=fun e=>⟨⟨_,rfl⟩,hm.2⟩
 unfold stepF
 split
 ·exact ⟨he _,rfl⟩
 split
 ·exact ⟨hm,rfl⟩
 split
 ·exact ⟨he _,rfl⟩
 split
 ·exact ⟨he _,rfl⟩
 ·rename_i q _
  obtain ⟨_,d1,d2,d3⟩:=decl_all (y:=y) (q:=q) (s:=markF y s)
  exact ⟨grow_t hm ⟨⟨[],by rw [d2]; simp⟩,d3⟩,d1⟩
theorem run_grow:∀ {l:List GN} {s:BS},Grow s (runF l s)
 | [],s=>grow_r s
 | y :: l,s=>by
  unfold runF
  split
  ·exact step_grow.1
  ·exact grow_t step_grow.1 run_grow
theorem nil_of {s t:BS} (h:Grow s t) (ht:t.dg=[]):s.dg=[]:=by
 obtain ⟨a,e⟩:=h.1
 rw [ht] at e
 exact (List.append_eq_nil_iff.1 e.symm).1
theorem good_cons {y:GN} {l:List GN} {s:BS} (h:(runF (y :: l) s).dg=[]):(stepF y s).dg=[]∧runF (y :: l) s=runF l (stepF y s):=by
 have e:runF (y :: l) s=if (stepF y s).dg.length=20 then stepF y s else runF l (stepF y s):=rfl
 rw [e] at h ⊢
 split at h
 ·rename_i h1; rw [h] at h1; cases h1
 ·rename_i h1
  rw [if_neg h1]
  exact ⟨nil_of run_grow h,rfl⟩
theorem good_mk {y:GN} {l:List GN} {s:BS} (h:(stepF y s).dg=[]):runF (y :: l) s=runF l (stepF y s):=by
 show (if (stepF y s).dg.length=20 then stepF y s else runF l (stepF y s))=_
 rw [if_neg (by rw [h]; simp)]
theorem run_fit:∀ {l:List GN} {s:BS},s.fit→(runF l s).fit
 | [],s,h=>h
 | y :: l,s,h=>by
  unfold runF
  split
  ·exact (step_fit h).1
  ·exact run_fit (step_fit h).1
theorem run_fd:∀ {l:List GN} {s:BS},(runF l s).dg=[]→(runF l s).fd=(s.fd||l.any fun y=>eqI y.N 1)
 | [],s,_=>by simp [runF]
 | y :: l,s,h=>by
  obtain ⟨_,h2⟩:=good_cons h
  rw [h2] at h ⊢
  rw [run_fd h,step_grow.2,List.any_cons,Bool.or_assoc]
theorem run_app:∀ {l m:List GN} {s:BS},(runF (l++m) s).dg=[]→(runF l s).dg=[]∧runF (l++m) s=runF m (runF l s)
 | [],m,s,h=>⟨nil_of run_grow h,rfl⟩
 | y :: l,m,s,h=>by
  rw [List.cons_append] at h ⊢
  obtain ⟨h1,h2⟩:=good_cons h
  rw [h2] at h ⊢
  rw [good_mk h1]
  exact run_app h
theorem fit0:bs0.fit:=by simp [BS.fit,bs0]
theorem build_good {n d:Nat} {x:GN} {r:GSite × List GDg} (ht:treeD d x) (hn:9223372036854776000≤n) (hs:1+(x.Kids.length:Int)+swL (kidsL x.Kids)≤400) (hr:g_site_Build n x=some r) (hd:r.2=[]) :
  validB x=true∧(runF (kidsL x.Kids) bs0).dg=[]∧(runF (kidsL x.Kids) bs0).fd=true∧r.1=(runF (kidsL x.Kids) bs0).site:=by
 rw [s_Build ht hn zo] at hr
 simp only [sie] at hr
 subst hr
 split at hd
 rotate_left
 ·cases hd
 rename_i h1
 rw [if_pos h1]
 split at hd
 rotate_left
 ·rename_i h2; exact absurd hd h2
 rename_i h2
 rw [if_pos h2]
 split at hd
 rotate_left
 ·cases hd
 rename_i h3
 rw [if_pos h3]
 exact ⟨h1,h2,h3,rfl⟩
theorem build_mk {n d:Nat} {x:GN} (ht:treeD d x) (hn:9223372036854776000≤n) (hs:1+(x.Kids.length:Int)+swL (kidsL x.Kids)≤400) (hv:validB x=true) (hd:(runF (kidsL x.Kids) bs0).dg=[]) :
  g_site_Build n x=some (if (runF (kidsL x.Kids) bs0).fd then ((runF (kidsL x.Kids) bs0).site,[]) else (⟨[],[],[],[],[]⟩,[⟨4,0⟩])):=by
 rw [s_Build ht hn zo,if_pos hv,if_pos hd]
theorem same_bs {n:Nat} {a:GSite} (h1:a.Conductors.length≤1000) (h2:a.Owners.length≤1000) (h3:a.Contracts.length≤1000) (h4:a.Chargers.length≤1000) (h5:a.Bays.length≤1000) (hn:2000≤n):g_ref04_Same_j9 n a a=some true:=by
 unfold g_ref04_Same_j9
 have:=does_idx (B:=fun rec i=>g_ref04_Same_l10 a a rec i) (n:=n) (L:=a.Bays.length) (fun i r=>r=true) zo (fun rec i hi hr=>?_) 0 zo zo
 ·obtain ⟨r,e,rfl⟩:=this
  exact e
 unfold g_ref04_Same_l10
 simp only [lenI,List.length_map,ltI]
 by_cases c1:i < a.Bays.length
 rotate_left
 ·rw [dzF zo,cond_false]; exact does_eq rfl rfl
 obtain ⟨w1,w2⟩:=hr c1
 rw [dzT zo,cond_true,getI_nat,List.getElem?_eq_getElem c1]
 simp only [obs,w1,opq,eqS,eqI,beq_self_eq_true,Bool.and_self,Bool.not_true,cond_false]
 exact w2
theorem same_gs {n:Nat} {a:GSite} (h1:a.Conductors.length≤1000) (h2:a.Owners.length≤1000) (h3:a.Contracts.length≤1000) (h4:a.Chargers.length≤1000) (h5:a.Bays.length≤1000) (hn:2000≤n):g_ref04_Same_j8 n a a=some true:=by
 unfold g_ref04_Same_j8
 have:=does_idx (B:=fun rec i=>g_ref04_Same_l13 n a a rec i) (n:=n) (L:=a.Chargers.length) (fun i r=>r=true) zo (fun rec i hi hr=>?_) 0 zo zo
 ·obtain ⟨r,e,rfl⟩:=this
  exact e
 unfold g_ref04_Same_l13
 simp only [lenI,List.length_map,ltI]
 by_cases c1:i < a.Chargers.length
 rotate_left
 ·rw [dzF zo,cond_false]; exact does_eq (same_bs h1 h2 h3 h4 h5 hn) rfl
 obtain ⟨w1,w2⟩:=hr c1
 rw [dzT zo,cond_true,getI_nat,List.getElem?_eq_getElem c1]
 simp only [obs,w1,opq,eqS,eqI,beq_self_eq_true,Bool.and_self,Bool.not_true,cond_false]
 exact w2
theorem same_ks {n:Nat} {a:GSite} (h1:a.Conductors.length≤1000) (h2:a.Owners.length≤1000) (h3:a.Contracts.length≤1000) (h4:a.Chargers.length≤1000) (h5:a.Bays.length≤1000) (hn:2000≤n):g_ref04_Same_j7 n a a=some true:=by
 unfold g_ref04_Same_j7
 have:=does_idx (B:=fun rec i=>g_ref04_Same_l16 n a a rec i) (n:=n) (L:=a.Contracts.length) (fun i r=>r=true) zo (fun rec i hi hr=>?_) 0 zo zo
 ·obtain ⟨r,e,rfl⟩:=this
  exact e
 unfold g_ref04_Same_l16
 simp only [lenI,List.length_map,ltI]
 by_cases c1:i < a.Contracts.length
 rotate_left
 ·rw [dzF zo,cond_false]; exact does_eq (same_gs h1 h2 h3 h4 h5 hn) rfl
 obtain ⟨w1,w2⟩:=hr c1
 rw [dzT zo,cond_true,getI_nat,List.getElem?_eq_getElem c1]
 simp only [obs,w1,opq,eqS,eqI,beq_self_eq_true,Bool.and_self,Bool.not_true,cond_false]
 exact w2
theorem same_os {n:Nat} {a:GSite} (h1:a.Conductors.length≤1000) (h2:a.Owners.length≤1000) (h3:a.Contracts.length≤1000) (h4:a.Chargers.length≤1000) (h5:a.Bays.length≤1000) (hn:2000≤n):g_ref04_Same_j6 n a a=some true:=by
 unfold g_ref04_Same_j6
 have:=does_idx (B:=fun rec i=>g_ref04_Same_l19 n a a rec i) (n:=n) (L:=a.Owners.length) (fun i r=>r=true) zo (fun rec i hi hr=>?_) 0 zo zo
 ·obtain ⟨r,e,rfl⟩:=this
  exact e
 unfold g_ref04_Same_l19
 simp only [lenI,List.length_map,ltI]
 by_cases c1:i < a.Owners.length
 rotate_left
 ·rw [dzF zo,cond_false]; exact does_eq (same_ks h1 h2 h3 h4 h5 hn) rfl
 obtain ⟨w1,w2⟩:=hr c1
 rw [dzT zo,cond_true,getI_nat,List.getElem?_eq_getElem c1]
 simp only [obs,w1,opq,eqS,beq_self_eq_true,Bool.and_self,Bool.not_true,cond_false]
 exact w2
theorem same_cs {n:Nat} {a:GSite} (h1:a.Conductors.length≤1000) (h2:a.Owners.length≤1000) (h3:a.Contracts.length≤1000) (h4:a.Chargers.length≤1000) (h5:a.Bays.length≤1000) (hn:2000≤n):loopN (fun rec i=>g_ref04_Same_l22 n a a rec i) n 0=some true:=by
 have:=does_idx (B:=fun rec i=>g_ref04_Same_l22 n a a rec i) (n:=n) (L:=a.Conductors.length) (fun i r=>r=true) zo (fun rec i hi hr=>?_) 0 zo zo
 ·obtain ⟨r,e,rfl⟩:=this
  exact e
 unfold g_ref04_Same_l22
 simp only [lenI,List.length_map,ltI]
 by_cases c1:i < a.Conductors.length
 rotate_left
 ·rw [dzF zo,cond_false]; exact does_eq (same_os h1 h2 h3 h4 h5 hn) rfl
 obtain ⟨w1,w2⟩:=hr c1
 rw [dzT zo,cond_true,getI_nat,List.getElem?_eq_getElem c1]
 simp only [obs,w1,opq,eqS,eqI,beq_self_eq_true,Bool.and_self,Bool.not_true,cond_false]
 exact w2
theorem same_refl {n:Nat} {a:GSite} (h1:a.Conductors.length≤1000) (h2:a.Owners.length≤1000) (h3:a.Contracts.length≤1000) (h4:a.Chargers.length≤1000) (h5:a.Bays.length≤1000) (hn:2000≤n):g_ref04_Same n a a=some true:=by
 unfold g_ref04_Same
 simp only [eqI,beq_self_eq_true,Bool.not_true,cond_false,obs]
 exact same_cs h1 h2 h3 h4 h5 hn
theorem gd_nil {l:List GDg} (h:ltI 0 (lenI (List.map GDg.cs l))=false):l=[]:=by
 cases l with
 | nil=>rfl
 | cons a l =>
  simp only [lenI,ltI,List.length_map,zLC] at h
  rw [dzT zo] at h
  cases h
theorem same_site {n:Nat} {s:BS} (h:s.fit) (hn:2000≤n):g_ref04_Same n s.site s.site=some true:=by
 obtain ⟨h1,h2,h3,h4,h5⟩:=h
 exact same_refl (by simp only [BS.site]; omega) (by simp only [BS.site]; omega) (by simp only [BS.site]; omega) (by simp only [BS.site]; omega) (by simp only [BS.site]; omega) hn
theorem s_build_tot {n d:Nat} {x:GN} (ht:treeD d x) (hn:9223372036854776000≤n) (hs:1+(x.Kids.length:Int)+swL (kidsL x.Kids)≤400):Tot (g_site_Build n x):=tot_eq (s_Build ht hn zo)
theorem kidsL_take {d:Nat}:∀ {l:List (List PV)} {k:Nat},kidsD d l→kidsL (l.take k)=(kidsL l).take k
 | [],k,_=>by simp [kidsL]
 | c :: l,0,_=>rfl
 | c :: l,k+1,h=>by
  obtain ⟨y,e,_⟩:=h c zq
  have ih:=kidsL_take (l:=l) (k:=k) fun q hq=>h q (by simp [hq])
  unfold kidsL at ih ⊢
  rw [List.take_succ_cons,List.filterMap_cons,List.filterMap_cons,e]
  simp only [List.take_succ_cons,ih]
theorem take_app {α:Type} {a b:List α} (h:∃ c,b=a++c):b.take a.length=a∧a.length≤b.length:=by
 obtain ⟨c,rfl⟩:=h
 simp
theorem begin_loop {n d:Nat} {x:GN} {m:Int} {t:List (List PV)} (ht:t=List.drop (Int.toNat 0) (List.take (Int.toNat (Int.tmod (wi m) (wi ((lenI (List.map idc x.Kids))+1)))) x.Kids)) (hk:kidsD d t) (hl:t.length≤9223372036854775807) (hn:9223372036854776000≤n) :
  loopN (fun rec (v:Bool × Int)=>g_law04_SiteBeginnings_l5 x m rec v.1 v.2) n (false,0)=some ((kidsL t).any fun y=>eqI y.N 1):=by
 have:=does_loop (n:=n) (B:=fun rec (v:Bool × Int)=>g_law04_SiteBeginnings_l5 x m rec v.1 v.2) (v:=(false,0)) (Q:=fun v r=>r=(v.1||(kidsL (t.drop v.2.toNat)).any fun y=>eqI y.N 1)) (fun v=>t.length - v.2.toNat) (fun v=>∃ i:Nat,v.2=(i:Int)∧i≤t.length) ?_ ⟨0,rfl,by omega⟩ (by simp only; omega)
 ·obtain ⟨r,e,h⟩:=this
  rw [e,h]; rfl
 rintro rec ⟨b,q⟩ ⟨i,hi,hil⟩ hrec
 simp only at hi hrec ⊢
 subst hi
 unfold g_law04_SiteBeginnings_l5
 rw [← ht]
 simp only [lenI,List.length_map,ltI,Int.toNat_natCast] at hrec ⊢
 by_cases c1:i < t.length
 rotate_left
 ·rw [dzF zo,cond_false,kidL_end _ zo]; exact does_some zq
 obtain ⟨y,hy,hty,hc⟩:=kidL_at hk c1
 rw [dzT zo,cond_true,hy,obs,hc,wi_id (x:=(i:Int)+1) zo zo,List.any_cons]
 have hx:=fun b'=>hrec (b',(i:Int)+1) ⟨i+1,by simp,c1⟩ (by simp only; omega)
 simp only [show ((i:Int)+1).toNat=i+1 by omega] at hx
 cases b
 ·simpa using hx (eqI y.N 1)
 ·simpa using hx true
theorem sizes_s (n:Nat) (s:GSite):g_law04_sizes n s=some ((s.Conductors.length:Int),(s.Owners.length:Int),(s.Contracts.length:Int),(s.Chargers.length:Int),(s.Bays.length:Int),0):=by
 unfold g_law04_sizes
 simp only [lenI,List.length_map]
theorem begin_end {n:Nat} {s t:BS} (hgr:Grow s t) (hfit:s.fit) (hn:9223372036854776000≤n):((g_law04_sizes n s.site).bind fun r11=>(g_law04_sizes n t.site).bind fun r12=>loopN (fun rec l=>g_law04_SiteBeginnings_l17 n true (t.site,[]) (s.site,[]) r11 r12 rec l) n 0)=some true:=by
 rw [sizes_s,sizes_s,obs,obs]
 obtain ⟨_,q1,q2,q3,q4,q5⟩:=hgr
 obtain ⟨u1,v1⟩:=take_app q1
 obtain ⟨u2,v2⟩:=take_app q2
 obtain ⟨u3,v3⟩:=take_app q3
 obtain ⟨u4,v4⟩:=take_app q4
 obtain ⟨u5,v5⟩:=take_app q5
 have hlt:∀ {a b:Nat},a≤b→ltI (b:Int) (a:Int)=false:=fun h=>ltI_f zo
 have hj:g_law04_SiteBeginnings_j13 n true (t.site,[]) (s.site,[]) ((s.site.Conductors.length:Int),(s.site.Owners.length:Int),(s.site.Contracts.length:Int),(s.site.Chargers.length:Int),(s.site.Bays.length:Int),0)=some true:=by
  unfold g_law04_SiteBeginnings_j13
  have hsl:∀ {α:Type} {a b:List α},a.length≤b.length→sliceB 0 (a.length:Int) b.length=true:=fun h=>by unfold sliceB; rw [decide_eq_true_eq]; omega
  have htk:∀ {α:Type} {a b:List α},b.take a.length=a→List.drop (Int.toNat 0) (List.take (Int.toNat (a.length:Int)) b)=a:=fun h=>by simpa using h
  simp only [BS.site,hsl v1,hsl v2,hsl v3,hsl v4,hsl v5,htk u1,htk u2,htk u3,htk u4,htk u5,cond_true]
  have hS:=same_site (n:=n) hfit zo
  simp only [BS.site] at hS
  rw [hS]; rfl
 have:=does_idx (B:=fun rec i=>g_law04_SiteBeginnings_l17 n true (t.site,[]) (s.site,[]) ((s.site.Conductors.length:Int),(s.site.Owners.length:Int),(s.site.Contracts.length:Int),(s.site.Chargers.length:Int),(s.site.Bays.length:Int),0) ((t.site.Conductors.length:Int),(t.site.Owners.length:Int),(t.site.Contracts.length:Int),(t.site.Chargers.length:Int),(t.site.Bays.length:Int),0) rec i) (n:=n) (L:=6) (fun i q=>q=true) zo (fun rec i hi hr=>?_) 0 zo zo
 ·obtain ⟨_,e1,rfl⟩:=this
  exact e1
 unfold g_law04_SiteBeginnings_l17
 by_cases c1:i < 6
 rotate_left
 ·rw [ltI_f zo,cond_false]; exact does_eq hj rfl
 obtain ⟨w1,w2⟩:=hr c1
 rw [ltI_t zo,cond_true,w1,getI_nat,getI_nat]
 simp only [BS.site]
 have h6:∃ a b:Int,[(s.cs.length:Int),(s.os.length:Int),(s.ks.length:Int),(s.gs.length:Int),(s.bs.length:Int),0][i]?=some a∧[(t.cs.length:Int),(t.os.length:Int),(t.ks.length:Int),(t.gs.length:Int),(t.bs.length:Int),0][i]?=some b∧ltI b a=false:=by
  match i,c1 with
  | 0,_=>exact ⟨_,_,rfl,rfl,hlt v1⟩
  | 1,_=>exact ⟨_,_,rfl,rfl,hlt v2⟩
  | 2,_=>exact ⟨_,_,rfl,rfl,hlt v3⟩
  | 3,_=>exact ⟨_,_,rfl,rfl,hlt v4⟩
  | 4,_=>exact ⟨_,_,rfl,rfl,hlt v5⟩
  | 5,_=>exact ⟨_,_,rfl,rfl,rfl⟩
 obtain ⟨a,b,e1,e2,e3⟩:=h6
 rw [e1,e2,obs,obs,e3,cond_false]
 exact w2
theorem beginnings_gen {n d:Nat} {x:GN} {m:Int} (ht:treeD d x) (hm:0≤m∧m≤65535) (hn:9223372036854776000≤n) (hh:g_law04_head n=some true):g_law04_SiteBeginnings n x m=some true:=by
 obtain ⟨b,hb,hfew⟩:=few4 ht hn
 unfold g_law04_SiteBeginnings
 rw [hh,obs,hb,obs]
 cases b
 ·rfl
 have hs:=hfew rfl
 simp only [Bool.not_true,cond_false]
 obtain ⟨r,hr,_⟩:=s_build_tot ht hn hs
 rw [hr,obs]
 cases hd:ltI 0 (lenI (List.map GDg.cs r.2))
 rotate_left
 ·rfl
 obtain ⟨hv,hdg,hfd,hsite⟩:=build_good ht hn hs hr (gd_nil hd)
 obtain ⟨r1,r2⟩:=r
 obtain rfl:r1=_:=hsite
 obtain rfl:r2=[]:=gd_nil hd
 rw [cond_false]
 obtain ⟨e,rfl,hl,_,hk⟩:=tree_kids ht
 have hK:=kidsL_len hk
 have hsw:=sw_nonneg (kidsL x.Kids)
 have hw:wi (lenI (List.map idc x.Kids)+1)=x.Kids.length+1:=by simp only [lenI,List.length_map]; exact wi_id zo zo
 obtain ⟨k,hk1,hk2⟩:∃ k:Nat,Int.tmod (wi m) (wi (lenI (List.map idc x.Kids)+1))=(k:Int)∧k≤x.Kids.length:=by
  rw [hw,wi_id (x:=m) zo zo,Int.tmod_eq_emod_of_nonneg hm.1]
  have h1:=Int.emod_nonneg m (show (x.Kids.length:Int)+1 ≠ 0 by omega)
  have h2:=Int.emod_lt_of_pos m (show 0 < (x.Kids.length:Int)+1 by omega)
  exact ⟨(m % ((x.Kids.length:Int)+1)).toNat,by omega,by omega⟩
 have htk:List.drop (Int.toNat 0) (List.take (Int.toNat (k:Int)) x.Kids)=x.Kids.take k:=by simp
 have hkt:kidsD e (x.Kids.take k):=fun q hq=>hk q (List.mem_of_mem_take hq)
 have hlt:(x.Kids.take k).length≤x.Kids.length:=by simp; omega
 have hloop:=begin_loop (n:=n) (x:=x) (m:=m) (t:=x.Kids.take k) (by rw [hk1,htk]) hkt zo hn
 rw [hw,show eqI ((x.Kids.length:Int)+1) 0=false from by rw [eqI_d]; exact dzF zo]
 rw [hw] at hk1
 rw [hk1,htk,show sliceB 0 (k:Int) x.Kids.length=true from by unfold sliceB; rw [decide_eq_true_eq]; omega]
 simp only [Bool.not_false,cond_true]
 refine (congrArg (fun q=>Option.bind q _) hloop).trans ?_
 simp only [obs]
 have hkl:=kidsL_take (k:=k) hk
 have hsub:(kidsL (x.Kids.take k)).Sublist (kidsL x.Kids):=by rw [hkl]; exact List.take_sublist _ _
 have htm:=tree_with ht hlt hkt
 have hswm:=sw_sub hsub
 have hdg':=hdg
 rw [← List.take_append_drop k (kidsL x.Kids)] at hdg'
 obtain ⟨p1,p2⟩:=run_app hdg'
 rw [List.take_append_drop,← hkl] at p2
 rw [← hkl] at p1
 have hfd':=run_fd p1
 rw [show (bs0.fd||(kidsL (x.Kids.take k)).any fun y=>eqI y.N 1)=(kidsL (x.Kids.take k)).any fun y=>eqI y.N 1 from by simp [bs0]] at hfd'
 have hB:=build_mk htm hn (by simp only; omega) (valid_sub hv hsub) p1
 simp only [hfd'] at hB
 rw [hB,obs]
 have hgr:=run_grow (l:=(kidsL x.Kids).drop k) (s:=runF (kidsL (x.Kids.take k)) bs0)
 have hfit:=run_fit (l:=kidsL (x.Kids.take k)) fit0
 rw [← p2] at hgr
 cases hany:(kidsL (x.Kids.take k)).any fun y=>eqI y.N 1
 ·rw [Bool.not_false,cond_true,if_neg zq]
  rfl
 rw [Bool.not_true,cond_false,if_pos rfl]
 exact begin_end hgr hfit hn
theorem beginnings04_plain {d:Nat} {x:GN} {m:Int} (ht:treeD d x) (hm:0≤m∧m≤65535):g_law04_SiteBeginnings 36893488147419103232 x m=some true:=beginnings_gen ht hm zo head04
end Go.Proofs
namespace Go.Proofs.Yteakahdpnpecoaa
open Go Go.Abs Go.Proofs
theorem tree_of:∀ (d:Nat) (x:GN),GN.wfd d x→treeD d x
 | 0,_,h=>h.elim
 | d+1,x,h=>by
  obtain ⟨h0,h1,h2,h3,h4⟩:=h
  exact ⟨h0,h2,h3,h1,h4.1,fun k hk=>by
   obtain ⟨y,e,g⟩:=h4.2 k hk
   exact ⟨y,by rw [e]; exact of_cs' _ _ _ _ _,tree_of d y g⟩⟩
theorem siteBeginnings_holds:Rows.SiteBeginningsSaid :=
 siteBeginnings_said (fun x m h hm=>by
  obtain ⟨d,h⟩:=h
  exact ⟨_,beginnings04_plain (tree_of d x h) hm⟩)
end Go.Proofs.Yteakahdpnpecoaa
