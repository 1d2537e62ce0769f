/-
  A part of the proof of a statement of the seat Yteakahdpnpecoaa.
-/
import Derived.Test.YteakahdpnpecoaaTar05
set_option linter.unusedVariables false
namespace Go.Proofs
open Go Go.Abs
set_option maxRecDepth 100000
theorem s_Build {n d:Nat} {x:GN} (ht:treeD d x) (hn:9223372036854776000≤n) (hs:1+(x.Kids.length:Int)+swL (kidsL x.Kids)≤1500) :
  g_site_Build n x=some (if validB x then (if (runF (kidsL x.Kids) bs0).dg=[] then (if (runF (kidsL x.Kids) bs0).fd then ((runF (kidsL x.Kids) bs0).site,[]) else (⟨[],[],[],[],[]⟩,[⟨4,0⟩])) else (⟨[],[],[],[],[]⟩,(runF (kidsL x.Kids) bs0).dg)) else (⟨[],[],[],[],[]⟩,[⟨1,0⟩])):=by
 unfold g_site_Build
 rw [p_valid ht hn hs,obs]
 cases hv:validB x
 ·rfl
 obtain ⟨e,rfl,hl,_,hk⟩:=tree_kids ht
 simp only [Bool.not_true,cond_false,if_true]
 have hloop:Does (loopN (fun recl3 (v:Int × List GConductor × List GOwner × List GContract × List GCharger × List GBay × Bool × List GDg × HasM × ThM)=>g_site_Build_l3 n x recl3 v.1 v.2.1 v.2.2.1 v.2.2.2.1 v.2.2.2.2.1 v.2.2.2.2.2.1 v.2.2.2.2.2.2.1 v.2.2.2.2.2.2.2.1 v.2.2.2.2.2.2.2.2.1 v.2.2.2.2.2.2.2.2.2) n (0,[],[],[],[],[],false,[],[],[])) (fun r=>r=(runF (kidsL x.Kids) bs0).t):=by
  have:=does_loop (n:=n) (B:=fun recl3 (v:Int × List GConductor × List GOwner × List GContract × List GCharger × List GBay × Bool × List GDg × HasM × ThM)=>g_site_Build_l3 n x recl3 v.1 v.2.1 v.2.2.1 v.2.2.2.1 v.2.2.2.2.1 v.2.2.2.2.2.1 v.2.2.2.2.2.2.1 v.2.2.2.2.2.2.2.1 v.2.2.2.2.2.2.2.2.1 v.2.2.2.2.2.2.2.2.2) (v:=(0,[],[],[],[],[],false,[],[],[]))
   (Q:=fun v r=>∀ s:BS,v.2=s.t→r=(runF (kidsL (x.Kids.drop v.1.toNat)) s).t) (fun v=>x.Kids.length - v.1.toNat) (fun v=>(∃ i:Nat,v.1=(i:Int)∧i≤x.Kids.length)∧∃ s:BS,v.2=s.t∧s.fit∧s.dg.length < 20) ?_ ⟨⟨0,rfl,by omega⟩,bs0,rfl,by simp [BS.fit,bs0],by simp [bs0]⟩ (by simp only; omega)
  ·obtain ⟨r,e1,h⟩:=this
   exact ⟨r,e1,h bs0 rfl⟩
  rintro rec ⟨q,v⟩ ⟨⟨i,hi,hil⟩,s,hs,hfit,hdg⟩ hrec
  simp only at hi hs hrec ⊢
  subst hi hs
  obtain ⟨cs,os,ks,gs,bs,fd,dg,nm,th⟩:=s
  have hst:∀ s:BS,BS.t ⟨cs,os,ks,gs,bs,fd,dg,nm,th⟩=s.t→(⟨cs,os,ks,gs,bs,fd,dg,nm,th⟩:BS)=s:=by
   intro s h
   obtain ⟨_,_,_,_,_,_,_,_,_⟩:=s
   simp only [BS.t,Prod.mk.injEq] at h
   obtain ⟨rfl,rfl,rfl,rfl,rfl,rfl,rfl,rfl,rfl⟩:=h
   rfl
  unfold g_site_Build_l3
  simp only [lenI,List.length_map,ltI,Int.toNat_natCast,BS.t] at hrec ⊢
  by_cases c1:i < x.Kids.length
  rotate_left
  ·rw [dzF zo,cond_false,kidL_end _ zo]
   refine does_some fun s hs=>?_
   rw [← hst s hs]; rfl
  obtain ⟨y,hy,hty,hc⟩:=kidL_at hk c1
  rw [dzT zo,cond_true,hy,obs,hc]
  obtain ⟨f1,f2,_⟩:=step_fit (y:=y) hfit
  refine does_bind (Q:=fun v=>v=(stepF y ⟨cs,os,ks,gs,bs,fd,dg,nm,th⟩).u) ?_ ?_
  ·obtain ⟨g1,g2,g3,g4,g5⟩:=hfit
   simp only at g1 g2 g3 g4 g5 hdg
   have hd:∀ e:GDg,roomB (List.length (dg++[e])) 16=true:=fun e=>rm1 (by simp; omega) zo
   simp only [cond_some,obs,cod,cad,hd,cond_true]
   unfold stepF
   rw [show (mgetD me_msb y.Name false nm||(eqI y.N 1&&fd))=twB y ⟨cs,os,ks,gs,bs,fd,dg,nm,th⟩ from rfl]
   cases twB y ⟨cs,os,ks,gs,bs,fd,dg,nm,th⟩
   rotate_left
   ·rw [cond_true,if_pos rfl]; exact does_some rfl
   rw [cond_false,if_neg zq,eqI_d (y:=7)]
   by_cases c7:y.N=7
   ·rw [dzT c7,if_pos c7,cond_true]; exact does_some rfl
   rw [dzF c7,if_neg c7,cond_false]
   have hp:(bif (eqI y.N 1||eqI y.N 2) then ((cs.length:Int),(16:Int)) else bif eqI y.N 3 then ((os.length:Int),8) else bif eqI y.N 4 then ((ks.length:Int),32) else bif eqI y.N 5 then ((gs.length:Int),16) else ((bs.length:Int),24))=(roomN y.N ⟨cs,os,ks,gs,bs,fd,dg,nm,th⟩,roomM y.N):=by
    unfold roomN roomM
    cases (eqI y.N 1||eqI y.N 2)
    ·cases eqI y.N 3
     ·cases eqI y.N 4
      ·cases eqI y.N 5 <;> rfl
      ·rfl
     ·rfl
    ·rfl
   have hx:(bif (eqI y.N 1||eqI y.N 2) then (cs.length:Int) else bif eqI y.N 3 then (os.length:Int) else bif eqI y.N 4 then (ks.length:Int) else bif eqI y.N 5 then (gs.length:Int) else (bs.length:Int))=roomN y.N ⟨cs,os,ks,gs,bs,fd,dg,nm,th⟩:=rfl
   have k1:∀ e:GConductor,roomB (List.length (cs++[e])) 96=true:=fun e=>rm1 (by simp; omega) zo
   have k2:∀ e:GOwner,roomB (List.length (os++[e])) 16=true:=fun e=>rm1 (by simp; omega) zo
   have k3:∀ e:GContract,roomB (List.length (ks++[e])) 40=true:=fun e=>rm1 (by simp; omega) zo
   have k4:∀ e:GCharger,roomB (List.length (gs++[e])) 72=true:=fun e=>rm1 (by simp; omega) zo
   have k5:∀ e:GBay,roomB (List.length (bs++[e])) 24=true:=fun e=>rm1 (by simp; omega) zo
   simp only [cse',hp,hx,leI,k1,k2,k3,k4,k5,cond_true]
   by_cases c8:roomM y.N≤roomN y.N ⟨cs,os,ks,gs,bs,fd,dg,nm,th⟩
   ·rw [dzT c8,if_pos c8]; exact does_some rfl
   rw [dzF c8,if_neg c8,cond_false]
   obtain ⟨r,e1,h⟩:=s_attrs (n:=n) (y:=y) (s:=⟨cs,os,ks,gs,bs⟩) (f:=(fd||eqI y.N 1)) (dd:=dg) (h7:=mset me_msb y.Name true nm) (h10:=[]) (th:=th) (c:=⟨[],0,0,0,⟨0,0⟩,⟨0,0,0,0,0⟩⟩) (k:=⟨[],0,0,0⟩) (g:=⟨[],0,0,0,0,0,0,0⟩) (b:=⟨[],0⟩) hty (by simp only; omega) hn
   rw [e1,obs]
   change pj r=aqF (attF y.N ks th (kidsL y.Kids) zeroQ []) at h
   have hR:readF y ⟨cs,os,ks,gs,bs,fd,dg,nm,th⟩=eb (attF y.N ks th (kidsL y.Kids) zeroQ []) fun v=>eb (whF y v.1.1 v.1.2.2.1 v.2) fun _=>.ok v.1:=rfl
   rw [hR]
   generalize attF y.N ks th (kidsL y.Kids) zeroQ []=z at h
   cases r with
   | error e =>
    cases z with
    | ok v=>cases h
    | error z =>
     have h:e.1=z:=by simpa [pj,aqF,eb] using h
     subst h
     simp only [exc,eb]
     exact does_some rfl
   | ok w =>
    cases z with
    | error z=>cases h
    | ok v =>
     have h:w=(v.1.1,v.1.2.1,v.1.2.2.1,v.1.2.2.2,v.2):=by simpa [pj,aqF,eb] using h
     subst h
     simp only [exc,eb]
     rw [s_whole zo,obs]
     cases hw:whF y v.1.1 v.1.2.2.1 v.2 with
     | error e =>
      simp only [exc]
      exact does_some rfl
     | ok _ =>
      simp only [exc,eqI_d]
      unfold declF
      by_cases c1:y.N=1
      ·rw [dzT c1,if_pos c1]; exact does_some (by simp only [BS.u,markF,eqI_d,dzT c1]; rfl)
      rw [dzF c1,if_neg c1]
      by_cases c2:y.N=2
      ·rw [dzT c2,if_pos c2]; exact does_some (by simp only [BS.u,markF,eqI_d,dzF c1]; rfl)
      rw [dzF c2,if_neg c2]
      by_cases c3:y.N=3
      ·rw [dzT c3,if_pos c3]; exact does_some (by simp only [BS.u,markF,eqI_d,dzF c1]; rfl)
      rw [dzF c3,if_neg c3]
      by_cases c4:y.N=4
      ·rw [dzT c4,if_pos c4]; exact does_some (by simp only [BS.u,markF,eqI_d,dzF c1]; rfl)
      rw [dzF c4,if_neg c4]
      by_cases c5:y.N=5
      ·rw [dzT c5,if_pos c5]; exact does_some (by simp only [BS.u,markF,eqI_d,dzF c1]; rfl)
      rw [dzF c5,if_neg c5]
      by_cases c6:y.N=6
      ·rw [dzT c6,if_pos c6]; exact does_some (by simp only [BS.u,markF,eqI_d,dzF c1]; rfl)
      rw [dzF c6,if_neg c6]
      exact does_some (by simp only [BS.u,markF,eqI_d,dzF c1]; rfl)
  rintro ⟨u1,u2,u3,u4,u5,u6,u7,u8⟩ hu
  have hnm:=step_nm (y:=y) (s:=⟨cs,os,ks,gs,bs,fd,dg,nm,th⟩)
  refine does_mono (Q:=fun r=>r=(runF (y :: kidsL (x.Kids.drop (i+1))) ⟨cs,os,ks,gs,bs,fd,dg,nm,th⟩).t) ?_ (fun r hr s hs=>by rw [hr,hst s hs]; rfl)
  unfold runF
  generalize stepF y ⟨cs,os,ks,gs,bs,fd,dg,nm,th⟩=z at *
  obtain ⟨z1,z2,z3,z4,z5,z6,z7,z8,z9⟩:=z
  simp only [BS.u,Prod.mk.injEq] at hu
  obtain ⟨rfl,rfl,rfl,rfl,rfl,rfl,rfl,rfl⟩:=hu
  simp only at hnm f2 hdg ⊢
  subst hnm
  rw [eqI_d]
  by_cases c9:u7.length=20
  ·rw [dzT zo,if_pos c9]; exact does_some rfl
  ·rw [dzF zo,if_neg c9,cond_false,wi_id (x:=(i:Int)+1) zo zo]
   refine does_mono (hrec ((i:Int)+1,u1,u2,u3,u4,u5,u6,u7,_,u8) ⟨⟨i+1,by simp,c1⟩,⟨u1,u2,u3,u4,u5,u6,u7,_,u8⟩,rfl,f1,by simp only; omega⟩ (by simp only; omega)) ?_
   intro r hr
   have:=hr ⟨u1,u2,u3,u4,u5,u6,u7,_,u8⟩ rfl
   rw [show ((i:Int)+1).toNat=i+1 by omega] at this
   exact this
 obtain ⟨r,e1,h⟩:=hloop
 rw [h] at e1
 rw [e1,obs]
 generalize runF (kidsL x.Kids) bs0=z
 obtain ⟨z1,z2,z3,z4,z5,z6,z7,z8,z9⟩:=z
 show (cond (ltI 0 (lenI (List.map GDg.cs z7))) (some ((⟨[],[],[],[],[]⟩:GSite),z7)) (cond (!z6) (some ((⟨[],[],[],[],[]⟩:GSite),[(⟨4,0⟩:GDg)])) (some ((⟨z1,z2,z3,z4,z5⟩:GSite),[]))))=_
 simp only [BS.site]
 cases z7 with
 | nil=>cases z6 <;> rfl
 | cons a l =>
  rw [if_neg zq]
  simp only [lenI,ltI,List.length_map,zLC]
  rw [dzT zo]
  rfl
theorem head04:g_law04_head 36893488147419103232=some true:=by kernel_rfl
theorem few4 {n d:Nat} {x:GN} (ht:treeD d x) (hn:9223372036854776000≤n):Does (g_ref02_Few n x 400) (fun b=>b=true→1+(x.Kids.length:Int)+swL (kidsL x.Kids)≤400):=by
 obtain ⟨c,e,c1,c2,c3⟩:=count_sz 400 n d x 400 ht zo zo zo zo
 unfold g_ref02_Few
 rw [e,obs,leI]
 by_cases h:c≤400
 rotate_left
 ·rw [dzF h]; exact does_some fun h=>by cases h
 rw [dzT h,cond_true]
 refine does_bind (names_tot 50 n d x 50 ht zo zo zo zo) fun r _=>does_some fun _=>?_
 have:=c3 h 3
 rw [sz3 ht] at this
 omega
theorem sum_sub {f:GN→Int} (hf:∀ y,0≤f y) {l l':List GN} (h:l'.Sublist l):(l'.map f).sum≤(l.map f).sum:=by
 induction h with
 | slnil=>exact Int.le_refl _
 | cons a _ ih=>have:=hf a; simp only [List.map_cons,List.sum_cons]; omega
 | cons_cons a _ ih=>simp only [List.map_cons,List.sum_cons]; omega
theorem sw_sub {l l':List GN} (h:l'.Sublist l):swL l'≤swL l:=sum_sub (fun y=>by have:=pw_nonneg (kidsL y.Kids); omega) h
theorem kids_map {d:Nat}:∀ {l:List GN},(∀ y ∈ l,treeD d y)→kidsL (l.map GN.cs)=l∧kidsD d (l.map GN.cs)
 | [],_=>⟨rfl,fun _ h=>by cases h⟩
 | y :: l,h=>by
  obtain ⟨h1,h2⟩:=kids_map (l:=l) fun z hz=>h z (by simp [hz])
  obtain ⟨a,b,c,t,ks⟩:=y
  refine ⟨?_,?_⟩
  ·unfold kidsL at h1 ⊢
   rw [List.map_cons,List.filterMap_cons,of_cs',h1]
  ·intro k hk
   rw [List.map_cons] at hk
   rcases List.mem_cons.1 hk with rfl | hk
   ·exact ⟨_,of_cs' _ _ _ _ _,h _ zq⟩
   ·exact h2 k hk
theorem tree_with {d:Nat} {x:GN} {l:List (List PV)} (h:treeD (d+1) x) (hl:l.length≤x.Kids.length) (hk:kidsD d l):treeD (d+1) (⟨x.Kind,x.Name,x.N,x.At,l⟩:GN) :=
 ⟨h.1,h.2.1,h.2.2.1,h.2.2.2.1,Nat.le_trans hl h.2.2.2.2.1,hk⟩
theorem valid_sub {x:GN} {l:List (List PV)} (h:validB x=true) (hs:(kidsL l).Sublist (kidsL x.Kids)):validB (⟨x.Kind,x.Name,x.N,x.At,l⟩:GN)=true:=by
 unfold validB at h ⊢
 simp only [bae,List.all_eq_true] at h ⊢
 exact ⟨h.1,h.2.1,h.2.2.1,fun y hy=>h.2.2.2 y (hs.mem hy)⟩
theorem decl_all {y:GN} {q:SQ} {s:BS}:(declF y q s).nm=s.nm∧(declF y q s).fd=s.fd∧(declF y q s).dg=s.dg∧(∃ a,(declF y q s).cs=s.cs++a)∧(∃ a,(declF y q s).os=s.os++a)∧(∃ a,(declF y q s).ks=s.ks++a)∧(∃ a,(declF y q s).gs=s.gs++a)∧(∃ a,(declF y q s).bs=s.bs++a):=by
 have z:∀ {α:Type} (l:List α),∃ a,l=l++a:=fun l=>⟨[],by simp⟩
 unfold declF
 by_cases c1:y.N=1
 ·rw [if_pos c1]; exact ⟨rfl,rfl,rfl,⟨_,rfl⟩,z _,z _,z _,z _⟩
 rw [if_neg c1]
 by_cases c2:y.N=2
 ·rw [if_pos c2]; exact ⟨rfl,rfl,rfl,⟨_,rfl⟩,z _,z _,z _,z _⟩
 rw [if_neg c2]
 by_cases c3:y.N=3
 ·rw [if_pos c3]; exact ⟨rfl,rfl,rfl,z _,⟨_,rfl⟩,z _,z _,z _⟩
 rw [if_neg c3]
 by_cases c4:y.N=4
 ·rw [if_pos c4]; exact ⟨rfl,rfl,rfl,z _,z _,⟨_,rfl⟩,z _,z _⟩
 rw [if_neg c4]
 by_cases c5:y.N=5
 ·rw [if_pos c5]; exact ⟨rfl,rfl,rfl,z _,z _,z _,⟨_,rfl⟩,z _⟩
 rw [if_neg c5]
 by_cases c6:y.N=6
 ·rw [if_pos c6]; exact ⟨rfl,rfl,rfl,z _,z _,z _,z _,⟨_,rfl⟩⟩
 rw [if_neg c6]
 exact ⟨rfl,rfl,rfl,z _,z _,z _,z _,z _⟩
def Grow (s t:BS):Prop:=(∃ a,t.dg=s.dg++a)∧(∃ a,t.cs=s.cs++a)∧(∃ a,t.os=s.os++a)∧(∃ a,t.ks=s.ks++a)∧(∃ a,t.gs=s.gs++a)∧(∃ a,t.bs=s.bs++a)
theorem app_t {α:Type} {l m r:List α} (h1:∃ a,m=l++a) (h2:∃ a,r=m++a):∃ a,r=l++a:=by
 obtain ⟨a,rfl⟩:=h1
 obtain ⟨b,rfl⟩:=h2
 exact ⟨a++b,by simp⟩
theorem grow_t {s t u:BS} (h1:Grow s t) (h2:Grow t u):Grow s u :=
 ⟨app_t h1.1 h2.1,app_t h1.2.1 h2.2.1,app_t h1.2.2.1 h2.2.2.1,app_t h1.2.2.2.1 h2.2.2.2.1,app_t h1.2.2.2.2.1 h2.2.2.2.2.1,app_t h1.2.2.2.2.2 h2.2.2.2.2.2⟩
theorem grow_r (s:BS):Grow s s:=⟨⟨[],by simp⟩,⟨[],by simp⟩,⟨[],by simp⟩,⟨[],by simp⟩,⟨[],by simp⟩,⟨[],by simp⟩⟩
theorem step_grow {y:GN} {s:BS}:Grow s (stepF y s)∧(stepF y s).fd=(s.fd||eqI y.N 1):=by
 have hm:Grow s (markF y s):=grow_r s
 have he:∀ e,Grow s ((markF y s).err e):=fun e=>⟨⟨_,rfl⟩,hm.2⟩
 unfold stepF
 split
 ·exact ⟨he _,rfl⟩
 split
 ·exact ⟨hm,rfl⟩
 split
 ·exact ⟨he _,rfl⟩
 split
 ·exact ⟨he _,rfl⟩
 ·rename_i q _
  obtain ⟨_,d1,d2,d3⟩:=decl_all (y:=y) (q:=q) (s:=markF y s)
  exact ⟨grow_t hm ⟨⟨[],by rw [d2]; simp⟩,d3⟩,d1⟩
theorem run_grow:∀ {l:List GN} {s:BS},Grow s (runF l s)
 | [],s=>grow_r s
 | y :: l,s=>by
  unfold runF
  split
  ·exact step_grow.1
  ·exact grow_t step_grow.1 run_grow
theorem nil_of {s t:BS} (h:Grow s t) (ht:t.dg=[]):s.dg=[]:=by
 obtain ⟨a,e⟩:=h.1
 rw [ht] at e
 exact (List.append_eq_nil_iff.1 e.symm).1
theorem good_cons {y:GN} {l:List GN} {s:BS} (h:(runF (y :: l) s).dg=[]):(stepF y s).dg=[]∧runF (y :: l) s=runF l (stepF y s):=by
 have e:runF (y :: l) s=if (stepF y s).dg.length=20 then stepF y s else runF l (stepF y s):=rfl
 rw [e] at h ⊢
 split at h
 ·rename_i h1; rw [h] at h1; cases h1
 ·rename_i h1
  rw [if_neg h1]
  exact ⟨nil_of run_grow h,rfl⟩
theorem good_mk {y:GN} {l:List GN} {s:BS} (h:(stepF y s).dg=[]):runF (y :: l) s=runF l (stepF y s):=by
 show (if (stepF y s).dg.length=20 then stepF y s else runF l (stepF y s))=_
 rw [if_neg (by rw [h]; simp)]
theorem good_step {y:GN} {s:BS} (h:(stepF y s).dg=[]):twB y s=false∧((y.N=7∧stepF y s=markF y s)∨(y.N ≠ 7∧¬ roomM y.N≤roomN y.N s∧∃ q,readF y s=.ok q∧stepF y s=declF y q (markF y s))):=by
 unfold stepF at h ⊢
 split at h
 ·simp [BS.err] at h
 rename_i h1
 simp only [Bool.not_eq_true] at h1
 rw [if_neg (by rw [h1]; simp)]
 refine ⟨h1,?_⟩
 split at h
 ·rename_i h2; exact .inl ⟨h2,by rw [if_pos h2]⟩
 rename_i h2
 rw [if_neg h2]
 split at h
 ·simp [BS.err] at h
 rename_i h3
 rw [if_neg h3]
 split at h
 ·simp [BS.err] at h
 rename_i q hq
 exact .inr ⟨h2,h3,q,hq,rfl⟩
theorem step_good {y:GN} {s:BS} {q:SQ} (h1:twB y s=false) (h2:y.N ≠ 7) (h3:¬ roomM y.N≤roomN y.N s) (h4:readF y s=.ok q):stepF y s=declF y q (markF y s):=by
 unfold stepF
 rw [if_neg (by rw [h1]; simp),if_neg h2,if_neg h3,h4]
theorem run_fit:∀ {l:List GN} {s:BS},s.fit→(runF l s).fit
 | [],s,h=>h
 | y :: l,s,h=>by
  unfold runF
  split
  ·exact (step_fit h).1
  ·exact run_fit (step_fit h).1
theorem fit0:bs0.fit:=by simp [BS.fit,bs0]
theorem build_good {n d:Nat} {x:GN} {r:GSite × List GDg} (ht:treeD d x) (hn:9223372036854776000≤n) (hs:1+(x.Kids.length:Int)+swL (kidsL x.Kids)≤400) (hr:g_site_Build n x=some r) (hd:r.2=[]) :
  validB x=true∧(runF (kidsL x.Kids) bs0).dg=[]∧(runF (kidsL x.Kids) bs0).fd=true∧r.1=(runF (kidsL x.Kids) bs0).site:=by
 rw [s_Build ht hn zo] at hr
 simp only [sie] at hr
 subst hr
 split at hd
 rotate_left
 ·cases hd
 rename_i h1
 rw [if_pos h1]
 split at hd
 rotate_left
 ·rename_i h2; exact absurd hd h2
 rename_i h2
 rw [if_pos h2]
 split at hd
 rotate_left
 ·cases hd
 rename_i h3
 rw [if_pos h3]
 exact ⟨h1,h2,h3,rfl⟩
theorem build_mk {n d:Nat} {x:GN} (ht:treeD d x) (hn:9223372036854776000≤n) (hs:1+(x.Kids.length:Int)+swL (kidsL x.Kids)≤400) (hv:validB x=true) (hd:(runF (kidsL x.Kids) bs0).dg=[]) :
  g_site_Build n x=some (if (runF (kidsL x.Kids) bs0).fd then ((runF (kidsL x.Kids) bs0).site,[]) else (⟨[],[],[],[],[]⟩,[⟨4,0⟩])):=by
 rw [s_Build ht hn zo,if_pos hv,if_pos hd]
theorem same_bs {n:Nat} {a:GSite} (h1:a.Conductors.length≤1000) (h2:a.Owners.length≤1000) (h3:a.Contracts.length≤1000) (h4:a.Chargers.length≤1000) (h5:a.Bays.length≤1000) (hn:2000≤n):g_ref04_Same_j9 n a a=some true:=by
 unfold g_ref04_Same_j9
 have:=does_idx (B:=fun rec i=>g_ref04_Same_l10 a a rec i) (n:=n) (L:=a.Bays.length) (fun i r=>r=true) zo (fun rec i hi hr=>?_) 0 zo zo
 ·obtain ⟨r,e,rfl⟩:=this
  exact e
 unfold g_ref04_Same_l10
 simp only [lenI,List.length_map,ltI]
 by_cases c1:i < a.Bays.length
 rotate_left
 ·rw [dzF zo,cond_false]; exact does_eq rfl rfl
 obtain ⟨w1,w2⟩:=hr c1
 rw [dzT zo,cond_true,getI_nat,List.getElem?_eq_getElem c1]
 simp only [obs,w1,opq,eqS,eqI,beq_self_eq_true,Bool.and_self,Bool.not_true,cond_false]
 exact w2
theorem same_gs {n:Nat} {a:GSite} (h1:a.Conductors.length≤1000) (h2:a.Owners.length≤1000) (h3:a.Contracts.length≤1000) (h4:a.Chargers.length≤1000) (h5:a.Bays.length≤1000) (hn:2000≤n):g_ref04_Same_j8 n a a=some true:=by
 unfold g_ref04_Same_j8
 have:=does_idx (B:=fun rec i=>g_ref04_Same_l13 n a a rec i) (n:=n) (L:=a.Chargers.length) (fun i r=>r=true) zo (fun rec i hi hr=>?_) 0 zo zo
 ·obtain ⟨r,e,rfl⟩:=this
  exact e
 unfold g_ref04_Same_l13
 simp only [lenI,List.length_map,ltI]
 by_cases c1:i < a.Chargers.length
 rotate_left
 ·rw [dzF zo,cond_false]; exact does_eq (same_bs h1 h2 h3 h4 h5 hn) rfl
 obtain ⟨w1,w2⟩:=hr c1
 rw [dzT zo,cond_true,getI_nat,List.getElem?_eq_getElem c1]
 simp only [obs,w1,opq,eqS,eqI,beq_self_eq_true,Bool.and_self,Bool.not_true,cond_false]
 exact w2
theorem same_ks {n:Nat} {a:GSite} (h1:a.Conductors.length≤1000) (h2:a.Owners.length≤1000) (h3:a.Contracts.length≤1000) (h4:a.Chargers.length≤1000) (h5:a.Bays.length≤1000) (hn:2000≤n):g_ref04_Same_j7 n a a=some true:=by
 unfold g_ref04_Same_j7
 have:=does_idx (B:=fun rec i=>g_ref04_Same_l16 n a a rec i) (n:=n) (L:=a.Contracts.length) (fun i r=>r=true) zo (fun rec i hi hr=>?_) 0 zo zo
 ·obtain ⟨r,e,rfl⟩:=this
  exact e
 unfold g_ref04_Same_l16
 simp only [lenI,List.length_map,ltI]
 by_cases c1:i < a.Contracts.length
 rotate_left
 ·rw [dzF zo,cond_false]; exact does_eq (same_gs h1 h2 h3 h4 h5 hn) rfl
 obtain ⟨w1,w2⟩:=hr c1
 rw [dzT zo,cond_true,getI_nat,List.getElem?_eq_getElem c1]
 simp only [obs,w1,opq,eqS,eqI,beq_self_eq_true,Bool.and_self,Bool.not_true,cond_false]
 exact w2
theorem same_os {n:Nat} {a:GSite} (h1:a.Conductors.length≤1000) (h2:a.Owners.length≤1000) (h3:a.Contracts.length≤1000) (h4:a.Chargers.length≤1000) (h5:a.Bays.length≤1000) (hn:2000≤n):g_ref04_Same_j6 n a a=some true:=by
 unfold g_ref04_Same_j6
 have:=does_idx (B:=fun rec i=>g_ref04_Same_l19 n a a rec i) (n:=n) (L:=a.Owners.length) (fun i r=>r=true) zo (fun rec i hi hr=>?_) 0 zo zo
 ·obtain ⟨r,e,rfl⟩:=this
  exact e
 unfold g_ref04_Same_l19
 simp only [lenI,List.length_map,ltI]
 by_cases c1:i < a.Owners.length
 rotate_left
 ·rw [dzF zo,cond_false]; exact does_eq (same_ks h1 h2 h3 h4 h5 hn) rfl
 obtain ⟨w1,w2⟩:=hr c1
 rw [dzT zo,cond_true,getI_nat,List.getElem?_eq_getElem c1]
 simp only [obs,w1,opq,eqS,beq_self_eq_true,Bool.and_self,Bool.not_true,cond_false]
 exact w2
theorem same_cs {n:Nat} {a:GSite} (h1:a.Conductors.length≤1000) (h2:a.Owners.length≤1000) (h3:a.Contracts.length≤1000) (h4:a.Chargers.length≤1000) (h5:a.Bays.length≤1000) (hn:2000≤n):loopN (fun rec i=>g_ref04_Same_l22 n a a rec i) n 0=some true:=by
 have:=does_idx (B:=fun rec i=>g_ref04_Same_l22 n a a rec i) (n:=n) (L:=a.Conductors.length) (fun i r=>r=true) zo (fun rec i hi hr=>?_) 0 zo zo
 ·obtain ⟨r,e,rfl⟩:=this
  exact e
 unfold g_ref04_Same_l22
 simp only [lenI,List.length_map,ltI]
 by_cases c1:i < a.Conductors.length
 rotate_left
 ·rw [dzF zo,cond_false]; exact does_eq (same_os h1 h2 h3 h4 h5 hn) rfl
 obtain ⟨w1,w2⟩:=hr c1
 rw [dzT zo,cond_true,getI_nat,List.getElem?_eq_getElem c1]
 simp only [obs,w1,opq,eqS,eqI,beq_self_eq_true,Bool.and_self,Bool.not_true,cond_false]
 exact w2
theorem same_refl {n:Nat} {a:GSite} (h1:a.Conductors.length≤1000) (h2:a.Owners.length≤1000) (h3:a.Contracts.length≤1000) (h4:a.Chargers.length≤1000) (h5:a.Bays.length≤1000) (hn:2000≤n):g_ref04_Same n a a=some true:=by
 unfold g_ref04_Same
 simp only [eqI,beq_self_eq_true,Bool.not_true,cond_false,obs]
 exact same_cs h1 h2 h3 h4 h5 hn
theorem decl_nm2 {y:GN} {q:SQ} {s:BS} {m:HasM}:declF y q { s with nm:=m }={ declF y q s with nm:=m }:=by
 unfold declF
 by_cases c1:y.N=1
 ·simp only [if_pos c1]; rfl
 simp only [if_neg c1]
 by_cases c2:y.N=2
 ·simp only [if_pos c2]; rfl
 simp only [if_neg c2]
 by_cases c3:y.N=3
 ·simp only [if_pos c3]; rfl
 simp only [if_neg c3]
 by_cases c4:y.N=4
 ·simp only [if_pos c4]; rfl
 simp only [if_neg c4]
 by_cases c5:y.N=5
 ·simp only [if_pos c5]; rfl
 simp only [if_neg c5]
 by_cases c6:y.N=6
 ·simp only [if_pos c6]; rfl
 simp only [if_neg c6]; rfl
theorem sg_set (s k:List UInt8):∀ m:List (List UInt8 × Bool),mgetD me_msb s false (mset me_msb k true m)=(mgetD me_msb s false m||(s == k))
 | []=>by
  unfold mset mgetD mget mget me_msb eqS
  by_cases h:s=k
  ·subst h; simp
  ·rw [show (s == k)=false from by simpa using h]; rfl
 | (q,w) :: m=>by
  have ih:=sg_set s k m
  unfold mgetD at ih ⊢
  unfold mset
  unfold me_msb eqS at ih ⊢
  by_cases h:k=q
  ·subst h
   rw [beq_self_eq_true,cond_true]
   unfold mget
   by_cases h2:s=k
   ·subst h2; simp
   ·rw [show (s == k)=false from by simpa using h2]; simp
  ·rw [show (k == q)=false from by simpa using h,cond_false]
   unfold mget
   by_cases h2:s=q
   ·subst h2
    rw [beq_self_eq_true,cond_true,cond_true,show (s == k)=false from by simpa using fun e=>h e.symm,Bool.or_false]
   ·rw [show (s == q)=false from by simpa using h2,cond_false,cond_false]
    exact ih
theorem has_set (s k:List UInt8) (m:HasM):hasN (mset me_msb k true m) s=(hasN m s||(s == k)):=sg_set s k m
theorem tariffs_run:∀ {l:List GN} {s:BS} {m:HasM},(∀ w,hasN m w=true→hasN s.nm w=true)→(runF l s).dg=[]→∃ m',runF (l.filter fun y=>!eqI y.N 7) { s with nm:=m }={ runF l s with nm:=m' }
 | [],s,m,_,_=>⟨m,rfl⟩
 | y :: l,s,m,hm,h=>by
  obtain ⟨h1,h2⟩:=good_cons h
  rw [h2] at h ⊢
  obtain ⟨g1,g2⟩:=good_step h1
  have hs:s.dg=[]:=nil_of step_grow.1 h1
  have hnm:=step_nm (y:=y) (s:=s)
  rw [List.filter_cons]
  rcases g2 with ⟨g2,g3⟩ | ⟨g2,g3,q,g4,g5⟩
  ·rw [if_neg (by simp [eqI_d,g2])]
   rw [g3] at h ⊢
   have e:({ markF y s with nm:=m }:BS)={ s with nm:=m }:=by simp [markF,eqI_d,g2]
   obtain ⟨m',e2⟩:=tariffs_run (l:=l) (s:=markF y s) (m:=m) (fun w hw=>by
    show hasN (mset me_msb y.Name true s.nm) w=true
    rw [has_set,hm w hw,Bool.true_or]) h
   rw [e] at e2
   exact ⟨m',e2⟩
  ·rw [if_pos (by simp [eqI_d,g2])]
   have h4:stepF y { s with nm:=m }={ stepF y s with nm:=mset me_msb y.Name true m }:=by
    rw [g5,step_good (s:={ s with nm:=m }) (q:=q) ?_ g2 g3 g4]
    ·exact decl_nm2 (s:=markF y s)
    ·unfold twB at g1 ⊢
     simp only [Bool.or_eq_false_iff] at g1 ⊢
     refine ⟨?_,g1.2⟩
     cases hq:hasN m y.Name
     ·rfl
     ·rw [hm _ hq] at g1; cases g1.1
   rw [good_mk (s:={ s with nm:=m }) (by rw [h4]; exact h1),h4]
   exact tariffs_run (l:=l) (s:=stepF y s) (fun w hw=>by
    rw [hnm,has_set]
    rw [has_set] at hw
    simp only [Bool.or_eq_true] at hw ⊢
    exact hw.imp_left (hm w)) h
theorem rm2 {α:Type} {l:List α} (hl:l.length≤1600):roomB l.length 64=true:=by
 unfold roomB
 rw [decide_eq_true_eq]
 omega
theorem gd_nil {l:List GDg} (h:ltI 0 (lenI (List.map GDg.cs l))=false):l=[]:=by
 cases l with
 | nil=>rfl
 | cons a l =>
  simp only [lenI,ltI,List.length_map,zLC] at h
  rw [dzT zo] at h
  cases h
theorem same_site {n:Nat} {s:BS} (h:s.fit) (hn:2000≤n):g_ref04_Same n s.site s.site=some true:=by
 obtain ⟨h1,h2,h3,h4,h5⟩:=h
 exact same_refl (by simp only [BS.site]; omega) (by simp only [BS.site]; omega) (by simp only [BS.site]; omega) (by simp only [BS.site]; omega) (by simp only [BS.site]; omega) hn
theorem s_build_tot {n d:Nat} {x:GN} (ht:treeD d x) (hn:9223372036854776000≤n) (hs:1+(x.Kids.length:Int)+swL (kidsL x.Kids)≤400):Tot (g_site_Build n x):=tot_eq (s_Build ht hn zo)
theorem tariffs_gen {n d:Nat} {x:GN} (ht:treeD d x) (hn:9223372036854776000≤n) (hh:g_law04_head n=some true):g_law04_SiteTariffs n x=some true:=by
 obtain ⟨b,hb,hfew⟩:=few4 ht hn
 unfold g_law04_SiteTariffs
 rw [hh,obs,hb,obs]
 cases b
 ·rfl
 have hs:=hfew rfl
 simp only [Bool.not_true,cond_false]
 obtain ⟨r,hr,_⟩:=s_build_tot ht hn hs
 rw [hr,obs]
 cases hd:ltI 0 (lenI (List.map GDg.cs r.2))
 rotate_left
 ·rfl
 obtain ⟨hv,hdg,hfd,hsite⟩:=build_good ht hn hs hr (gd_nil hd)
 rw [cond_false]
 obtain ⟨e,rfl,hl,_,hk⟩:=tree_kids ht
 have hK:=kidsL_len hk
 have hsw:=sw_nonneg (kidsL x.Kids)
 have hloop:Does (loopN (fun rec (v:Int × List (List PV))=>g_law04_SiteTariffs_l5 x rec v.1 v.2) n (0,[])) (fun r=>r=((kidsL x.Kids).filter fun y=>!eqI y.N 7).map GN.cs):=by
  have:=does_loop (n:=n) (B:=fun rec (v:Int × List (List PV))=>g_law04_SiteTariffs_l5 x rec v.1 v.2) (v:=(0,[])) (Q:=fun v r=>r=v.2++((kidsL (x.Kids.drop v.1.toNat)).filter fun y=>!eqI y.N 7).map GN.cs) (fun v=>x.Kids.length - v.1.toNat) (fun v=>(∃ i:Nat,v.1=(i:Int)∧i≤x.Kids.length)∧v.2.length≤v.1.toNat) ?_ ⟨⟨0,rfl,by omega⟩,by simp⟩ (by simp only; omega)
  ·exact this
  rintro rec ⟨q,a⟩ ⟨⟨i,hi,hil⟩,hal⟩ hrec
  simp only at hi hal hrec ⊢
  subst hi
  unfold g_law04_SiteTariffs_l5
  simp only [lenI,List.length_map,ltI,Int.toNat_natCast] at hal hrec ⊢
  by_cases c1:i < x.Kids.length
  rotate_left
  ·rw [dzF zo,cond_false,kidL_end _ zo]; exact does_some zq
  obtain ⟨y,hy,hty,hc⟩:=kidL_at hk c1
  rw [dzT zo,cond_true,hy,obs,hc,List.filter_cons,wi_id (x:=(i:Int)+1) zo zo]
  cases h7:eqI y.N 7
  ·simp only [Bool.not_false,cond_true,if_true]
   rw [rm2 (by simp; omega),cond_true]
   refine does_mono (hrec ((i:Int)+1,a++[GN.cs y]) ⟨⟨i+1,by simp,c1⟩,by simp; omega⟩ (by simp only; omega)) ?_
   intro r hr
   simp only [show ((i:Int)+1).toNat=i+1 by omega] at hr
   rw [hr]; simp
  ·simp only [Bool.not_true,cond_false]
   refine does_mono (hrec ((i:Int)+1,a) ⟨⟨i+1,by simp,c1⟩,by simp only; omega⟩ (by simp only; omega)) ?_
   intro r hr
   simp only [show ((i:Int)+1).toNat=i+1 by omega] at hr
   rw [hr]; simp
 obtain ⟨j,hj,rfl⟩:=hloop
 rw [hj,obs]
 have hsub:((kidsL x.Kids).filter fun y=>!eqI y.N 7).Sublist (kidsL x.Kids):=List.filter_sublist
 obtain ⟨k1,k2⟩:=kids_map (l:=(kidsL x.Kids).filter fun y=>!eqI y.N 7) (fun y hy=>kidsL_mem hk y (hsub.mem hy))
 have hlen:=hsub.length_le
 have htm:=tree_with ht (l:=((kidsL x.Kids).filter fun y=>!eqI y.N 7).map GN.cs) (by simp only [List.length_map]; omega) k2
 have hswm:=sw_sub hsub
 obtain ⟨m',hrun⟩:=tariffs_run (l:=kidsL x.Kids) (s:=bs0) (m:=[]) (fun w h=>h) hdg
 have hrun:runF ((kidsL x.Kids).filter fun y=>!eqI y.N 7) bs0={ runF (kidsL x.Kids) bs0 with nm:=m' }:=hrun
 have hB:=build_mk htm hn (by simp only [List.length_map,k1]; omega) (valid_sub hv (by rw [k1]; exact hsub)) (by simp only [k1]; rw [hrun]; exact hdg)
 simp only [k1,hrun,hfd,if_true] at hB
 rw [hB,obs,cond_true]
 have hS:=same_site (n:=n) (run_fit (l:=kidsL x.Kids) fit0) zo
 simp only [hsite,List.map_nil]
 show cond (eqI (lenI (α:=List PV) []) 0) ((g_ref04_Same n (runF (kidsL x.Kids) bs0).site (runF (kidsL x.Kids) bs0).site).bind fun r10=>some r10) (some false)=some true
 rw [hS]; rfl
theorem tariffs04_plain {d:Nat} {x:GN} (ht:treeD d x):g_law04_SiteTariffs 36893488147419103232 x=some true:=tariffs_gen ht zo head04
end Go.Proofs
namespace Go.Proofs.Yteakahdpnpecoaa
open Go Go.Abs Go.Proofs
theorem tree_of:∀ (d:Nat) (x:GN),GN.wfd d x→treeD d x
 | 0,_,h=>h.elim
 | d+1,x,h=>by
  obtain ⟨h0,h1,h2,h3,h4⟩:=h
  exact ⟨h0,h2,h3,h1,h4.1,fun k hk=>by
   obtain ⟨y,e,g⟩:=h4.2 k hk
   exact ⟨y,by rw [e]; exact of_cs' _ _ _ _ _,tree_of d y g⟩⟩
theorem siteTariffs_holds:Rows.SiteTariffsSaid :=
 siteTariffs_said (fun x h=>by
  obtain ⟨d,h⟩:=h
  exact ⟨_,tariffs04_plain (tree_of d x h)⟩)
end Go.Proofs.Yteakahdpnpecoaa
