/-
  A part of the proof of a statement of the seat YthplnakbbehpiaaGreatDoor.
-/
import Derived.Test.YthplnakbbehpiaaGreatDoorPin05
set_option linter.unusedVariables false
namespace Go.Proofs
open Go Go.Abs
set_option maxRecDepth 100000
theorem pc_arts:∀ {l:List (List PV)},partK 4 l→Pc false ((kidsL l).flatMap cT++[125,10]) (fun ts=>∃ ys,Arts ts ys∧ys.map (stC 2)=l.map (stC 2))
 | [],_=>pc_mono pc_end fun l h=>by obtain ⟨e,rfl,he⟩:=h; exact ⟨[], .nil he,rfl⟩
 | c :: l,h=>by
  obtain ⟨y,e,h1,h2,h3⟩:=h c zq
  have ih:=pc_arts (l:=l) fun z hz=>h z (by simp [hz])
  obtain ⟨q1,q2,_,_⟩:=npart_s h1
  have hat:artNB y.Name=true:=by
   rcases q1 with ⟨q1,_⟩ | ⟨_,q1⟩
   ·omega
   ·exact q1
  obtain ⟨g1,g2⟩:=tk_art hat
  rw [kids_cons e,List.flatMap_cons,List.append_assoc]
  have ha:cT y=[32,32]++(y.Name++(vsT y.Kids++[59,10])):=by unfold cT; rw [if_pos h2]; rfl
  have hp:Pc false (cT y) (fun ts=>∃ z,ArtT ts z∧stC 2 (GN.cs z)=stC 2 c):=by
   rw [ha]
   refine pc_gapA rfl (pc_app (pc_tok g1 g2) (pc_app (pc_vals (b:=true) (shp_val h3 fun z hz=>by have:=q2 z hz; rw [h2] at this; exact this)) pc_semi (hd_cons (by decide)) (.inr zq) (R:=fun ts=>∃ v x,ts=v++[x]∧(∀ t ∈ v,okV true t=true)∧(v.map vcs).map (stC 1)=y.Kids.map (stC 1)∧isPu 59 x=true) ?_) (hd_app (hd_vs _) fun _=>hd_cons (by decide)) (.inr zq) ?_)
   ·rintro l1 l2 ⟨k1,k2⟩ ⟨x,rfl,k3⟩
    exact ⟨l1,x,rfl,k1,k2,k3⟩
   ·rintro l1 l2 ⟨t,rfl,k1,k2,_⟩ ⟨v,x,rfl,k3,k4,k5⟩
    refine ⟨_,ArtT.mk k1 (by rw [k2,ark_eq]; exact hat) k3 k5,?_⟩
    rw [stC_cs,stN_s,stC_of e,stN_s,h2,npart_N h1]
    simp only [k2,k4]
  refine pc_appN hp ih ?_
  rintro l1 l2 ⟨z,m1,m2⟩ ⟨ys,m3,m4⟩
  exact ⟨_,Arts.cons m1 m3,by rw [List.map_cons,List.map_cons,m2,m4]⟩
theorem kids_split {n7:Bool}:∀ {l:List (List PV)} {p:Bool},(∀ c ∈ l,∃ y,GN.of c=some y∧shp 2 y)→itemK n7 p (kidsL l)=true→∃ l1 l2,l=l1++l2∧partK 3 l1∧partK 4 l2∧(p=true→l1=[])∧(n7=false→l2=[])
 | [],p,_,_=>⟨[],[],rfl,fun c hc=>(by cases hc),fun c hc=>(by cases hc),fun _=>rfl,fun _=>rfl⟩
 | c :: l,p,h,hi=>by
  obtain ⟨y,e,hy⟩:=h c zq
  rw [kids_cons e] at hi
  simp only [itemK,bae,Bool.not_eq_true',Bool.and_eq_false_iff] at hi
  obtain ⟨⟨⟨i1,i2⟩,i3⟩,i4⟩:=hi
  obtain ⟨l1,l2,rfl,j1,j2,j3,j4⟩:=kids_split (l:=l) (fun z hz=>h z (by simp [hz])) i4
  obtain ⟨q1,_⟩:=npart_s i1
  by_cases c4:y.Kind=4
  ·have hn7:n7=true:=by
    rcases i2 with i2 | i2
    ·exact absurd c4 (of_decide_eq_false i2)
    ·simpa using i2
   obtain rfl:=j3 (dzT c4)
   refine ⟨[],c :: l2,rfl,fun c hc=>(by cases hc),?_,fun _=>rfl,fun hh=>(by rw [hn7] at hh; cases hh)⟩
   intro z hz
   rcases List.mem_cons.1 hz with rfl | hz
   ·exact ⟨y,e,i1,c4,hy⟩
   ·exact j2 z hz
  ·have c3:y.Kind=3:=by
    rcases q1 with ⟨q1,_⟩ | ⟨q1,_⟩
    ·exact q1
    ·exact absurd q1 c4
   refine ⟨c :: l1,l2,rfl,?_,j2,fun hp=>?_,j4⟩
   ·intro z hz
    rcases List.mem_cons.1 hz with rfl | hz
    ·exact ⟨y,e,i1,c3,hy⟩
    ·exact j1 z hz
   ·rcases i3 with i3 | i3
    ·exact absurd c3 (of_decide_eq_false i3)
    ·rw [hp] at i3; cases i3
theorem flat_no {k:Int} {f:GN→List UInt8} (hf:∀ y,y.Kind=k→f y=[]):∀ {l:List (List PV)},partK k l→(kidsL l).flatMap f=[]
 | [],_=>rfl
 | c :: l,h=>by
  obtain ⟨y,e,_,h2,_⟩:=h c zq
  rw [kids_cons e,List.flatMap_cons,hf y h2,flat_no hf fun z hz=>h z (by simp [hz])]
  rfl
theorem kidsL_app (a b:List (List PV)):kidsL (a++b)=kidsL a++kidsL b:=List.filterMap_append
theorem pc_item {x:GN} (h:itemB x=true) (hs:shp 3 x):Pc false (iT x) (fun ts=>∃ z,ItemT ts z∧stC 3 (GN.cs z)=GN.cs (stN 3 x)):=by
 obtain ⟨h1,h2,h3,h4,h5⟩:=item_s h
 obtain ⟨_,hk⟩:=(shp_s 2 x ▸ hs)
 obtain ⟨l1,l2,el,p1,p2,_,p4⟩:=kids_split hk (itemB_K h)
 obtain ⟨g1,g2,g3⟩:=tk_kind h2 h3
 obtain ⟨m1,m2,m3⟩:=tk_name h4
 have hA:(kidsL x.Kids).flatMap aT=(kidsL l1).flatMap aT:=by
  rw [el,kidsL_app,List.flatMap_append,flat_no (f:=aT) (fun y hy=>by unfold aT; rw [if_neg zo]) p2,List.append_nil]
 have hC:(kidsL x.Kids).flatMap cT=(kidsL l2).flatMap cT:=by
  rw [el,kidsL_app,List.flatMap_append,flat_no (f:=cT) (fun y hy=>by unfold cT; rw [if_neg zo]) p1,List.nil_append]
 have hhd:hdOk ((kidsL l1).flatMap aT):=hd_flat fun y _=>aT_hd y
 unfold iT
 rw [hA,hC]
 by_cases c:x.N=7
 ·rw [if_pos c]
  have hlast:Pc false ((kidsL l1).flatMap aT++([32,123,10]++((kidsL l2).flatMap cT++[125,10]))) (fun ts=>∃ a e b xs ys,ts=a++e :: b∧Atts a xs∧isPu 123 e=true∧Arts b ys∧xs.map (stC 2)=l1.map (stC 2)∧ys.map (stC 2)=l2.map (stC 2)):=by
   refine pc_app (pc_atts p1) (pc_appN pc_open (pc_arts p2) (R:=fun ts=>∃ e b ys,ts=e :: b∧isPu 123 e=true∧Arts b ys∧ys.map (stC 2)=l2.map (stC 2)) ?_) (hd_32 _) (.inr zq) ?_
   ·rintro a b ⟨e,rfl,k1⟩ ⟨ys,k2,k3⟩
    exact ⟨e,b,ys,rfl,k1,k2,k3⟩
   ·rintro a b ⟨xs,k1,k2⟩ ⟨e,b',ys,rfl,k3,k4,k5⟩
    exact ⟨a,e,b',xs,ys,rfl,k1,k3,k4,k2,k5⟩
  refine pc_app (pc_tok g1 g2) (pc_gapA (g:=[32]) rfl (pc_app (pc_tok m1 m2) hlast (hd_app hhd fun _=>hd_32 _) (.inr zq) (R:=fun ts=>∃ m a e b xs ys,ts=m :: (a++e :: b)∧m.Kind=1∧m.Text=x.Name∧Atts a xs∧isPu 123 e=true∧Arts b ys∧xs.map (stC 2)=l1.map (stC 2)∧ys.map (stC 2)=l2.map (stC 2)) ?_)) (hd_32 _) (.inr zq) ?_
  ·rintro a b ⟨m,rfl,k1,k2,_⟩ ⟨a',e,b',xs,ys,rfl,q⟩
   exact ⟨m,a',e,b',xs,ys,rfl,k1,k2,q⟩
  ·rintro a b ⟨t,rfl,k1,k2,_⟩ ⟨m,a',e,b',xs,ys,rfl,k3,k4,k5,k6,k7,k8,k9⟩
   refine ⟨_,ItemT.tariff k1 (by rw [k2,g3,c]) k3 (by rw [k4]; exact m3) k5 k6 k7,?_⟩
   rw [stC_cs,stN_s,stN_s,h1,c,el,List.map_append,List.map_append,k8,k9,k4]
 ·rw [if_neg c]
  obtain rfl:=p4 (dzF c)
  rw [List.append_nil] at el
  have hlast:Pc false ((kidsL l1).flatMap aT++[59,10]) (fun ts=>∃ a e xs,ts=a++[e]∧Atts a xs∧isPu 59 e=true∧xs.map (stC 2)=l1.map (stC 2)):=by
   refine pc_app (pc_atts p1) pc_semi (hd_cons (by decide)) (.inr zq) ?_
   rintro a b ⟨xs,k1,k2⟩ ⟨e,rfl,k3⟩
   exact ⟨a,e,xs,rfl,k1,k3,k2⟩
  refine pc_app (pc_tok g1 g2) (pc_gapA (g:=[32]) rfl (pc_app (pc_tok m1 m2) hlast (hd_app hhd fun _=>hd_cons (by decide)) (.inr zq) (R:=fun ts=>∃ m a e xs,ts=m :: (a++[e])∧m.Kind=1∧m.Text=x.Name∧Atts a xs∧isPu 59 e=true∧xs.map (stC 2)=l1.map (stC 2)) ?_)) (hd_32 _) (.inr zq) ?_
  ·rintro a b ⟨m,rfl,k1,k2,_⟩ ⟨a',e,xs,rfl,q⟩
   exact ⟨m,a',e,xs,rfl,k1,k2,q⟩
  ·rintro a b ⟨t,rfl,k1,k2,_⟩ ⟨m,a',e,xs,rfl,k3,k4,k5,k6,k7⟩
   refine ⟨_,ItemT.plain k1 (by rw [k2,g3]; omega) (by rw [k2,g3]; exact c) k3 (by rw [k4]; exact m3) k5 k6,?_⟩
   rw [stC_cs,stN_s,stN_s,h1,el,k7,k4,k2,g3]
theorem pc_items:∀ {l:List (List PV)},(∀ c ∈ l,∃ y,GN.of c=some y∧itemB y=true∧shp 3 y)→Pc false ((kidsL l).flatMap iT) (fun ts=>∃ xs,Items ts xs∧xs.map (stC 3)=l.map (stC 3))
 | [],_=>fun p r l' _ hl=>⟨[],⟨[], .nil,rfl⟩,by simpa [kidsL] using hl⟩
 | c :: l,h=>by
  obtain ⟨y,e,h1,h2⟩:=h c zq
  have ih:=pc_items (l:=l) fun z hz=>h z (by simp [hz])
  rw [kids_cons e,List.flatMap_cons]
  refine pc_appN (pc_item h1 h2) ih ?_
  rintro a b ⟨z,k1,k2⟩ ⟨xs,k3,k4⟩
  exact ⟨_,Items.cons k1 k3,by rw [List.map_cons,List.map_cons,k2,k4,stC_of e]⟩
theorem src_lex {x:GN} (h:okT x=true) (hs:shp 4 x):∃ T xs,Lx 0 (sT x) T∧Items T xs∧xs.map (stC 3)=x.Kids.map (stC 3):=by
 obtain ⟨_,_,_,h4,_⟩:=okT_s h
 obtain ⟨_,hk⟩:=(shp_s 3 x ▸ hs)
 have hp:=pc_items (l:=x.Kids) fun c hc=>by
  obtain ⟨y,e,hy⟩:=hk c hc
  exact ⟨y,e,(h4 y (List.mem_filterMap.2 ⟨c,hc,e⟩)).1,hy⟩
 obtain ⟨T,⟨xs,k1,k2⟩,k3⟩:=hp 0 [] [] (fun h=>by cases h) (.nil (b:=false) rfl)
 rw [List.append_nil,List.append_nil] at k3
 exact ⟨T,xs,k3,k1,k2⟩
def wfT (t:GTk):Prop:=t.Text.length≤10000∧(0≤t.N∧t.N≤1000000)∧(0≤t.At∧t.At≤100000)∧(t.Kind=1→t.N=0)∧(t.Kind=2→t.Text=[])∧(t.Kind=3→t.N=0)
theorem tk_wf {t x:List UInt8} {k v:Int} (hw:wholeT t=true) (h:tkOf t=.ok (k,x,v)):x.length≤t.length∧(0≤v∧v≤1000000)∧(k=1→v=0)∧(k=2→x=[])∧(k=3→v=0):=by
 have hv:=tok_text hw h
 cases t with
 | nil=>cases hw
 | cons c r =>
  unfold tkOf at h
  simp only at h
  split at h
  ·split at h
   ·cases h
   ·simp only [Except.ok.injEq,Prod.mk.injEq] at h
    obtain ⟨rfl,rfl,rfl⟩:=h
    exact ⟨Nat.le_refl _,by omega,fun _=>rfl,fun h=>by omega,fun h=>by omega⟩
  ·split at h
   ·split at h
    ·cases h
    cases hv2:valL 0 (c :: r) with
    | none=>rw [hv2] at h; cases h
    | some u =>
     rw [hv2] at h
     simp only [Except.ok.injEq,Prod.mk.injEq] at h
     obtain ⟨rfl,rfl,rfl⟩:=h
     rcases hv with hv | hv
     ·exact ⟨by simp,hv.2.2,fun h=>by omega,fun _=>rfl,fun h=>by omega⟩
     ·exact absurd rfl hv.1
   ·split at h
    ·simp only [Except.ok.injEq,Prod.mk.injEq] at h
     obtain ⟨rfl,rfl,rfl⟩:=h
     exact ⟨Nat.le_refl _,by omega,fun h=>by omega,fun h=>by omega,fun _=>rfl⟩
    ·cases h
theorem Lx_wf {p:Nat} {s:List UInt8} {l:List GTk} (h:Lx p s l):p+s.length≤9000→∀ t ∈ l,wfT t:=by
 induction h with
 | nil hg=>intro _ t ht; cases ht
 | @cons p g t r l k v x hg hw ht hst hl ih =>
  intro hp z hz
  simp only [zLA] at hp
  rcases List.mem_cons.1 hz with rfl | hz
  ·obtain ⟨h1,h2,h3,h4,h5⟩:=tk_wf hw ht
   exact ⟨by simp only; omega,h2,by simp only; omega,h3,h4,h5⟩
  ·exact ih zo z hz
theorem kin_word {w:List UInt8} (h:kinB w ≠ 0):kindW (kinB w)=w∧1≤kinB w∧kinB w≤7:=by
 unfold kinB g_p_kindOf at h ⊢
 simp only [eqS] at h ⊢
 by_cases c1:w=[102,101,101,100,101,114]
 ·subst c1; exact ⟨rfl,by decide,by decide⟩
 by_cases c2:w=[99,97,98,108,101]
 ·subst c2; exact ⟨rfl,by decide,by decide⟩
 by_cases c3:w=[111,119,110,101,114]
 ·subst c3; exact ⟨rfl,by decide,by decide⟩
 by_cases c4:w=[99,111,110,116,114,97,99,116]
 ·subst c4; exact ⟨rfl,by decide,by decide⟩
 by_cases c5:w=[99,104,97,114,103,101,114]
 ·subst c5; exact ⟨rfl,by decide,by decide⟩
 by_cases c6:w=[98,97,121]
 ·subst c6; exact ⟨rfl,by decide,by decide⟩
 by_cases c7:w=[116,97,114,105,102,102]
 ·subst c7; exact ⟨rfl,by decide,by decide⟩
 ·refine absurd ?_ h
  rw [beq_false_of_ne c1,beq_false_of_ne c2,beq_false_of_ne c3,beq_false_of_ne c4,beq_false_of_ne c5,beq_false_of_ne c6,beq_false_of_ne c7]
  rfl
theorem mk_D {d:Nat} {k n a:Int} {s:List UInt8} {l:List (List PV)} (hk:0≤k∧k≤10) (hn:0≤n∧n≤1000000) (ha:0≤a∧a≤100000) (hs:s.length≤10000) (hl:l.length≤10000) (h:kidsD d l):treeD (d+1) ⟨k,s,n,a,l⟩ :=
 ⟨⟨by simp only; omega,by simp only; omega⟩,⟨by simp only; omega,by simp only; omega⟩,⟨by simp only; omega,by simp only; omega⟩,by simp only [maxLen]; omega,by simp only [maxLen]; omega,h⟩
theorem kd_cons {d:Nat} {x:GN} {xs:List (List PV)} (h:treeD d x) (h':kidsD d xs):kidsD d (GN.cs x :: xs):=by
 intro k hk
 rcases List.mem_cons.1 hk with rfl | hk
 ·exact ⟨x,of_cs1 x,h⟩
 ·exact h' k hk
theorem kd_app {d:Nat} {xs ys:List (List PV)} (h:kidsD d xs) (h':kidsD d ys):kidsD d (xs++ys):=by
 intro k hk
 rcases List.mem_append.1 hk with hk | hk
 ·exact h k hk
 ·exact h' k hk
theorem vals_D {v:List GTk} (h:∀ t ∈ v,wfT t):kidsD 1 (v.map vcs):=by
 intro k hk
 obtain ⟨t,ht,rfl⟩:=List.mem_map.1 hk
 obtain ⟨h1,h2,h3,_⟩:=h t ht
 refine ⟨vnode t,of_cs1 _,?_⟩
 unfold vnode
 split
 ·exact mk_D zo h2 h3 zq zq fun k hk=>by cases hk
 ·exact mk_D zo zo h3 h1 zq fun k hk=>by cases hk
theorem ArtT_D {a:List GTk} {x:GN} (h:ArtT a x) (hl:a.length≤10000) (hb:∀ t ∈ a,wfT t):treeD 2 x:=by
 cases h with
 | @mk t e v h1 h2 h3 h4 =>
  have ht:=hb t zq
  exact mk_D zo zo ht.2.2.1 ht.1 (by simp at hl; simp; omega) (vals_D fun z hz=>hb z (by simp [hz]))
theorem Atts_D {a:List GTk} {xs:List (List PV)} (h:Atts a xs):a.length≤10000→(∀ t ∈ a,wfT t)→kidsD 2 xs∧xs.length≤a.length:=by
 induction h with
 | nil=>intro _ _; exact ⟨fun k hk=>(by cases hk),Nat.le_refl _⟩
 | @cons t v r xs h1 h2 h3 h4 ih =>
  intro hl hb
  simp only [zLC,zLA] at hl
  have ht:=hb t zq
  obtain ⟨k1,k2⟩:=ih zo fun z hz=>hb z (by simp [hz])
  exact ⟨kd_cons (mk_D zo zo ht.2.2.1 ht.1 (by simp; omega) (vals_D fun z hz=>hb z (by simp [hz]))) k1,by simp only [zLC,zLA]; omega⟩
theorem Arts_D {a:List GTk} {xs:List (List PV)} (h:Arts a xs):a.length≤10000→(∀ t ∈ a,wfT t)→kidsD 2 xs∧xs.length≤a.length:=by
 induction h with
 | nil=>intro _ _; exact ⟨fun k hk=>(by cases hk),by simp⟩
 | @cons a r x xs h1 h2 ih =>
  intro hl hb
  simp only [zLA] at hl
  have ha:1≤a.length:=by cases h1; simp
  obtain ⟨k1,k2⟩:=ih zo fun z hz=>hb z (by simp [hz])
  exact ⟨kd_cons (ArtT_D h1 zo fun z hz=>hb z (by simp [hz])) k1,by simp only [zLC,zLA]; omega⟩
theorem ItemT_D {a:List GTk} {x:GN} (h:ItemT a x) (hl:a.length≤10000) (hb:∀ t ∈ a,wfT t):treeD 3 x:=by
 cases h with
 | @plain t m e a xs h1 h2 h3 h4 h5 h6 h7 =>
  simp only [zLC,zLA,List.length_nil] at hl
  obtain ⟨k1,k2⟩:=Atts_D h6 zo fun z hz=>hb z (by simp [hz])
  have:=kin_word h2
  exact mk_D zo zo (hb t zq).2.2.1 (hb m zq).1 zo k1
 | @tariff t m e a b xs ys h1 h2 h4 h5 h6 h7 h8 =>
  simp only [zLC,zLA] at hl
  obtain ⟨k1,k2⟩:=Atts_D h6 zo fun z hz=>hb z (by simp [hz])
  obtain ⟨k3,k4⟩:=Arts_D h8 zo fun z hz=>hb z (by simp [hz])
  exact mk_D zo zo (hb t zq).2.2.1 (hb m zq).1 (by simp only [zLA]; omega) (kd_app k1 k3)
theorem Items_D {a:List GTk} {xs:List (List PV)} (h:Items a xs):a.length≤10000→(∀ t ∈ a,wfT t)→kidsD 3 xs∧xs.length≤a.length:=by
 induction h with
 | nil=>intro _ _; exact ⟨fun k hk=>(by cases hk),by simp⟩
 | @cons a r x xs h1 h2 ih =>
  intro hl hb
  simp only [zLA] at hl
  have ha:1≤a.length:=by cases h1 <;> simp
  obtain ⟨k1,k2⟩:=ih zo fun z hz=>hb z (by simp [hz])
  exact ⟨kd_cons (ItemT_D h1 zo fun z hz=>hb z (by simp [hz])) k1,by simp only [zLC,zLA]; omega⟩
theorem src_D {s:List UInt8} {T:List GTk} {xs:List (List PV)} (hs:s.length≤8000) (hT:T.length≤10000) (h:Lx 0 s T) (hI:Items T xs):treeD 4 (srcN xs):=by
 obtain ⟨h1,h2⟩:=Items_D hI hT (Lx_wf h zo)
 exact mk_D zo zo zo zq zo h1
theorem lexF_many:∀ {p:Nat} {s:List UInt8} {l:List GTk},Lx p s l→∀ (f k:Nat),k≤2000→2000 < k+l.length→s.length < f→∃ q,lexF f p s k=.error (2,q):=by
 intro p s l h
 induction h with
 | nil hg=>intro f k h1 h2; simp at h2; omega
 | @cons p g t r l k v x hg hw ht hst hl ih =>
  intro f k' hk1 hk2 hf
  obtain ⟨f,rfl⟩:∃ f',f=f'+1:=⟨f - 1,by omega⟩
  have hN:gapN false (g++(t++r))=g.length:=by rw [gapN_app g _ _ _ hg,whole_gap hw]; rfl
  obtain ⟨c,q,rfl,_⟩:=whole_head hw
  have hd:(g++(c :: q++r)).drop (gapN false (g++(c :: q++r)))=c :: (q++r):=by rw [hN,List.drop_left]; rfl
  have htk:tkT (c :: (q++r))=c :: q:=whole_tk hw hst
  rw [lex_step _ _ _ _ _ _ hd,hN,htk,ht]
  have hdr:(c :: (q++r)).drop (c :: q).length=r:=List.drop_left (l₁:=c :: q)
  simp only [zLA,zLC] at hf hk2
  by_cases c1:k'=2000
  ·rw [if_pos c1]; exact ⟨_,rfl⟩
  obtain ⟨z,hz⟩:=ih f (k'+1) zo zo zo
  rw [hdr,if_neg c1,hz]
  exact ⟨_,rfl⟩
theorem count_ok {n d:Nat} {x:GN} (ht:treeD d x) (hn:9223372036854776000≤n) (h:okT x=true):∃ c,g_ref02_Count n x 1500=some c∧c≤1500:=by
 obtain ⟨c,e,c1,c2,c3,c4⟩:=count_gt 1500 n d x 1500 ht zo zo zo zo
 refine ⟨c,e,?_⟩
 simp only [okT,leI,bae,decide_eq_true_eq] at h
 have h1:=valid_le h.1 d
 by_cases c5:c≤1500
 ·exact c5
 ·have:=c4 zo
  omega
theorem lexS_of {s:List UInt8} {T:List GTk} (h:Lx 0 s T) (hs:s.length≤8000):(T.length≤2000∧lexS s=.ok T)∨∃ q,lexS s=.error (2,q):=by
 by_cases c:T.length≤2000
 ·exact .inl ⟨c,(lexS_iff s T).2 ⟨hs,h,c⟩⟩
 ·obtain ⟨q,e⟩:=lexF_many h (s.length+1) 0 zo zo zo
  refine .inr ⟨q,?_⟩
  unfold lexS
  rw [if_neg zo]
  exact e
theorem read_back {n:Nat} {x:GN} {T:List GTk} {xs:List (List PV)} (hn:9223372036854776000≤n) (hv:okT x=true) (hx:shp 4 x) (hs:(sT x).length≤8000) (hT:lexS (sT x)=.ok T) (h1:Lx 0 (sT x) T) (h2:Items T xs) (h3:xs.map (stC 3)=x.Kids.map (stC 3)) :
  g_p_Parse n (sT x)=some (srcN xs,[])∧treeP 4 (srcN xs)∧treeD 4 (srcN xs)∧stN 4 (srcN xs)=stN 4 x:=by
 have hl:T.length≤2000:=((lexS_iff _ _).1 hT).2.2
 have hP:=src_tree hT h2
 have hD:=src_D hs zo h1 h2
 obtain ⟨k1,k2,k3,_,_⟩:=okT_s hv
 have hst:stN 4 (srcN xs)=stN 4 x:=by
  rw [stN_s,stN_s,k1,k2,k3]
  show (⟨1,[],0,0,xs.map (stC 3)⟩:GN)=_
  rw [h3]
 have hok:okT (srcN xs)=true:=by
  rw [← (src_st (d:=0) (treeP_shp 4 _ hP)).1,hst,(src_st (d:=0) hx).1]
  exact hv
 obtain ⟨c,e,c15⟩:=count_ok hD hn hok
 exact ⟨good_parse zo ⟨hT,h2,c,e,c15⟩,hP,hD,hst⟩
theorem srcT_ok {x:GN} (h:(srcT x).2=0):okT x=true∧(sT x).length≤8000∧srcT x=(sT x,0):=by
 unfold srcT at h ⊢
 cases hv:okT x
 ·rw [hv] at h; cases h
 rw [hv] at h
 by_cases c:8000 < (sT x).length
 ·rw [show ltI 8000 ((sT x).length:Int)=true from dzT zo] at h
  cases h
 ·rw [show ltI 8000 ((sT x).length:Int)=false from dzF zo]
  exact ⟨rfl,by omega,rfl⟩
theorem srcT_cases (x:GN):(srcT x).2=0∨(okT x=true∧srcT x=([],2))∨(okT x=false∧srcT x=([],1)):=by
 unfold srcT
 cases okT x
 ·exact .inr (.inr ⟨rfl,rfl⟩)
 ·cases ltI 8000 ((sT x).length:Int)
  ·exact .inl rfl
  ·exact .inr (.inl ⟨rfl,rfl⟩)
theorem pinverse {n d:Nat} {x:GN} (ht:treeD d x) (hn:9223372036854776000≤n) (hh:g_law03_head n=some true):g_law03_PrinterInverse n x=some true:=by
 unfold g_law03_PrinterInverse
 obtain ⟨b,eb,_⟩:=few16 ht hn
 rw [hh,obs,eb,obs]
 cases b
 ·rfl
 rw [rt_valid2 ht hn,p_Source ht hn]
 simp only [cond_true,obs]
 rcases srcT_cases x with h0 | ⟨hv,h0⟩ | ⟨hv,h0⟩
 rotate_left
 ·rw [hv,h0]; rfl
 ·rw [hv]; rfl
 obtain ⟨hv,hs,h0⟩:=srcT_ok h0
 rw [hv,h0]
 have hx:=valid_shp ht hv
 obtain ⟨T,xs,h1,h2,h3⟩:=src_lex hv hx
 simp only [Bool.not_true,cond_false,eqI_d,decide_true]
 rw [rl_Lex n _ zo]
 rcases lexS_of h1 hs with ⟨hT,hL⟩ | ⟨q,hL⟩
 rotate_left
 ·rw [hL]; rfl
 obtain ⟨g1,g2,g3,g4⟩:=read_back hn hv hx hs hL h1 h2 h3
 rw [hL,g1]
 simp only [resL,obs,decide_true,Bool.not_true,cond_false,lenI,List.map_nil,List.length_nil]
 rw [strip_ok 4 n _ (treeP_shp 4 _ g2) zo,strip_ok 4 n x hx zo,g4]
 simp only [obs]
 rw [same_refl 4 n _ (st_treeP 4 x hx) zo]
 rfl
theorem pinverse_plain {d:Nat} (x:GN) (ht:treeD d x):∃ n,g_law03_PrinterInverse n x=some true:=⟨_,pinverse ht fuel_03 head_03⟩
end Go.Proofs
namespace Go.Proofs.YthplnakbbehpiaaGreatDoor
open Go Go.Abs Go.Proofs
theorem tree_of:∀ (d:Nat) (x:GN),GN.wfd d x→treeD d x
 | 0,_,h=>h.elim
 | d+1,x,h=>by
  obtain ⟨h0,h1,h2,h3,h4⟩:=h
  exact ⟨h0,h2,h3,h1,h4.1,fun k hk=>by
   obtain ⟨y,e,g⟩:=h4.2 k hk
   exact ⟨y,by rw [e]; exact of_cs' _ _ _ _ _,tree_of d y g⟩⟩
theorem printerInverse_card_holds:Rows.PrinterInverseCardSaid:=printerInverse_card fun x h=>by
 obtain ⟨d,h⟩:=h
 exact pinverse_plain x (tree_of d x h)
end Go.Proofs.YthplnakbbehpiaaGreatDoor
