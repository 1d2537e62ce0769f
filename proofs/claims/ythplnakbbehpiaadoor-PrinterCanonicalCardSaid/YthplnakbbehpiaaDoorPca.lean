/-
  A part of the proof of a statement of the seat YthplnakbbehpiaaDoor.
-/
import Derived.Test.YthplnakbbehpiaaDoorPca05
namespace Go.Proofs
open Go Go.Abs
set_option maxRecDepth 100000
set_option linter.unusedVariables false
theorem tk_wf {t x:List UInt8} {k v:Int} (hw:wholeT t=true) (h:tkOf t=.ok (k,x,v)):x.length≤t.length∧(0≤v∧v≤1000000)∧(k=1→v=0)∧(k=2→x=[])∧(k=3→v=0):=by
 have hv:=tok_text hw h
 cases t with
 | nil=>cases hw
 | cons c r =>
  unfold tkOf at h
  simp only at h
  split at h
  ·split at h
   ·cases h
   ·simp only [Except.ok.injEq,Prod.mk.injEq] at h
    obtain ⟨rfl,rfl,rfl⟩:=h
    exact ⟨Nat.le_refl _,by omega,fun _=>rfl,fun h=>by omega,fun h=>by omega⟩
  ·split at h
   ·split at h
    ·cases h
    cases hv2:valL 0 (c :: r) with
    | none=>rw [hv2] at h; cases h
    | some u =>
     rw [hv2] at h
     simp only [Except.ok.injEq,Prod.mk.injEq] at h
     obtain ⟨rfl,rfl,rfl⟩:=h
     rcases hv with hv | hv
     ·exact ⟨by simp,hv.2.2,fun h=>by omega,fun _=>rfl,fun h=>by omega⟩
     ·exact absurd rfl hv.1
   ·split at h
    ·simp only [Except.ok.injEq,Prod.mk.injEq] at h
     obtain ⟨rfl,rfl,rfl⟩:=h
     exact ⟨Nat.le_refl _,by omega,fun h=>by omega,fun h=>by omega,fun _=>rfl⟩
    ·cases h
theorem Lx_wf {p:Nat} {s:List UInt8} {l:List GTk} (h:Lx p s l):p+s.length≤9000→∀ t ∈ l,wfT t:=by
 induction h with
 | nil hg=>intro _ t ht; cases ht
 | @cons p g t r l k v x hg hw ht hst hl ih =>
  intro hp z hz
  simp only [List.length_append] at hp
  rcases List.mem_cons.1 hz with rfl | hz
  ·obtain ⟨h1,h2,h3,h4,h5⟩:=tk_wf hw ht
   exact ⟨by simp only; omega,h2,by simp only; omega,h3,h4,h5⟩
  ·exact ih (by omega) z hz
theorem kin_word {w:List UInt8} (h:kinB w ≠ 0):kindW (kinB w)=w∧1≤kinB w∧kinB w≤7:=by
 unfold kinB g_p_kindOf at h ⊢
 simp only [eqS] at h ⊢
 by_cases c1:w=[102,101,101,100,101,114]
 ·subst c1; exact ⟨rfl,by decide,by decide⟩
 by_cases c2:w=[99,97,98,108,101]
 ·subst c2; exact ⟨rfl,by decide,by decide⟩
 by_cases c3:w=[111,119,110,101,114]
 ·subst c3; exact ⟨rfl,by decide,by decide⟩
 by_cases c4:w=[99,111,110,116,114,97,99,116]
 ·subst c4; exact ⟨rfl,by decide,by decide⟩
 by_cases c5:w=[99,104,97,114,103,101,114]
 ·subst c5; exact ⟨rfl,by decide,by decide⟩
 by_cases c6:w=[98,97,121]
 ·subst c6; exact ⟨rfl,by decide,by decide⟩
 by_cases c7:w=[116,97,114,105,102,102]
 ·subst c7; exact ⟨rfl,by decide,by decide⟩
 ·refine absurd ?_ h
  rw [beq_false_of_ne c1,beq_false_of_ne c2,beq_false_of_ne c3,beq_false_of_ne c4,beq_false_of_ne c5,beq_false_of_ne c6,beq_false_of_ne c7]
  rfl
theorem mk_D {d:Nat} {k n a:Int} {s:List UInt8} {l:List (List PV)} (hk:0≤k∧k≤10) (hn:0≤n∧n≤1000000) (ha:0≤a∧a≤100000) (hs:s.length≤10000) (hl:l.length≤10000) (h:kidsD d l):treeD (d+1) ⟨k,s,n,a,l⟩ :=
 ⟨⟨by simp only; omega,by simp only; omega⟩,⟨by simp only; omega,by simp only; omega⟩,⟨by simp only; omega,by simp only; omega⟩,by simp only [maxLen]; omega,by simp only [maxLen]; omega,h⟩
theorem kd_cons {d:Nat} {x:GNode} {xs:List (List PV)} (h:treeD d x) (h':kidsD d xs):kidsD d (GNode.cs x :: xs):=by
 intro k hk
 rcases List.mem_cons.1 hk with rfl | hk
 ·exact ⟨x,of_cs1 x,h⟩
 ·exact h' k hk
theorem kd_app {d:Nat} {xs ys:List (List PV)} (h:kidsD d xs) (h':kidsD d ys):kidsD d (xs++ys):=by
 intro k hk
 rcases List.mem_append.1 hk with hk | hk
 ·exact h k hk
 ·exact h' k hk
theorem vals_D {v:List GTk} (h:∀ t ∈ v,wfT t):kidsD 1 (v.map vcs):=by
 intro k hk
 obtain ⟨t,ht,rfl⟩:=List.mem_map.1 hk
 obtain ⟨h1,h2,h3,_⟩:=h t ht
 refine ⟨vnode t,of_cs1 _,?_⟩
 unfold vnode
 split
 ·exact mk_D (by omega) h2 h3 (by simp) (by simp) fun k hk=>by cases hk
 ·exact mk_D (by omega) (by omega) h3 h1 (by simp) fun k hk=>by cases hk
theorem ArtT_D {a:List GTk} {x:GNode} (h:ArtT a x) (hl:a.length≤10000) (hb:∀ t ∈ a,wfT t):treeD 2 x:=by
 cases h with
 | @mk t e v h1 h2 h3 h4 =>
  have ht:=hb t (by simp)
  exact mk_D (by omega) (by omega) ht.2.2.1 ht.1 (by simp at hl; simp; omega) (vals_D fun z hz=>hb z (by simp [hz]))
theorem Atts_D {a:List GTk} {xs:List (List PV)} (h:Atts a xs):a.length≤10000→(∀ t ∈ a,wfT t)→kidsD 2 xs∧xs.length≤a.length:=by
 induction h with
 | nil=>intro _ _; exact ⟨fun k hk=>(by cases hk),Nat.le_refl _⟩
 | @cons t v r xs h1 h2 h3 h4 ih =>
  intro hl hb
  simp only [List.length_cons,List.length_append] at hl
  have ht:=hb t (by simp)
  obtain ⟨k1,k2⟩:=ih (by omega) fun z hz=>hb z (by simp [hz])
  exact ⟨kd_cons (mk_D (by omega) (by omega) ht.2.2.1 ht.1 (by simp; omega) (vals_D fun z hz=>hb z (by simp [hz]))) k1,by simp only [List.length_cons,List.length_append]; omega⟩
theorem Arts_D {a:List GTk} {xs:List (List PV)} (h:Arts a xs):a.length≤10000→(∀ t ∈ a,wfT t)→kidsD 2 xs∧xs.length≤a.length:=by
 induction h with
 | nil=>intro _ _; exact ⟨fun k hk=>(by cases hk),by simp⟩
 | @cons a r x xs h1 h2 ih =>
  intro hl hb
  simp only [List.length_append] at hl
  have ha:1≤a.length:=by cases h1; simp
  obtain ⟨k1,k2⟩:=ih (by omega) fun z hz=>hb z (by simp [hz])
  exact ⟨kd_cons (ArtT_D h1 (by omega) fun z hz=>hb z (by simp [hz])) k1,by simp only [List.length_cons,List.length_append]; omega⟩
theorem ItemT_D {a:List GTk} {x:GNode} (h:ItemT a x) (hl:a.length≤10000) (hb:∀ t ∈ a,wfT t):treeD 3 x:=by
 cases h with
 | @plain t m e a xs h1 h2 h3 h4 h5 h6 h7 =>
  simp only [List.length_cons,List.length_append,List.length_nil] at hl
  obtain ⟨k1,k2⟩:=Atts_D h6 (by omega) fun z hz=>hb z (by simp [hz])
  have:=kin_word h2
  exact mk_D (by omega) (by omega) (hb t (by simp)).2.2.1 (hb m (by simp)).1 (by omega) k1
 | @tariff t m e a b xs ys h1 h2 h4 h5 h6 h7 h8 =>
  simp only [List.length_cons,List.length_append] at hl
  obtain ⟨k1,k2⟩:=Atts_D h6 (by omega) fun z hz=>hb z (by simp [hz])
  obtain ⟨k3,k4⟩:=Arts_D h8 (by omega) fun z hz=>hb z (by simp [hz])
  exact mk_D (by omega) (by omega) (hb t (by simp)).2.2.1 (hb m (by simp)).1 (by simp only [List.length_append]; omega) (kd_app k1 k3)
theorem Items_D {a:List GTk} {xs:List (List PV)} (h:Items a xs):a.length≤10000→(∀ t ∈ a,wfT t)→kidsD 3 xs∧xs.length≤a.length:=by
 induction h with
 | nil=>intro _ _; exact ⟨fun k hk=>(by cases hk),by simp⟩
 | @cons a r x xs h1 h2 ih =>
  intro hl hb
  simp only [List.length_append] at hl
  have ha:1≤a.length:=by cases h1 <;> simp
  obtain ⟨k1,k2⟩:=ih (by omega) fun z hz=>hb z (by simp [hz])
  exact ⟨kd_cons (ItemT_D h1 (by omega) fun z hz=>hb z (by simp [hz])) k1,by simp only [List.length_cons,List.length_append]; omega⟩
theorem src_D {s:List UInt8} {T:List GTk} {xs:List (List PV)} (hs:s.length≤8000) (hT:T.length≤10000) (h:Lx 0 s T) (hI:Items T xs):treeD 4 (srcN xs):=by
 obtain ⟨h1,h2⟩:=Items_D hI hT (Lx_wf h (by omega))
 exact mk_D (by omega) (by omega) (by omega) (by simp) (by omega) h1
def zT (t:GTk):Int × List UInt8 × Int:=(t.Kind,t.Text,t.N)
def valK (v:GNode):Int × List UInt8 × Int:=if v.Kind=6 then (2,[],v.N) else (1,v.Name,0)
def attK (k:GNode):List (Int × List UInt8 × Int):=if k.Kind=3 then (1,k.Name,0) :: (kidsL k.Kids).map valK else []
def artK (k:GNode):List (Int × List UInt8 × Int):=if k.Kind=4 then (1,k.Name,0) :: ((kidsL k.Kids).map valK++[(3,[59],0)]) else []
def itmK (x:GNode):List (Int × List UInt8 × Int):=(1,kindW x.N,0) :: (1,x.Name,0) :: ((kidsL x.Kids).flatMap attK++(if x.N=7 then (3,[123],0) :: ((kidsL x.Kids).flatMap artK++[(3,[125],0)]) else [(3,[59],0)]))
theorem kidsL_vals:∀ v:List GTk,kidsL (v.map vcs)=v.map vnode
 | []=>rfl
 | t :: v=>by rw [List.map_cons,kids_cons (c:=vcs t) (of_cs1 (vnode t)),kidsL_vals v]; rfl
theorem z_vals {w:Bool}:∀ {v:List GTk},(∀ t ∈ v,okV w t=true)→(∀ t ∈ v,wfT t)→v.map zT=(kidsL (v.map vcs)).map valK:=by
 intro v h1 h2
 rw [kidsL_vals,List.map_map]
 apply List.map_congr_left
 intro t ht
 obtain ⟨_,_,_,g1,g2,_⟩:=h2 t ht
 have:=h1 t ht
 simp only [okV,Bool.or_eq_true,bae,decide_eq_true_eq] at this
 show zT t=valK (vnode t)
 unfold zT valK vnode
 rcases this with h | ⟨h,_⟩
 ·rw [if_pos h]; simp [h,g2 h]
 ·rw [if_neg (show ¬ t.Kind=2 by rw [h]; decide)]; simp [h,g1 h]
theorem z_pu {c:UInt8} {e:GTk} (h:isPu c e=true) (hw:wfT e):zT e=(3,[c],0):=by
 obtain ⟨h1,h2⟩:=pu_kind h
 unfold zT
 rw [h1,h2,hw.2.2.2.2.2 h1]
theorem z_word {t:GTk} (h:t.Kind=1) (hw:wfT t):zT t=(1,t.Text,0):=by
 unfold zT
 rw [h,hw.2.2.2.1 h]
theorem z_atts {a:List GTk} {xs:List (List PV)} (h:Atts a xs):(∀ t ∈ a,wfT t)→a.map zT=(kidsL xs).flatMap attK∧(kidsL xs).flatMap artK=[]:=by
 induction h with
 | nil=>intro _; exact ⟨rfl,rfl⟩
 | @cons t v r xs h1 h2 h3 h4 ih =>
  intro hb
  obtain ⟨k1,k2⟩:=ih fun z hz=>hb z (by simp [hz])
  rw [kids_cons (of_cs1 _),List.flatMap_cons,List.flatMap_cons,k2,List.map_cons,List.map_append,k1,z_word h1 (hb t (by simp)),z_vals h3 fun z hz=>hb z (by simp [hz])]
  exact ⟨rfl,rfl⟩
theorem z_arts {a:List GTk} {xs:List (List PV)} (h:Arts a xs):(∀ t ∈ a,wfT t)→a.map zT=(kidsL xs).flatMap artK++[(3,[125],0)]∧(kidsL xs).flatMap attK=[]:=by
 induction h with
 | @nil e he=>intro hb; exact ⟨by rw [List.map_cons,z_pu he (hb e (by simp))]; rfl,rfl⟩
 | @cons a r x xs h1 h2 ih =>
  intro hb
  obtain ⟨k1,k2⟩:=ih fun z hz=>hb z (by simp [hz])
  rw [kids_cons (of_cs1 _),List.flatMap_cons,List.flatMap_cons,k2,List.map_append,k1]
  cases h1 with
  | @mk t e v g1 g2 g3 g4 =>
   rw [List.map_cons,List.map_append,List.map_cons,List.map_nil,z_word g1 (hb t (by simp)),z_vals g3 (fun z hz=>hb z (by simp [hz])),z_pu g4 (hb e (by simp))]
   refine ⟨?_,rfl⟩
   rw [← List.append_assoc]
   rfl
theorem z_item {a:List GTk} {x:GNode} (h:ItemT a x) (hb:∀ t ∈ a,wfT t):a.map zT=itmK x:=by
 cases h with
 | @plain t m e a xs h1 h2 h3 h4 h5 h6 h7 =>
  obtain ⟨k1,_⟩:=z_atts h6 fun z hz=>hb z (by simp [hz])
  unfold itmK
  rw [List.map_cons,List.map_cons,List.map_append,List.map_cons,List.map_nil,z_word h1 (hb t (by simp)),z_word h4 (hb m (by simp)),z_pu h7 (hb e (by simp)),k1,if_neg h3,(kin_word h2).1]
 | @tariff t m e a b xs ys h1 h2 h4 h5 h6 h7 h8 =>
  obtain ⟨k1,k2⟩:=z_atts h6 fun z hz=>hb z (by simp [hz])
  obtain ⟨k3,k4⟩:=z_arts h8 fun z hz=>hb z (by simp [hz])
  have hk:=(kin_word (w:=t.Text) (by rw [h2]; decide)).1
  rw [h2] at hk
  unfold itmK
  rw [List.map_cons,List.map_cons,List.map_append,List.map_cons,z_word h1 (hb t (by simp)),z_word h4 (hb m (by simp)),z_pu h7 (hb e (by simp)),k1,k3,if_pos rfl,hk,kidsL_app,List.flatMap_append,List.flatMap_append,k2,k4]
  simp
theorem z_items {a:List GTk} {xs:List (List PV)} (h:Items a xs):(∀ t ∈ a,wfT t)→a.map zT=(kidsL xs).flatMap itmK:=by
 induction h with
 | nil=>intro _; rfl
 | @cons a r x xs h1 h2 ih =>
  intro hb
  rw [kids_cons (of_cs1 _),List.flatMap_cons,List.map_append,z_item h1 (fun z hz=>hb z (by simp [hz])),ih fun z hz=>hb z (by simp [hz])]
theorem flatK_st {β:Type} {k:Nat} {f:GNode→List β}:∀ {l:List GNode},(∀ y ∈ l,f (stN k y)=f y)→(l.map (stN k)).flatMap f=l.flatMap f
 | [],_=>rfl
 | y :: l,h=>by
  rw [List.map_cons,List.flatMap_cons,List.flatMap_cons,h y (by simp),flatK_st fun z hz=>h z (by simp [hz])]
theorem partK_st {d:Nat} {k:GNode} (h:shp (d+2) k):attK (stN (d+2) k)=attK k∧artK (stN (d+2) k)=artK k:=by
 obtain ⟨_,hk⟩:=(shp_s (d+1) k ▸ h)
 have hv:(kidsL (k.Kids.map (stC (d+1)))).map valK=(kidsL k.Kids).map valK:=by
  rw [kidsL_st hk,List.map_map]
  rfl
 refine ⟨?_,?_⟩
 ·unfold attK; rw [stN_s]; simp only; rw [hv]
 ·unfold artK; rw [stN_s]; simp only; rw [hv]
theorem itmK_st {d:Nat} {x:GNode} (h:shp (d+3) x):itmK (stN (d+3) x)=itmK x:=by
 obtain ⟨_,hk⟩:=(shp_s (d+2) x ▸ h)
 have hm:=shpL_mem hk
 unfold itmK
 rw [stN_s]
 simp only
 rw [kidsL_st hk,flatK_st (f:=attK) fun y hy=>(partK_st (hm y hy)).1,flatK_st (f:=artK) fun y hy=>(partK_st (hm y hy)).2]
theorem toks_eq {a b:List GTk} {xs ys:List (List PV)} (h:Items a xs) (h':Items b ys) (ha:∀ t ∈ a,wfT t) (hb:∀ t ∈ b,wfT t) (hx:∀ c ∈ xs,∃ y,GNode.of c=some y∧shp 3 y) (hy:∀ c ∈ ys,∃ y,GNode.of c=some y∧shp 3 y) (he:xs.map (stC 3)=ys.map (stC 3)):a.map zT=b.map zT:=by
 rw [z_items h ha,z_items h' hb,← flatK_st (k:=3) (l:=kidsL xs) fun y hy=>itmK_st (d:=0) (shpL_mem hx y hy),← flatK_st (k:=3) (l:=kidsL ys) fun z hz=>itmK_st (d:=0) (shpL_mem hy z hz),← kidsL_st hx,← kidsL_st hy,he]
theorem alike_ok {n:Nat} {a b:List GTk} (h:a.map zT=b.map zT) (hl:a.length≤10000) (hn:20000≤n):g_ref01_Alike n a b=some true:=by
 have hlen:a.length=b.length:=by have:=congrArg List.length h; simpa using this
 unfold g_ref01_Alike
 simp only [eqI_d,lenI,List.length_map]
 rw [dzT (by omega)]
 simp only [Bool.not_true,cond_false]
 refine loop_list (l:=a) (F:=fun _=>true) (by omega) ?_ ?_ 0 (Nat.zero_le _) (by omega)
 ·intro rec
  unfold g_ref01_Alike_l1
  simp only [lenI,List.length_map,ltI]
  rw [dzF (by omega)]; rfl
 ·intro rec i c r hd hi hlt hw hr
  have hb:b[i]?=some (b[i]'(by omega)):=List.getElem?_eq_getElem (by omega)
  have hz:zT c=zT (b[i]'(by omega)):=by
   have:=congrArg (·[i]?) h
   simp only [List.getElem?_map,hi,hb,Option.map_some,sie] at this
   exact this
  simp only [zT,Prod.mk.injEq] at hz
  obtain ⟨z1,z2,z3⟩:=hz
  unfold g_ref01_Alike_l1
  simp only [lenI,List.length_map,ltI]
  rw [dzT (by omega),cond_true,getI_nat,getI_nat,hi,hb]
  simp only [obs,z1,z2,z3,eqI_d,decide_true,eqS_refl,Bool.not_true,cond_false]
  rw [hw,hr]
end Go.Proofs
namespace Go.Proofs
open Go Go.Abs
set_option maxRecDepth 100000
set_option linter.unusedVariables false
theorem count_ok {n d:Nat} {x:GNode} (ht:treeD d x) (hn:9223372036854776000≤n) (h:okT x=true):∃ c,g_ref02_Count n x 1500=some c∧c≤1500:=by
 obtain ⟨c,e,c1,c2,c3,c4⟩:=count_gt 1500 n d x 1500 ht (by omega) (by omega) (by omega) (by omega)
 refine ⟨c,e,?_⟩
 simp only [okT,leI,bae,decide_eq_true_eq] at h
 have h1:=valid_le h.1 d
 by_cases c5:c≤1500
 ·exact c5
 ·have:=c4 (by omega)
  omega
theorem read_back {n:Nat} {x:GNode} {T:List GTk} {xs:List (List PV)} (hn:9223372036854776000≤n) (hv:okT x=true) (hx:shp 4 x) (hs:(sT x).length≤8000) (hT:lexS (sT x)=.ok T) (h1:Lx 0 (sT x) T) (h2:Items T xs) (h3:xs.map (stC 3)=x.Kids.map (stC 3)) :
  g_p_Parse n (sT x)=some (srcN xs,[])∧treeP 4 (srcN xs)∧treeD 4 (srcN xs)∧stN 4 (srcN xs)=stN 4 x:=by
 have hl:T.length≤2000:=((lexS_iff _ _).1 hT).2.2
 have hP:=src_tree hT h2
 have hD:=src_D hs (by omega) h1 h2
 obtain ⟨k1,k2,k3,_,_⟩:=okT_s hv
 have hst:stN 4 (srcN xs)=stN 4 x:=by
  rw [stN_s,stN_s,k1,k2,k3]
  show (⟨1,[],0,0,xs.map (stC 3)⟩:GNode)=_
  rw [h3]
 have hok:okT (srcN xs)=true:=by
  rw [← (src_st (d:=0) (treeP_shp 4 _ hP)).1,hst,(src_st (d:=0) hx).1]
  exact hv
 obtain ⟨c,e,c15⟩:=count_ok hD hn hok
 exact ⟨good_parse (by omega) ⟨hT,h2,c,e,c15⟩,hP,hD,hst⟩
theorem srcT_ok {x:GNode} (h:(srcT x).2=0):okT x=true∧(sT x).length≤8000∧srcT x=(sT x,0):=by
 unfold srcT at h ⊢
 cases hv:okT x
 ·rw [hv] at h; cases h
 rw [hv] at h
 by_cases c:8000 < (sT x).length
 ·rw [show ltI 8000 ((sT x).length:Int)=true from dzT (by omega)] at h
  cases h
 ·rw [show ltI 8000 ((sT x).length:Int)=false from dzF (by omega)]
  exact ⟨rfl,by omega,rfl⟩
theorem srcT_cases (x:GNode):(srcT x).2=0∨(okT x=true∧srcT x=([],2))∨(okT x=false∧srcT x=([],1)):=by
 unfold srcT
 cases okT x
 ·exact .inr (.inr ⟨rfl,rfl⟩)
 ·cases ltI 8000 ((sT x).length:Int)
  ·exact .inl rfl
  ·exact .inr (.inl ⟨rfl,rfl⟩)
theorem shp_of_st:∀ (d:Nat) (z:GNode),shp d (stN d z)→shp d z
 | 0,_,h=>h.elim
 | d+1,z,h=>by
  rw [stN_s] at h
  obtain ⟨h1,h2⟩:=h
  simp only [List.length_map] at h1
  refine ⟨h1,fun k hk=>?_⟩
  obtain ⟨w,e,hw⟩:=h2 (stC d k) (List.mem_map_of_mem hk)
  cases ek:GNode.of k with
  | none =>
   unfold stC at e
   rw [ek] at e
   simp only at e
   rw [ek] at e
   cases e
  | some y =>
   rw [stC_of ek,of_cs1] at e
   obtain rfl:=Option.some.inj e
   exact ⟨y,rfl,shp_of_st d y hw⟩
theorem kids_shp_st {d:Nat} {xs ys:List (List PV)} (h:∀ c ∈ xs,∃ y,GNode.of c=some y∧shp d y) (he:ys.map (stC d)=xs.map (stC d)):∀ c ∈ ys,∃ y,GNode.of c=some y∧shp d y:=by
 intro k hk
 have hm:stC d k ∈ ys.map (stC d):=List.mem_map_of_mem hk
 rw [he] at hm
 obtain ⟨c,hc,e⟩:=List.mem_map.1 hm
 obtain ⟨y,ey,hy⟩:=h c hc
 rw [stC_of ey] at e
 cases ek:GNode.of k with
 | none =>
  have e':=congrArg GNode.of e
  unfold stC at e'
  rw [ek,of_cs1] at e'
  simp only at e'
  rw [ek] at e'
  cases e'
 | some z =>
  rw [stC_of ek] at e
  have e':=congrArg GNode.of e
  rw [of_cs1,of_cs1] at e'
  have e':=Option.some.inj e'
  refine ⟨z,rfl,shp_of_st d z ?_⟩
  rw [← e']
  exact treeP_shp d _ (st_treeP d y hy)
theorem printed_ok {n:Nat} {s:List UInt8} {xs:List (List PV)} (hn:9223372036854776000≤n) (h:g_p_Parse n s=some (srcN xs,[])) (hD:treeD 4 (srcN xs)):g_law03_printed n s=some ((srcT (srcN xs)).1,eqI (srcT (srcN xs)).2 0):=by
 unfold g_law03_printed
 rw [h,obs]
 simp only [lenI,List.map_nil,List.length_nil]
 rw [show ltI 0 ((0:Nat):Int)=false from rfl,cond_false,p_Source hD hn]
 rfl
theorem pcanonical {n:Nat} {s:List UInt8} (hn:9223372036854776000≤n) (hh:g_law03_head n=some true):g_law03_PrinterCanonical n s=some true:=by
 unfold g_law03_PrinterCanonical
 rw [hh,obs]
 cases hlen:ltI 8000 (lenI s)
 rotate_left
 ·rfl
 have hlen:s.length≤8000:=by have:=of_decide_eq_false hlen; simp only [lenI] at this; omega
 simp only [cond_false]
 obtain ⟨r,er,hr⟩:=parse_cases n s (by omega)
 rcases hr with ⟨hr2,T,xs,hG,hr1⟩ | ⟨_,hr2,_⟩
 rotate_left
 ·have:g_law03_printed n s=some ([],false):=by
   unfold g_law03_printed
   rw [er,obs,show ltI 0 (lenI (List.map GDg.cs r.2))=true from dzT (by
    have:0 < r.2.length:=List.length_pos_iff.2 hr2
    simp only [lenI,List.length_map]; omega)]
   rfl
  rw [this]
  rfl
 have er':g_p_Parse n s=some (srcN xs,[]):=by rw [er,← hr1,← hr2]
 have hLT:=(lexS_iff s T).1 hG.1
 have hD:=src_D hlen (by omega) hLT.2.1 hG.2.1
 have hP:=src_tree hG.1 hG.2.1
 rw [printed_ok hn er' hD,obs]
 rcases srcT_cases (srcN xs) with h0 | ⟨_,h0⟩ | ⟨_,h0⟩
 rotate_left
 ·rw [h0]; rfl
 ·rw [h0]; rfl
 obtain ⟨hv,hs,h0⟩:=srcT_ok h0
 have hx:=treeP_shp 4 _ hP
 rw [h0]
 obtain ⟨T',ys,h1,h2,h3⟩:=src_lex hv hx
 have hkx:∀ c ∈ xs,∃ y,GNode.of c=some y∧shp 3 y:=(shp_s 3 (srcN xs) ▸ hx).2
 have hw:∀ t ∈ T,wfT t:=Lx_wf hLT.2.1 (by omega)
 have hw':∀ t ∈ T',wfT t:=Lx_wf h1 (by omega)
 have hky:=kids_shp_st hkx h3
 have htoks:=toks_eq hG.2.1 h2 hw hw' hkx hky h3.symm
 have hlT:T.length=T'.length:=by have:=congrArg List.length htoks; simpa using this
 have hL':lexS (sT (srcN xs))=.ok T':=(lexS_iff _ _).2 ⟨hs,h1,by omega⟩
 obtain ⟨g1,g2,g3,g4⟩:=read_back hn hv hx hs hL' h1 h2 h3
 have h0':srcT (srcN ys)=(sT (srcN xs),0):=by
  rw [← srcT_st (d:=0) (treeP_shp 4 _ g2),g4,srcT_st (d:=0) hx,h0]
 simp only [eqI_d,decide_true,Bool.not_true,cond_false]
 rw [printed_ok hn g1 g3,h0',l_Lex n s (by omega),l_Lex n _ (by omega),hG.1,hL']
 simp only [resL,obs,cond_true,eqI_d,decide_true,eqS_refl,List.nil_append]
 rw [alike_ok htoks (by omega) (by omega)]
 rfl
theorem pcanonical_plain (s:List UInt8):∃ n,g_law03_PrinterCanonical n s=some true:=⟨_,pcanonical fuel_03 head_03⟩
end Go.Proofs
namespace Go.Proofs.YthplnakbbehpiaaDoor
open Go Go.Abs Go.Proofs
theorem printerCanonical_card_holds:Rows.PrinterCanonicalCardSaid:=printerCanonical_card fun s _=>pcanonical_plain s
end Go.Proofs.YthplnakbbehpiaaDoor
