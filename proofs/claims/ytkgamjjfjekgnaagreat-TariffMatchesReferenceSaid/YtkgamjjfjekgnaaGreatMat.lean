/-
  A part of the proof of a statement of the seat YtkgamjjfjekgnaaGreat.
-/
import Derived.Test.YtkgamjjfjekgnaaGreatMat05
namespace Go.Proofs
open Go Go.Abs
set_option maxRecDepth 100000
set_option linter.unusedVariables false
theorem p_item {n d:Nat} {x:GNode} {left:Int} (ht:treeD d x) (hn:9223372036854776000≤n) (hle:(x.Kids.length:Int)+pwL (kidsL x.Kids)≤left∧left≤1500) :
  Does (g_p_validItem n x left) (fun r=>r.1=itemB x∧(itemB x=true→r.2=left - x.Kids.length - pwL (kidsL x.Kids))):=by
 obtain ⟨e,rfl,hl,hs,hk⟩:=tree_kids ht
 have hpw:∀ l:List GNode,0≤pwL l:=by
  intro l
  induction l with
  | nil=>exact Int.le_refl _
  | cons a l ih=>unfold pwL at ih ⊢; simp only [List.map_cons,List.sum_cons]; omega
 have hp0:=hpw (kidsL x.Kids)
 have hw:wi (left - lenI (List.map idc x.Kids))=left - x.Kids.length:=by
  simp only [lenI,List.length_map]; exact wi_id (by omega) (by omega)
 have hloop:Does (loopN (fun recl8 (v:Bool × Int × Int)=>g_p_validItem_l8 n x recl8 v.1 v.2.1 v.2.2) n (false,0,left - x.Kids.length)) (fun r=>r.1=parsK (decide (x.N=7)) false (kidsL x.Kids)∧(parsK (decide (x.N=7)) false (kidsL x.Kids)=true→r.2=left - x.Kids.length - pwL (kidsL x.Kids))):=by
  refine does_loop (Q:=fun (v:Bool × Int × Int) (r:Bool × Int)=>r.1=parsK (decide (x.N=7)) v.1 (kidsL (x.Kids.drop v.2.1.toNat))∧(parsK (decide (x.N=7)) v.1 (kidsL (x.Kids.drop v.2.1.toNat))=true→r.2=v.2.2 - pwL (kidsL (x.Kids.drop v.2.1.toNat)))) (fun v=>x.Kids.length - v.2.1.toNat)
   (fun (v:Bool × Int × Int)=>(∃ i:Nat,v.2.1=(i:Int)∧i≤x.Kids.length)∧pwL (kidsL (x.Kids.drop v.2.1.toNat))≤v.2.2∧v.2.2≤1500) ?_ ⟨⟨0,rfl,by omega⟩,by simp only [show (0:Int).toNat=0 from rfl,List.drop_zero]; omega,by simp only; omega⟩ (by simp only; omega)
  rintro rec ⟨fl,idx,lf⟩ ⟨⟨i,hi,hil⟩,g1,g2⟩ hrec
  simp only at hi hrec g1 g2 ⊢
  subst hi
  simp only [Int.toNat_natCast] at g1 ⊢
  unfold g_p_validItem_l8
  simp only [lenI,List.length_map,ltI]
  by_cases c1:i < x.Kids.length
  rotate_left
  ·rw [dzF (by omega),cond_false,kidL_end _ (by omega)]
   unfold g_p_validItem_j6
   rw [eqI_d]
   cases fl
   ·exact does_some ⟨rfl,fun _=>by simp [pwL]⟩
   ·exact does_some ⟨rfl,fun _=>by simp [pwL]⟩
  obtain ⟨y,hy,hty,hc⟩:=kidL_at hk c1
  rw [hc] at g1 ⊢
  have hcons:pwL (y :: kidsL (List.drop (i+1) x.Kids))=(y.Kids.length:Int)+pwL (kidsL (List.drop (i+1) x.Kids)):=rfl
  rw [hcons] at g1 ⊢
  have h0:=hpw (kidsL (List.drop (i+1) x.Kids))
  rw [dzT (by omega),cond_true,hy,obs]
  have hj10:∀ b:Bool,Does (g_p_validItem_j10 n (i:Int) lf rec y b) fun r=>r.1=(npartB y&&parsK (decide (x.N=7)) b (kidsL (List.drop (i+1) x.Kids)))∧((npartB y&&parsK (decide (x.N=7)) b (kidsL (List.drop (i+1) x.Kids)))=true→r.2=lf - ((y.Kids.length:Int)+pwL (kidsL (List.drop (i+1) x.Kids)))):=by
   intro b
   unfold g_p_validItem_j10
   rw [wi_id (x:=(i:Int)+1) (by omega) (by omega)]
   refine does_bind (p_part hty hn ⟨by omega,g2⟩) ?_
   rintro ⟨r1,r2⟩ ⟨q1,q2⟩
   simp only at q1 q2 ⊢
   subst q1
   cases hb:npartB y
   ·exact does_some ⟨rfl,fun h=>by cases h⟩
   have q2:=q2 hb
   simp only [Bool.not_true,cond_false,Bool.true_and]
   refine does_mono (hrec (b,(i:Int)+1,r2) ⟨⟨i+1,by simp,c1⟩,by simp only [show ((i:Int)+1).toNat=i+1 by omega]; omega,by simp only; omega⟩ (by simp only; omega)) ?_
   rintro ⟨s1,s2⟩ ⟨t1,t2⟩
   simp only [show ((i:Int)+1).toNat=i+1 by omega] at t1 t2 ⊢
   exact ⟨t1,fun h=>by rw [t2 h]; omega⟩
  rw [eqI_d]
  unfold parsK
  cases decide (y.Kind=4)
  ·cases fl
   ·exact hj10 false
   ·exact does_some ⟨rfl,fun h=>by cases h⟩
  ·exact hj10 true
 unfold g_p_validItem
 rw [b_goodName n x.Name (by omega),hw,show ltI (left - (x.Kids.length:Int)) 0=false from ltI_f (by omega)]
 simp only [obs,cond_some,eqI_d,ltI]
 have hb:itemB x=(decide (x.Kind=2)&&(decide (1≤x.N)&&(decide (x.N≤7)&&(nameB x.Name&&parsK (decide (x.N=7)) false (kidsL x.Kids))))):=by
  unfold itemB; rw [pars_item]; simp
 rw [hb]
 have hfalse:∀ b:Bool,b=false→Does (some (false,left)) (fun r=>r.1=b∧(b=true→r.2=left - x.Kids.length - pwL (kidsL x.Kids))):=by
  intro b h
  subst h
  exact does_some ⟨rfl,fun h=>by cases h⟩
 by_cases c0:x.Kind=2
 rotate_left
 ·rw [dzF c0]; exact hfalse _ rfl
 rw [dzT c0]
 by_cases c1:x.N < 1
 ·rw [dzT c1,dzF (show ¬ 1≤x.N by omega)]; exact hfalse _ rfl
 rw [dzF c1,dzT (show 1≤x.N by omega)]
 by_cases c2:7 < x.N
 ·rw [dzT c2,dzF (show ¬ x.N≤7 by omega)]; exact hfalse _ rfl
 rw [dzF c2,dzT (show x.N≤7 by omega)]
 cases nameB x.Name
 ·exact hfalse _ rfl
 ·exact hloop
end Go.Proofs
namespace Go.Proofs
open Go Go.Abs
set_option maxRecDepth 100000
set_option linter.unusedVariables false
def sz:Nat→GNode→Int
 | 0,_=>1
 | k+1,x=>1+((kidsL x.Kids).map (sz k)).sum
theorem sum_nonneg {f:GNode→Int} (hf:∀ y,0≤f y):∀ l:List GNode,0≤(l.map f).sum
 | []=>Int.le_refl _
 | a :: l=>by have:=sum_nonneg hf l; have:=hf a; simp only [List.map_cons,List.sum_cons]; omega
theorem count_sz:∀ (m n d:Nat) (x:GNode) (most:Int),treeD d x→0≤most→most≤m→m≤1000000→m+3≤n→Does (g_ref02_Count n x most) (fun r=>1≤r∧r≤most+1∧(r≤most→∀ k,sz k x≤r)):=by
 intro m
 induction m with
 | zero =>
  intro n d x most ht h0 h1 h2 h3
  obtain ⟨r,e,g1,g2⟩:=count_tot 0 n d x most ht h0 h1 h2 h3
  exact ⟨r,e,g1,g2,fun h=>by omega⟩
 | succ m ih =>
  intro n d x most ht h0 h1 h2 h3
  obtain ⟨n,rfl⟩:∃ q,n=q+1:=⟨n - 1,by omega⟩
  obtain ⟨e,rfl,hl,_,hk⟩:=tree_kids ht
  unfold g_ref02_Count g_ref02_Count_body
  have:=does_loop (n:=n) (v:=((1:Int),(0:Int))) (B:=fun recl1 (v:Int × Int)=>g_ref02_Count_l1 x most (g_ref02_Count n) recl1 v.1 v.2) (Q:=fun (v:Int × Int) r=>v.1≤r∧r≤most+1∧(r≤most→∀ k,v.1+((kidsL (x.Kids.drop v.2.toNat)).map (sz k)).sum≤r)) (fun v=>(most+1 - v.1).toNat) (fun v=>1≤v.1∧v.1≤most+1∧∃ i:Nat,v.2=(i:Int)∧i≤x.Kids.length) ?_ ⟨by omega,by omega,0,rfl,by omega⟩ (by simp only; omega)
  ·obtain ⟨r,e1,g1,g2,g3⟩:=this
   refine ⟨r,e1,g1,g2,fun h k=>?_⟩
   cases k with
   | zero=>exact g1
   | succ k=>exact g3 h k
  rintro rec ⟨many,idx⟩ ⟨g1,g2,i,hi,hil⟩ hrec
  simp only at g1 g2 hi hrec ⊢
  subst hi
  simp only [Int.toNat_natCast]
  unfold g_ref02_Count_l1
  simp only [lenI,List.length_map,ltI,leI]
  by_cases c1:i < x.Kids.length
  rotate_left
  ·rw [dzF (by omega)]
   refine does_some ⟨Int.le_refl _,g2,fun _ k=>?_⟩
   rw [kidL_end _ (by omega)]
   simp
  rw [dzT (by omega)]
  by_cases c2:many≤most
  rotate_left
  ·rw [dzF c2]
   exact does_some ⟨Int.le_refl _,g2,fun h=>absurd h c2⟩
  rw [dzT c2]
  obtain ⟨y,hy,hty,hc⟩:=kidL_at hk c1
  simp only [cond_true,obs]
  rw [hy,obs,wi_id (x:=most - many) (by omega) (by omega)]
  refine does_bind (ih n e y (most - many) hty (by omega) (by omega) (by omega) (by omega)) ?_
  rintro r ⟨r1,r2,r3⟩
  rw [wi_id (x:=many+r) (by omega) (by omega),wi_id (x:=(i:Int)+1) (by omega) (by omega)]
  refine does_mono (hrec (many+r,(i:Int)+1) ⟨by simp only; omega,by simp only; omega,i+1,by simp,c1⟩ (by simp only; omega)) ?_
  rintro q ⟨q1,q2,q3⟩
  simp only at q1 q3
  refine ⟨by omega,q2,fun h k=>?_⟩
  have:=q3 h k
  have:=r3 (by omega) k
  rw [hc]
  simp only [show ((i:Int)+1).toNat=i+1 by omega,List.map_cons,List.sum_cons] at *
  omega
theorem kidsL_len {d:Nat}:∀ {l:List (List PV)},kidsD d l→(kidsL l).length=l.length
 | [],_=>rfl
 | c :: r,h=>by
  obtain ⟨y,e,_⟩:=h c (by simp)
  have:=kidsL_len (l:=r) (fun k hk=>h k (by simp [hk]))
  unfold kidsL at this ⊢
  rw [List.filterMap_cons,e]
  simp [this]
theorem kidsL_mem {d:Nat} {l:List (List PV)} (h:kidsD d l):∀ y ∈ kidsL l,treeD d y:=by
 intro y hy
 obtain ⟨c,hc,e⟩:=List.mem_filterMap.1 hy
 obtain ⟨z,e',t⟩:=h c hc
 rw [e'] at e
 cases e
 exact t
theorem sz1 {d:Nat} {x:GNode} (h:treeD d x):sz 1 x=1+x.Kids.length:=by
 obtain ⟨e,rfl,_,_,hk⟩:=tree_kids h
 have:∀ l:List GNode,(l.map (sz 0)).sum=l.length:=by
  intro l
  induction l with
  | nil=>rfl
  | cons a l ih=>simp only [List.map_cons,List.sum_cons,sz,List.length_cons] at ih ⊢; rw [ih]; omega
 show 1+((kidsL x.Kids).map (sz 0)).sum=_
 rw [this,kidsL_len hk]
theorem sz2 {d:Nat} {x:GNode} (h:treeD d x):sz 2 x=1+x.Kids.length+pwL (kidsL x.Kids):=by
 obtain ⟨e,rfl,_,_,hk⟩:=tree_kids h
 have:∀ l:List GNode,(∀ y ∈ l,treeD e y)→(l.map (sz 1)).sum=l.length+pwL l:=by
  intro l
  induction l with
  | nil=>intro _; rfl
  | cons a l ih =>
   intro hl
   have:=ih (fun y hy=>hl y (by simp [hy]))
   have h1:=sz1 (hl a (by simp))
   unfold pwL at this ⊢
   simp only [List.map_cons,List.sum_cons,List.length_cons] at this ⊢
   rw [this,h1]; omega
 show 1+((kidsL x.Kids).map (sz 1)).sum=_
 rw [this _ (kidsL_mem hk),kidsL_len hk]
 omega
def swL (l:List GNode):Int:=(l.map fun k=>(k.Kids.length:Int)+pwL (kidsL k.Kids)).sum
theorem sz3 {d:Nat} {x:GNode} (h:treeD d x):sz 3 x=1+x.Kids.length+swL (kidsL x.Kids):=by
 obtain ⟨e,rfl,_,_,hk⟩:=tree_kids h
 have:∀ l:List GNode,(∀ y ∈ l,treeD e y)→(l.map (sz 2)).sum=l.length+swL l:=by
  intro l
  induction l with
  | nil=>intro _; rfl
  | cons a l ih =>
   intro hl
   have:=ih (fun y hy=>hl y (by simp [hy]))
   have h1:=sz2 (hl a (by simp))
   unfold swL at this ⊢
   simp only [List.map_cons,List.sum_cons,List.length_cons] at this ⊢
   rw [this,h1]; omega
 show 1+((kidsL x.Kids).map (sz 2)).sum=_
 rw [this _ (kidsL_mem hk),kidsL_len hk]
 omega
def validB (x:GNode):Bool:=decide (x.Kind=1)&&(decide (x.Name=[])&&(decide (x.N=0)&&(kidsL x.Kids).all itemB))
theorem pw_nonneg (l:List GNode):0≤pwL l:=sum_nonneg (fun y=>by omega) l
theorem sw_nonneg (l:List GNode):0≤swL l:=sum_nonneg (fun y=>by have:=pw_nonneg (kidsL y.Kids); omega) l
theorem p_valid {n d:Nat} {x:GNode} (ht:treeD d x) (hn:9223372036854776000≤n) (hs:1+(x.Kids.length:Int)+swL (kidsL x.Kids)≤1500):g_p_Valid n x=some (validB x):=by
 obtain ⟨e,rfl,hl,_,hk⟩:=tree_kids ht
 have hw:wi (1499 - lenI (List.map idc x.Kids))=1499 - x.Kids.length:=by
  simp only [lenI,List.length_map]; exact wi_id (by omega) (by omega)
 have hsw:=sw_nonneg (kidsL x.Kids)
 have hloop:Does (loopN (fun recl5 (v:Int × Int)=>g_p_Valid_l5 n x recl5 v.1 v.2) n (0,1499 - x.Kids.length)) (fun r=>r=(kidsL x.Kids).all itemB):=by
  refine does_loop (Q:=fun (v:Int × Int) (r:Bool)=>r=(kidsL (x.Kids.drop v.1.toNat)).all itemB) (fun v=>x.Kids.length - v.1.toNat) (fun v=>(∃ i:Nat,v.1=(i:Int)∧i≤x.Kids.length)∧swL (kidsL (x.Kids.drop v.1.toNat))≤v.2∧v.2≤1500) ?_ ⟨⟨0,rfl,by omega⟩,by simp only [show (0:Int).toNat=0 from rfl,List.drop_zero]; omega,by simp only; omega⟩ (by simp only; omega)
  rintro rec ⟨idx,lf⟩ ⟨⟨i,hi,hil⟩,g1,g2⟩ hrec
  simp only at hi hrec g1 g2 ⊢
  subst hi
  simp only [Int.toNat_natCast] at g1 ⊢
  unfold g_p_Valid_l5
  simp only [lenI,List.length_map,ltI]
  by_cases c1:i < x.Kids.length
  rotate_left
  ·rw [dzF (by omega),cond_false,kidL_end _ (by omega)]
   exact does_some rfl
  obtain ⟨y,hy,hty,hc⟩:=kidL_at hk c1
  rw [hc] at g1 ⊢
  have hcons:swL (y :: kidsL (List.drop (i+1) x.Kids))=((y.Kids.length:Int)+pwL (kidsL y.Kids))+swL (kidsL (List.drop (i+1) x.Kids)):=rfl
  rw [hcons] at g1
  have h0:=sw_nonneg (kidsL (List.drop (i+1) x.Kids))
  rw [dzT (by omega),cond_true,hy,obs,List.all_cons,wi_id (x:=(i:Int)+1) (by omega) (by omega)]
  refine does_bind (p_item hty hn ⟨by omega,g2⟩) ?_
  rintro ⟨r1,r2⟩ ⟨q1,q2⟩
  simp only at q1 q2 ⊢
  subst q1
  cases hb:itemB y
  ·exact does_some rfl
  have q2:=q2 hb
  have hpw:=pw_nonneg (kidsL y.Kids)
  simp only [Bool.not_true,cond_false,Bool.true_and]
  refine does_mono (hrec ((i:Int)+1,r2) ⟨⟨i+1,by simp,c1⟩,by simp only [show ((i:Int)+1).toNat=i+1 by omega]; omega,by simp only; omega⟩ (by simp only; omega)) ?_
  intro r hr
  simpa only [show ((i:Int)+1).toNat=i+1 by omega] using hr
 obtain ⟨r,er,rfl⟩:=hloop
 unfold g_p_Valid validB
 rw [hw,show ltI (1499 - (x.Kids.length:Int)) 0=false from ltI_f (by omega),eqSn]
 simp only [cond_some,obs,eqI_d]
 have er':loopN (fun recl5 (x_1:Int × Int)=>match x_1 with | (l5_1,l5_2)=>g_p_Valid_l5 n x recl5 l5_1 l5_2) n (0,1499 - (x.Kids.length:Int))=some ((kidsL x.Kids).all itemB):=er
 rw [er']
 cases decide (x.Kind=1) <;> cases decide (x.Name=[]) <;> cases decide (x.N=0) <;> rfl
theorem r_valid {n d:Nat} {x:GNode} (ht:treeD d x) (hn:9223372036854776000≤n) {c:Int} (hc:g_ref02_Count n x 1500=some c) (h15:c≤1500):g_ref02_Valid n x=some (validB x):=by
 obtain ⟨e,rfl,hl,_,hk⟩:=tree_kids ht
 have hloop:Does (loopN (fun recl6 l6=>g_ref02_Valid_l6 n x recl6 l6) n 0) (fun r=>r=(kidsL x.Kids).all itemB):=by
  refine does_idx (B:=fun recl6 l6=>g_ref02_Valid_l6 n x recl6 l6) (n:=n) (L:=x.Kids.length) (fun i r=>r=(kidsL (x.Kids.drop i)).all itemB) hl (fun rec i hi hr=>?_) 0 (by omega) (by omega)
  unfold g_ref02_Valid_l6
  simp only [lenI,List.length_map,ltI]
  by_cases c1:i < x.Kids.length
  rotate_left
  ·rw [dzF (by omega),kidL_end _ (by omega)]; exact does_some rfl
  obtain ⟨y,hy,hty,hc⟩:=kidL_at hk c1
  obtain ⟨w1,w2⟩:=hr c1
  rw [dzT (by omega),cond_true,hy,obs,w1,r_item hty hn,obs,hc,List.all_cons]
  cases itemB y
  ·exact does_some rfl
  ·simpa using w2
 obtain ⟨r,er,rfl⟩:=hloop
 unfold g_ref02_Valid validB
 rw [er,hc,eqSn]
 simp only [obs,cond_some,eqI_d,ltI]
 rw [dzF (show ¬ 1500 < c by omega)]
 cases decide (x.Kind=1) <;> cases decide (x.Name=[]) <;> cases decide (x.N=0) <;> rfl
theorem few_valid {n d:Nat} {x:GNode} (ht:treeD d x) (hn:9223372036854776000≤n):Does (g_ref02_Few n x 1500) (fun b=>b=true→g_p_Valid n x=some (validB x)∧g_ref02_Valid n x=some (validB x)∧(x.Kids.length:Int)+swL (kidsL x.Kids)≤1499):=by
 obtain ⟨c,e,c1,c2,c3⟩:=count_sz 1500 n d x 1500 ht (by omega) (by omega) (by omega) (by omega)
 unfold g_ref02_Few
 rw [e,obs,leI]
 by_cases h:c≤1500
 rotate_left
 ·rw [dzF h]; exact does_some fun h=>by cases h
 rw [dzT h,cond_true]
 refine does_bind (names_tot 50 n d x 50 ht (by omega) (by omega) (by omega) (by omega)) fun r _=>does_some fun _=>?_
 have h3:=c3 h 3
 rw [sz3 ht] at h3
 exact ⟨p_valid ht hn (by omega),r_valid ht hn e h,by omega⟩
end Go.Proofs
namespace Go.Proofs
open Go Go.Abs
set_option maxRecDepth 100000
set_option linter.unusedVariables false
def numAt:List (List PV)→Option Int
 | []=>none
 | c :: _=>(GNode.of c).bind fun y=>if y.Kind=6 then some y.N else none
def wordAt:List (List PV)→List UInt8
 | []=>[]
 | c :: _=>((GNode.of c).map fun y=>if y.Kind=5 then y.Name else []).getD []
theorem numAt_c (c:List PV) (r:List (List PV)):numAt (c :: r)=(GNode.of c).bind fun y=>if y.Kind=6 then some y.N else none:=rfl
theorem wordAt_c (c:List PV) (r:List (List PV)):wordAt (c :: r)=((GNode.of c).map fun y=>if y.Kind=5 then y.Name else []).getD []:=rfl
theorem t_number (n:Nat) {e:Nat} {r:GTr} (h:kidsD e r.values):g_t_reader_number n r=some (match numAt r.values with | some v=>(v,⟨r.article,r.values.drop 1,r.good⟩) | none=>(0,⟨r.article,r.values,false⟩)):=by
 obtain ⟨a,vs,g⟩:=r
 unfold g_t_reader_number
 rw [len0]
 cases vs with
 | nil=>rfl
 | cons c r =>
  obtain ⟨y,hy,_⟩:=h c (by simp)
  rw [slice1 (by simp),drop1,dzF (by intro h; cases h)]
  show ((((GNode.of c).bind _).bind _))=_
  unfold numAt
  rw [hy]
  simp only [obs,eqI_d,cond_true]
  show (bif !decide (y.Kind=6) then _ else ((GNode.of c).bind _))=_
  rw [hy]
  by_cases h6:y.Kind=6
  ·simp [h6]
  ·simp [h6]
theorem t_word (n:Nat) {e:Nat} {r:GTr} (h:kidsD e r.values):g_t_reader_word n r=some (wordAt r.values):=by
 obtain ⟨a,vs,g⟩:=r
 unfold g_t_reader_word
 rw [len0]
 cases vs with
 | nil=>rfl
 | cons c r =>
  obtain ⟨y,hy,_⟩:=h c (by simp)
  rw [dzF (by intro h; cases h)]
  show ((((GNode.of c).bind _).bind _))=_
  unfold wordAt
  rw [hy]
  simp only [obs,eqI_d]
  show (bif !decide (y.Kind=5) then _ else ((GNode.of c).bind _))=_
  rw [hy]
  by_cases h6:y.Kind=5
  ·simp [h6]
  ·simp [h6]
theorem le_len (l:List (List PV)) (p:Nat):leI (lenI (List.map idc l)) (p:Int)=decide (l.length≤p):=by
 unfold leI lenI
 rw [List.length_map]
 by_cases h:l.length≤p
 ·rw [dzT h]; exact dzT (by omega)
 ·rw [dzF h]; exact dzF (by omega)
theorem s_number (n:Nat) {e:Nat} {l:List (List PV)} (h:kidsD e l) (p:Nat):g_ref32_number n l (p:Int)=some (match numAt (l.drop p) with | some v=>(v,true) | none=>(0,false)):=by
 unfold g_ref32_number
 rw [le_len]
 by_cases h0:l.length≤p
 ·rw [dzT h0,List.drop_eq_nil_of_le h0]; rfl
 obtain ⟨y,hy,ht,hd,hof⟩:=kid_at h (show p < l.length by omega)
 rw [dzF h0,hy,hd,numAt_c,hof]
 simp only [obs,eqI_d,cond_false]
 by_cases h6:y.Kind=6
 ·simp [h6]
 ·simp [h6]
theorem s_word (n:Nat) {e:Nat} {l:List (List PV)} (h:kidsD e l) (p:Nat):g_ref32_word n l (p:Int)=some (wordAt (l.drop p)):=by
 unfold g_ref32_word
 rw [le_len]
 by_cases h0:l.length≤p
 ·rw [dzT h0,List.drop_eq_nil_of_le h0]; rfl
 obtain ⟨y,hy,ht,hd,hof⟩:=kid_at h (show p < l.length by omega)
 rw [dzF h0,hy,hd,wordAt_c,hof]
 simp only [obs,eqI_d,cond_false,Option.map_some,Option.getD_some]
 by_cases h6:y.Kind=5
 ·simp [h6]
 ·simp [h6]
theorem numAt_pos {l:List (List PV)} {p:Nat} {v:Int} (h:numAt (l.drop p)=some v):p < l.length:=by
 rcases Nat.lt_or_ge p l.length with h1 | h1
 ·exact h1
 ·rw [List.drop_eq_nil_of_le h1] at h; cases h
theorem wordAt_pos {l:List (List PV)} {p:Nat} (h:wordAt (l.drop p) ≠ []):p < l.length:=by
 rcases Nat.lt_or_ge p l.length with h1 | h1
 ·exact h1
 ·rw [List.drop_eq_nil_of_le h1] at h; exact absurd rfl h
def dayV (s:List UInt8):Int:=(g_t_dayOf 0 s).getD 0
theorem t_day (n:Nat) (s:List UInt8):g_t_dayOf n s=some (dayV s):=by
 unfold dayV g_t_dayOf
 simp only [cond_some,Option.getD_some]
theorem s_day (s:List UInt8):(cond (eqS s [119,111,114,107]) (some (1:Int)) (cond (eqS s [115,97,116,117,114,100,97,121]) (some 2) (cond (eqS s [115,117,110,100,97,121]) (some 4) (some 0))))=some (dayV s):=t_day 0 s
theorem dayV_cases (s:List UInt8):dayV s=0∨((dayV s=1∨dayV s=2∨dayV s=4)∧s ≠ []):=by
 have h:dayV s=(bif eqS s [119,111,114,107] then 1 else bif eqS s [115,97,116,117,114,100,97,121] then 2 else bif eqS s [115,117,110,100,97,121] then 4 else 0):=by
  unfold dayV g_t_dayOf
  simp only [cond_some,Option.getD_some]
 by_cases h0:s=[]
 ·subst h0; exact Or.inl rfl
 rw [h]
 cases eqS s [119,111,114,107] <;> cases eqS s [115,97,116,117,114,100,97,121] <;> cases eqS s [115,117,110,100,97,121] <;> simp [h0]
def typD (set:Int):List (List PV)→Option (Int × List (List PV))
 | []=>if set=0 then none else some (set,[])
 | c :: r=>if dayV (wordAt (c :: r))=0 then (if set=0 then none else some (set,c :: r)) else if bAnd .i64 set (dayV (wordAt (c :: r))) ≠ 0 then none else typD (bOr .i64 set (dayV (wordAt (c :: r)))) r
theorem days_arith {set b:Int} (hs:0≤set∧set≤7) (hb:b=1∨b=2∨b=4):(0≤bOr .i64 set b∧bOr .i64 set b≤7)∧(bAnd .i64 set b=0→wi (set+b)=bOr .i64 set b)∧(eqI (Int.tmod (wi (Int.tdiv set b)) 2) 1=!decide (bAnd .i64 set b=0)):=by
 have h8:set=0∨set=1∨set=2∨set=3∨set=4∨set=5∨set=6∨set=7:=by omega
 rcases h8 with rfl | rfl | rfl | rfl | rfl | rfl | rfl | rfl <;> rcases hb with rfl | rfl | rfl <;> decide
theorem s_types {n e:Nat} {l:List (List PV)} (h:kidsD e l) (hl:l.length≤9223372036854775000):∀ (m p k:Nat) (set:Int),l.length - p≤m→m < k→p≤l.length→(0≤set∧set≤7) →
  ∃ s q,loopN (fun recl1 (v:Int × Int)=>g_ref32_types_l1 n l recl1 v.1 v.2) k ((p:Int),set)=some (s,(q:Int))∧(typD set (l.drop p)=none→s=0)∧(∀ r,typD set (l.drop p)=some r→s=r.1∧s ≠ 0∧∃ q':Nat,q=q'∧p≤q'∧q'≤l.length∧l.drop q'=r.2):=by
 intro m
 induction m with
 | zero =>
  intro p k set h1 h2 h3 hs
  obtain ⟨k,rfl⟩:∃ q,k=q+1:=⟨k - 1,by omega⟩
  rw [loopN_s]
  unfold g_ref32_types_l1
  simp only [s_word n h p,obs,s_day]
  have hd:l.drop p=[]:=List.drop_eq_nil_of_le (by omega)
  rw [hd,show dayV (wordAt [])=0 from rfl,show eqI 0 0=true from rfl,cond_true]
  refine ⟨set,p,rfl,?_,?_⟩
  ·unfold typD; split
   ·rename_i h; intro _; exact h
   ·intro h; cases h
  ·unfold typD; split
   ·intro r h; cases h
   ·rename_i h; intro r hr; cases hr; exact ⟨rfl,h,p,rfl,Nat.le_refl _,h3,hd⟩
 | succ m ih =>
  intro p k set h1 h2 h3 hs
  obtain ⟨k,rfl⟩:∃ q,k=q+1:=⟨k - 1,by omega⟩
  rw [loopN_s]
  have hrec:=fun set'=>ih (p+1) k set'
  generalize loopN (fun recl1 (v:Int × Int)=>g_ref32_types_l1 n l recl1 v.1 v.2) k=rec at hrec ⊢
  unfold g_ref32_types_l1
  simp only [s_word n h p,obs,s_day,eqI_d]
  have hcase:=dayV_cases (wordAt (l.drop p))
  by_cases h0:dayV (wordAt (l.drop p))=0
  ·rw [h0,show decide ((0:Int)=0)=true from rfl,cond_true]
   refine ⟨set,p,rfl,?_,?_⟩
   ·cases hd:l.drop p with
    | nil =>
     unfold typD
     split
     ·rename_i h; intro _; exact h
     ·intro h; cases h
    | cons c r =>
     rw [hd] at h0
     unfold typD
     rw [if_pos h0]
     split
     ·rename_i h; intro _; exact h
     ·intro h; cases h
   ·cases hd:l.drop p with
    | nil =>
     unfold typD
     split
     ·intro r h; cases h
     ·rename_i h; intro r hr; cases hr; exact ⟨rfl,h,p,rfl,Nat.le_refl _,h3,hd⟩
    | cons c r =>
     rw [hd] at h0
     unfold typD
     rw [if_pos h0]
     split
     ·intro r h; cases h
     ·rename_i h; intro r hr; cases hr; exact ⟨rfl,h,p,rfl,Nat.le_refl _,h3,hd⟩
  obtain ⟨hb,hne⟩:=hcase.resolve_left h0
  have hp:=wordAt_pos hne
  obtain ⟨a1,a2,a3⟩:=days_arith hs hb
  have hd:=List.drop_eq_getElem_cons hp
  generalize l[p]'hp=c at hd
  have htyp:typD set (l.drop p)=if bAnd .i64 set (dayV (wordAt (l.drop p))) ≠ 0 then none else typD (bOr .i64 set (dayV (wordAt (l.drop p)))) (l.drop (p+1)):=by
   rw [hd] at h0 ⊢
   rw [typD,if_neg h0]
  rw [htyp]
  rw [eqI_d] at a3
  rw [dzF h0,a3,wi_id (x:=(p:Int)+1) (by omega) (by omega)]
  simp only [cond_false,Bool.not_false,cond_true]
  by_cases hand:bAnd .i64 set (dayV (wordAt (l.drop p)))=0
  ·rw [dzT hand,if_neg (by simpa using hand),a2 hand]
   obtain ⟨s,q,e1,e2,e3⟩:=hrec (bOr .i64 set (dayV (wordAt (l.drop p)))) (by omega) (by omega) (by omega) a1
   refine ⟨s,q,?_,e2,?_⟩
   ·rw [← e1]; simp only [Bool.not_true,cond_false]; congr 2
   ·intro r hr
    obtain ⟨f1,f2,q',f3,f4,f5,f6⟩:=e3 r hr
    exact ⟨f1,f2,q',f3,by omega,f5,f6⟩
  ·rw [dzF hand,if_pos hand]
   exact ⟨0,p,rfl,fun _=>rfl,fun r hr=>by cases hr⟩
theorem t_days_bad {n e:Nat} {r:GTr}:∀ (k:Nat) (b d:Int) (vs:List (List PV)),kidsD e vs→(d ≠ 0→vs ≠ [])→vs.length < k→∃ q,loopN (fun recl4 (v:Int × Int × (List (List PV)) × Bool)=>g_t_reader_days_l4 n r recl4 v.1 v.2.1 v.2.2.1 v.2.2.2) k (b,d,vs,false)=some q∧q.2.2=false
 | 0,_,_,_,_,_,h=>absurd h (Nat.not_lt_zero _)
 | k+1,b,d,vs,hk,hd,h=>by
  rw [loopN_s]
  have hrec:=t_days_bad (n:=n) (e:=e) (r:=r) k
  generalize loopN (fun recl4 (v:Int × Int × (List (List PV)) × Bool)=>g_t_reader_days_l4 n r recl4 v.1 v.2.1 v.2.2.1 v.2.2.2) k=rec at hrec ⊢
  unfold g_t_reader_days_l4
  simp only [eqI_d]
  by_cases h0:d=0
  ·rw [dzT h0]; exact ⟨_,rfl,rfl⟩
  rw [dzF h0,slice1 (hd h0),drop1]
  have hpos:=List.length_pos_iff.2 (hd h0)
  have hw:=t_word n (r:=⟨r.article,vs.drop 1,false⟩) (kidsD_drop hk)
  simp only [cond_some,obs,Bool.not_false,cond_true]
  rw [show (bif !decide (bAnd .i64 b d=0) then false else false)=false from by cases decide (bAnd .i64 b d=0) <;> rfl,hw,obs,t_day,obs]
  refine hrec _ _ _ (kidsD_drop hk) (fun h=>?_) (by rw [List.length_drop]; omega)
  rcases dayV_cases (wordAt (vs.drop 1)) with h1 | h1
  ·exact absurd h1 h
  ·intro h2
   rw [h2] at h1
   exact h1.2 rfl
theorem t_days_loop {n e:Nat} {r:GTr}:∀ (k:Nat) (b:Int) (vs:List (List PV)) (g:Bool),kidsD e vs→vs.length < k→(0≤b∧b≤7) →
  ∃ q,loopN (fun recl4 (v:Int × Int × (List (List PV)) × Bool)=>g_t_reader_days_l4 n r recl4 v.1 v.2.1 v.2.2.1 v.2.2.2) k (b,dayV (wordAt vs),vs,g)=some q∧(typD b vs=none→q.2.2=false∨q.1=0)∧(∀ z,typD b vs=some z→q=(z.1,z.2,g)∧z.1 ≠ 0)
 | 0,_,_,_,_,h,_=>absurd h (Nat.not_lt_zero _)
 | k+1,b,vs,g,hk,h,hs=>by
  have hrec:=fun (vs':List (List PV)) (h':kidsD e vs') (hl:vs'.length < k) b' hb'=>t_days_loop (n:=n) (e:=e) (r:=r) k b' vs' g h' hl hb'
  have hbad:=fun b' d' (vs':List (List PV))=>t_days_bad (n:=n) (e:=e) (r:=r) k b' d' vs'
  rw [loopN_s]
  generalize loopN (fun recl4 (v:Int × Int × (List (List PV)) × Bool)=>g_t_reader_days_l4 n r recl4 v.1 v.2.1 v.2.2.1 v.2.2.2) k=rec at hrec hbad ⊢
  unfold g_t_reader_days_l4
  simp only [eqI_d]
  by_cases h0:dayV (wordAt vs)=0
  ·rw [h0]
   simp only [decide_true,Bool.not_true,cond_false]
   refine ⟨(b,vs,g),rfl,?_,?_⟩
   ·cases vs with
    | nil =>
     unfold typD
     split
     ·rename_i h; intro _; exact Or.inr h
     ·intro h; cases h
    | cons c r =>
     unfold typD
     rw [if_pos h0]
     split
     ·rename_i h; intro _; exact Or.inr h
     ·intro h; cases h
   ·cases vs with
    | nil =>
     unfold typD
     split
     ·intro r h; cases h
     ·rename_i h; intro r hr; cases hr; exact ⟨rfl,h⟩
    | cons c r =>
     unfold typD
     rw [if_pos h0]
     split
     ·intro r h; cases h
     ·rename_i h; intro r hr; cases hr; exact ⟨rfl,h⟩
  obtain ⟨hb,hne⟩:=(dayV_cases (wordAt vs)).resolve_left h0
  have hv:vs ≠ []:=by rintro rfl; exact hne rfl
  have hpos:=List.length_pos_iff.2 hv
  obtain ⟨a1,a2,a3⟩:=days_arith hs hb
  have htyp:typD b vs=if bAnd .i64 b (dayV (wordAt vs)) ≠ 0 then none else typD (bOr .i64 b (dayV (wordAt vs))) (vs.drop 1):=by
   cases vs with
   | nil=>exact absurd rfl hv
   | cons c r=>rw [typD,if_neg h0]; rfl
  rw [htyp,dzF h0,slice1 hv,drop1]
  have hw:=fun g'=>t_word n (r:=⟨r.article,vs.drop 1,g'⟩) (kidsD_drop hk)
  simp only [Bool.not_false,cond_true,cond_some,obs]
  by_cases hand:bAnd .i64 b (dayV (wordAt vs))=0
  ·rw [dzT hand,if_neg (by simpa using hand)]
   simp only [Bool.not_true,cond_false]
   rw [hw,obs,t_day,obs]
   exact hrec (vs.drop 1) (kidsD_drop hk) (by rw [List.length_drop]; omega) _ a1
  ·rw [dzF hand,if_pos hand]
   simp only [Bool.not_false,cond_true]
   rw [hw,obs,t_day,obs]
   obtain ⟨q,e1,e2⟩:=hbad (bOr .i64 b (dayV (wordAt vs))) (dayV (wordAt (vs.drop 1))) (vs.drop 1) (kidsD_drop hk) (fun h=>by
    rcases dayV_cases (wordAt (vs.drop 1)) with h1 | h1
    ·exact absurd h1 h
    ·intro h2
     rw [h2] at h1
     exact h1.2 rfl) (by rw [List.length_drop]; omega)
   exact ⟨q,e1,fun _=>Or.inl e2,fun z hz=>by cases hz⟩
theorem t_days {n e:Nat} {r:GTr} (hk:kidsD e r.values) (h:r.values.length < n):∃ q,g_t_reader_days n r=some q∧(typD 0 r.values=none→q.2.good=false)∧(∀ z,typD 0 r.values=some z→q=(z.1,⟨r.article,z.2,r.good⟩)):=by
 obtain ⟨q,e1,e2,e3⟩:=t_days_loop (n:=n) (r:=r) n 0 r.values r.good hk h (by omega)
 unfold g_t_reader_days
 rw [t_word n hk,obs,t_day,obs]
 have e1':loopN (fun recl4 (x:Int × Int × List (List PV) × Bool)=>match x with | (l4_1,l4_2,l4_3,l4_4)=>g_t_reader_days_l4 n r recl4 l4_1 l4_2 l4_3 l4_4) n (0,dayV (wordAt r.values),r.values,r.good)=some q:=e1
 rw [e1',obs]
 obtain ⟨b,vs,g⟩:=q
 simp only [eqI_d] at e2 e3 ⊢
 by_cases h0:b=0
 ·rw [dzT h0]
  refine ⟨_,rfl,fun _=>rfl,fun z hz=>?_⟩
  obtain ⟨f1,f2⟩:=e3 z hz
  cases f1
  exact absurd h0 f2
 ·rw [dzF h0]
  refine ⟨_,rfl,fun hn=>(e2 hn).resolve_right h0,fun z hz=>?_⟩
  obtain ⟨f1,f2⟩:=e3 z hz
  cases f1
  rfl
end Go.Proofs
namespace Go.Proofs
open Go Go.Abs
set_option maxRecDepth 100000
set_option linter.unusedVariables false
theorem eqS_ne {a b:List UInt8} (h:a ≠ b):eqS a b=false:=by
 unfold eqS
 simpa using h
abbrev TSt:Type:=Bool × Int × Int × Int × Int × Int × Int × Int × (List (List PV)) × Bool × Bool × Bool × Bool × Bool
abbrev RSt:Type:=Bool × Bool × Bool × Bool × Int × Int × Int × Int × Int × Int
def tB (n:Nat) (rec:TSt→Option (GAr × Bool)) (v:TSt):Option (GAr × Bool) :=
 g_t_read_l11 n rec v.1 v.2.1 v.2.2.1 v.2.2.2.1 v.2.2.2.2.1 v.2.2.2.2.2.1 v.2.2.2.2.2.2.1 v.2.2.2.2.2.2.2.1 v.2.2.2.2.2.2.2.2.1 v.2.2.2.2.2.2.2.2.2.1 v.2.2.2.2.2.2.2.2.2.2.1 v.2.2.2.2.2.2.2.2.2.2.2.1 v.2.2.2.2.2.2.2.2.2.2.2.2.1 v.2.2.2.2.2.2.2.2.2.2.2.2.2
def rB (n:Nat) (x:GNode) (r2:Int) (r3:Int × Bool) (j4 j6:Bool) (rec:RSt→Option (GAr × Bool)) (v:RSt):Option (GAr × Bool) :=
 g_ref32_read_l10 n x r2 r3 j4 j6 rec v.1 v.2.1 v.2.2.1 v.2.2.2.1 v.2.2.2.2.1 v.2.2.2.2.2.1 v.2.2.2.2.2.2.1 v.2.2.2.2.2.2.2.1 v.2.2.2.2.2.2.2.2.1 v.2.2.2.2.2.2.2.2.2
theorem tB_bad (n:Nat) (rec:TSt→Option (GAr × Bool)) (p:Bool) (k d f t pr u fr:Int) (vs:List (List PV)) (a b c e:Bool):tB n rec (p,k,d,f,t,pr,u,fr,vs,false,a,b,c,e)=some (⟨k,d,f,t,pr,u,fr⟩,false):=rfl
theorem read_lock {n e:Nat} {x:GNode} (hk:kidsD e x.Kids) (hlen:x.Kids.length≤1500) (hn:1000000≤n) (K pr r2:Int) (r3:Int × Bool) (hK:wi (r2+1)=K) (h3:r3.1=pr) (hK0:K ≠ 0) (long flat:Bool) :
  ∀ (m p k1 k2:Nat) (per fr on bt:Bool) (D F T U Fr:Int),x.Kids.length - p≤m→m < k1→m < k2→p≤x.Kids.length →
  ∃ a a' g,loopN (tB n) k1 (!long||per,K,D,F,T,pr,U,Fr,x.Kids.drop p,true,long&&!per,long&&!fr,!flat&&!on,!flat&&!bt)=some (a,g)∧loopN (rB n x r2 r3 long flat) k2 (per,fr,on,bt,(p:Int),D,F,T,U,Fr)=some (a',g)∧(g=true→a=a'):=by
 intro m
 induction m with
 | zero =>
  intro p k1 k2 per fr on bt D F T U Fr h1 h2 h4 h5
  obtain ⟨k1,rfl⟩:∃ q,k1=q+1:=⟨k1 - 1,by omega⟩
  obtain ⟨k2,rfl⟩:∃ q,k2=q+1:=⟨k2 - 1,by omega⟩
  rw [loopN_s,loopN_s]
  have hd:x.Kids.drop p=[]:=List.drop_eq_nil_of_le (by omega)
  unfold tB rB g_t_read_l11 g_ref32_read_l10 g_t_read_j8 g_ref32_read_j8
  simp only [hd]
  rw [show ltI (p:Int) (lenI (List.map idc x.Kids))=false from ltI_f (by simp only [lenI,List.length_map]; omega),hK,h3]
  rw [show ltI 0 (lenI (List.map idc []))=false from rfl]
  simp only [cond_true,cond_false,obs,eqI_d]
  rw [dzF hK0]
  cases long <;> cases per <;> exact ⟨_,_,_,rfl,rfl,fun _=>rfl⟩
 | succ m ih =>
  intro p k1 k2 per fr on bt D F T U Fr h1 h2 h4 h5
  by_cases hp:p < x.Kids.length
  rotate_left
  ·exact ih p k1 k2 per fr on bt D F T U Fr (by omega) (by omega) (by omega) h5
  obtain ⟨k1,rfl⟩:∃ q,k1=q+1+1:=⟨k1 - 2,by omega⟩
  obtain ⟨k2,rfl⟩:∃ q,k2=q+1:=⟨k2 - 1,by omega⟩
  rw [loopN_s (n:=k1+1),loopN_s (n:=k2)]
  have hrec:=fun (p':Nat) (hp':p < p') (hp2:p'≤x.Kids.length) per fr on bt D F T U Fr=>ih p' (k1+1) k2 per fr on bt D F T U Fr (by omega) (by omega) (by omega) hp2
  have hbad:∀ (p:Bool) (k d f t pr u fr:Int) (vs:List (List PV)) (a b c e:Bool),loopN (tB n) (k1+1) (p,k,d,f,t,pr,u,fr,vs,false,a,b,c,e)=some (⟨k,d,f,t,pr,u,fr⟩,false):=by
   intro p k d f t pr u fr vs a b c e
   rw [loopN_s]
   rfl
  generalize loopN (tB n) (k1+1)=tr at hrec hbad ⊢
  generalize loopN (rB n x r2 r3 long flat) k2=rr at hrec ⊢
  have hv:x.Kids.drop p ≠ []:=by
   rw [List.drop_eq_getElem_cons hp]; intro h; cases h
  have hkp:kidsD e (x.Kids.drop p):=fun k hk'=>hk k (List.mem_of_mem_drop hk')
  have hd1:(x.Kids.drop p).drop 1=x.Kids.drop (p+1):=List.drop_drop
  have hd2:(x.Kids.drop (p+1)).drop 1=x.Kids.drop (p+2):=List.drop_drop
  have hd3:(x.Kids.drop (p+2)).drop 1=x.Kids.drop (p+3):=List.drop_drop
  have hk1:kidsD e (x.Kids.drop (p+1)):=fun k hk'=>hk k (List.mem_of_mem_drop hk')
  have hk2:kidsD e (x.Kids.drop (p+2)):=fun k hk'=>hk k (List.mem_of_mem_drop hk')
  have hl1:ltI 0 (lenI (List.map idc (x.Kids.drop p)))=true:=by rw [lt0,dzF hv]; rfl
  have hl2:ltI (p:Int) (lenI (List.map idc x.Kids))=true:=ltI_t (by simp only [lenI,List.length_map]; omega)
  have w1:wi ((p:Int)+1)=((p+1:Nat):Int):=by rw [wi_id (by omega) (by omega)]; omega
  have w2:wi ((p:Int)+2)=((p+2:Nat):Int):=by rw [wi_id (by omega) (by omega)]; omega
  have w3:wi ((p:Int)+3)=((p+3:Nat):Int):=by rw [wi_id (by omega) (by omega)]; omega
  have hw:=fun a=>t_word n (r:=⟨a,x.Kids.drop p,true⟩) hkp
  have hnum:=fun a=>t_number n (r:=⟨a,x.Kids.drop (p+1),true⟩) hk1
  have hnum2:=fun a g=>t_number n (r:=⟨a,x.Kids.drop (p+2),g⟩) hk2
  have hnumb:=fun a g=>t_number n (r:=⟨a,x.Kids.drop (p+1),g⟩) hk1
  unfold tB rB g_t_read_l11 g_ref32_read_l10
  simp only [hl1,hl2,cond_true,obs,slice1 hv,drop1,hd1,w1,w2,w3,s_number n hk,s_word n hk,hw,cond_some]
  generalize hW:wordAt (x.Kids.drop p)=w
  have hno:∀ (g:Bool) (a a':GAr),g=false→∃ b b' h,some (a,g)=some (b,h)∧some (a',g)=some (b',h)∧(h=true→b=b'):=fun g a a' hg=>⟨a,a',g,rfl,rfl,fun h=>by rw [hg] at h; cases h⟩
  by_cases c1:w=perW
  ·subst c1
   simp only [show eqS perW [112,101,114]=true from rfl,show eqS perW [102,114,101,101]=false from rfl,show eqS perW [111,110]=false from rfl,show eqS perW [98,101,116,119,101,101,110]=false from rfl,Bool.true_and,Bool.false_and,cond_true,cond_false]
   rw [hnum]
   cases long
   ·exact hno false _ _ rfl
   cases per
   rotate_left
   ·exact hno false _ _ rfl
   cases hN:numAt (x.Kids.drop (p+1)) with
   | none=>exact ⟨_,_,_,hbad _ _ _ _ _ _ _ _ _ _ _ _ _,rfl,fun h=>by cases h⟩
   | some v =>
    have:=hrec (p+2) (by omega) (by have:=numAt_pos hN; omega) true fr on bt D F T v Fr
    rw [← hd2] at this
    exact this
  by_cases c2:w=freeW
  ·subst c2
   simp only [show eqS freeW [112,101,114]=false from rfl,show eqS freeW [102,114,101,101]=true from rfl,show eqS freeW [111,110]=false from rfl,show eqS freeW [98,101,116,119,101,101,110]=false from rfl,Bool.true_and,Bool.false_and,cond_true,cond_false]
   rw [hnum]
   cases long
   ·exact hno false _ _ rfl
   cases fr
   rotate_left
   ·exact hno false _ _ rfl
   cases hN:numAt (x.Kids.drop (p+1)) with
   | none=>exact ⟨_,_,_,hbad _ _ _ _ _ _ _ _ _ _ _ _ _,rfl,fun h=>by cases h⟩
   | some v =>
    have:=hrec (p+2) (by omega) (by have:=numAt_pos hN; omega) per true on bt D F T U v
    rw [← hd2] at this
    cases per <;> exact this
  by_cases c3:w=onW
  ·subst c3
   simp only [show eqS onW [112,101,114]=false from rfl,show eqS onW [102,114,101,101]=false from rfl,show eqS onW [111,110]=true from rfl,show eqS onW [98,101,116,119,101,101,110]=false from rfl,Bool.true_and,Bool.false_and,cond_true,cond_false]
   obtain ⟨q,e1,e2,e3⟩:=t_days (n:=n) (r:=⟨⟨K,D,F,T,pr,U,Fr⟩,x.Kids.drop (p+1),true⟩) hk1 (by simp only [List.length_drop]; omega)
   obtain ⟨s,qq,f1,f2,f3⟩:=s_types (n:=n) hk (by omega) x.Kids.length (p+1) n 0 (by omega) (by omega) (by omega) (by omega)
   have f1':g_ref32_types n x.Kids ((p+1:Nat):Int)=some (s,qq):=by unfold g_ref32_types; exact f1
   rw [e1,f1']
   cases flat
   rotate_left
   ·exact hno false _ _ rfl
   cases on
   rotate_left
   ·exact hno false _ _ rfl
   simp only at e2 e3
   cases hT:typD 0 (x.Kids.drop (p+1)) with
   | none =>
    obtain ⟨b,a,vs,g⟩:=q
    have hg:g=false:=e2 hT
    have hs:s=0:=f2 hT
    subst hg hs
    exact ⟨_,_,_,hbad _ _ _ _ _ _ _ _ _ _ _ _ _,rfl,fun h=>by cases h⟩
   | some z =>
    have hq:=e3 z hT
    obtain ⟨g1,g2,q',g3,g4,g5,g6⟩:=f3 z hT
    subst hq
    obtain ⟨z1,z2⟩:=z
    simp only at g1 g6
    subst g1 g6 g3
    have:=hrec q' (by omega) g5 per fr true bt s F T U Fr
    have hs0:eqI s 0=false:=by rw [eqI_d]; exact dzF g2
    simp only [obs,hs0]
    cases long <;> cases per <;> exact this
  by_cases c4:w=betW
  ·subst c4
   simp only [show eqS betW [112,101,114]=false from rfl,show eqS betW [102,114,101,101]=false from rfl,show eqS betW [111,110]=false from rfl,show eqS betW [98,101,116,119,101,101,110]=true from rfl,Bool.true_and,Bool.false_and,cond_true,cond_false]
   rw [hnum]
   cases flat
   rotate_left
   ·exact hno false _ _ rfl
   cases bt
   rotate_left
   ·exact hno false _ _ rfl
   cases hN:numAt (x.Kids.drop (p+1)) with
   | none =>
    simp only [obs,Bool.not_false,Bool.and_self,cond_true,cond_false]
    rw [hnumb,hN]
    exact ⟨_,_,_,hbad _ _ _ _ _ _ _ _ _ _ _ _ _,rfl,fun h=>by cases h⟩
   | some v =>
    simp only [obs,Bool.not_false,Bool.and_self,cond_true,hd2]
    rw [hnum2]
    cases hN2:numAt (x.Kids.drop (p+2)) with
    | none=>exact ⟨_,_,_,hbad _ _ _ _ _ _ _ _ _ _ _ _ _,rfl,fun h=>by cases h⟩
    | some u =>
     have:=hrec (p+3) (by omega) (by have:=numAt_pos hN2; omega) per fr on true D v u U Fr
     rw [← hd3] at this
     cases long <;> cases per <;> exact this
  have n1:eqS w [112,101,114]=false:=eqS_ne c1
  have n2:eqS w [102,114,101,101]=false:=eqS_ne c2
  have n3:eqS w [111,110]=false:=eqS_ne c3
  have n4:eqS w [98,101,116,119,101,101,110]=false:=eqS_ne c4
  simp only [n1,n2,n3,n4,Bool.false_and,cond_false]
  exact hno false _ _ rfl
end Go.Proofs
namespace Go.Proofs
open Go Go.Abs
set_option maxRecDepth 100000
set_option linter.unusedVariables false
theorem eqS_comm (a b:List UInt8):eqS a b=eqS b a:=by
 unfold eqS
 by_cases h:a=b
 ·subst h; rfl
 ·rw [show (a == b)=false from by simpa using h,show (b == a)=false from by simpa using fun e=>h e.symm]
def artI (s:List UInt8):Int:=bif eqS [115,116,97,114,116] s then 0 else bif eqS [101,110,101,114,103,121] s then 1 else bif eqS [116,105,109,101] s then 2 else bif eqS [105,100,108,101] s then 3 else bif eqS [99,97,112] s then 4 else bif eqS [116,97,120] s then 5 else -1
theorem in_art (n:Nat) (s:List UInt8):g_ref02_In (n+7) ((g_ref02_Articles 0).getD []) s=some (artI s):=by
 have h:g_ref02_In (n+7) ((g_ref02_Articles 0).getD []) s=(bif eqS [115,116,97,114,116] s then some 0 else bif eqS [101,110,101,114,103,121] s then some 1 else bif eqS [116,105,109,101] s then some 2 else bif eqS [105,100,108,101] s then some 3 else bif eqS [99,97,112] s then some 4 else bif eqS [116,97,120] s then some 5 else some (-1)):=by kernel_rfl
 rw [h]
 unfold artI
 simp only [cond_some]
theorem kind_art (n:Nat) (s:List UInt8):g_t_kindOf n s=some (wi (artI s+1)):=by
 unfold g_t_kindOf artI
 rw [eqS_comm s [115,116,97,114,116],eqS_comm s [101,110,101,114,103,121],eqS_comm s [116,105,109,101],eqS_comm s [105,100,108,101],eqS_comm s [99,97,112],eqS_comm s [116,97,120]]
 cases eqS [115,116,97,114,116] s
 ·cases eqS [101,110,101,114,103,121] s
  ·cases eqS [116,105,109,101] s
   ·cases eqS [105,100,108,101] s
    ·cases eqS [99,97,112] s
     ·cases eqS [116,97,120] s <;> rfl
     ·rfl
    ·rfl
   ·rfl
  ·rfl
 ·rfl
theorem artNB_kind {s:List UInt8} (h:artNB s=true):wi (artI s+1) ≠ 0:=by
 have h1:artNB s=(eqS [115,116,97,114,116] s||(eqS [101,110,101,114,103,121] s||(eqS [116,105,109,101] s||(eqS [105,100,108,101] s||(eqS [99,97,112] s||eqS [116,97,120] s))))):=by
  unfold artNB g_ref02_Articles
  simp only [Option.getD_some,List.contains_cons,List.contains_nil,Bool.or_false]
  rw [eqS_comm [115,116,97,114,116] s,eqS_comm [101,110,101,114,103,121] s,eqS_comm [116,105,109,101] s,eqS_comm [105,100,108,101] s,eqS_comm [99,97,112] s,eqS_comm [116,97,120] s]
  rfl
 rw [h1] at h
 unfold artI
 generalize eqS [115,116,97,114,116] s=b1 at h ⊢
 generalize eqS [101,110,101,114,103,121] s=b2 at h ⊢
 generalize eqS [116,105,109,101] s=b3 at h ⊢
 generalize eqS [105,100,108,101] s=b4 at h ⊢
 generalize eqS [99,97,112] s=b5 at h ⊢
 generalize eqS [116,97,120] s=b6 at h ⊢
 clear h1
 revert b1 b2 b3 b4 b5 b6
 decide
theorem t_read_eq (n:Nat) (x:GNode) (K pr:Int) (vs:List (List PV)) (g:Bool) (h1:g_t_kindOf n x.Name=some K) (h2:g_t_reader_number n ⟨⟨K,7,0,1440,0,0,0⟩,x.Kids,true⟩=some (pr,⟨⟨K,7,0,1440,0,0,0⟩,vs,g⟩)) :
  g_t_read n x=loopN (tB n) n (!(eqI K 3||eqI K 4),K,7,0,1440,pr,0,0,vs,g,eqI K 3||eqI K 4,eqI K 3||eqI K 4,!(eqI K 5||eqI K 6),!(eqI K 5||eqI K 6)):=by
 have e1:g_t_isTime n K=some (eqI K 3||eqI K 4):=by
  unfold g_t_isTime
  cases eqI K 3 <;> rfl
 have e2:g_t_isWhole n K=some (eqI K 5||eqI K 6):=by
  unfold g_t_isWhole
  cases eqI K 5 <;> rfl
 generalize (eqI K 3||eqI K 4)=a at e1 ⊢
 generalize (eqI K 5||eqI K 6)=b at e2 ⊢
 unfold g_t_read
 rw [h1,obs,h2,obs]
 show (((g_t_isTime n K).bind fun r4=>cond r4 (some true) (some false)).bind fun j3=>((g_t_isWhole n K).bind fun r6=>cond (!r6) (some true) (some false)).bind fun j5=>(g_t_isTime n K).bind fun r7=>loopN (tB n) n (!r7,K,7,0,1440,pr,0,0,vs,g,j3,j3,j5,j5))=_
 rw [e1,e2]
 cases a <;> cases b <;> rfl
theorem read_same {n d:Nat} {x:GNode} (ht:treeD d x) (hn:1000000≤n) (hlen:x.Kids.length≤1500) (ha:artNB x.Name=true) :
  ∃ a a' g,g_t_read n x=some (a,g)∧g_ref32_read n x=some (a',g)∧(g=true→a=a'):=by
 obtain ⟨e,rfl,hl,_,hk⟩:=tree_kids ht
 obtain ⟨q,rfl⟩:∃ q,n=q+7:=⟨n - 7,by omega⟩
 have hK0:=artNB_kind ha
 have hin:=in_art q x.Name
 have hkind:=kind_art (q+7) x.Name
 generalize hr2:artI x.Name=r2 at hK0 hin hkind
 generalize hKK:wi (r2+1)=K at hK0 hkind
 have hnum:=t_number (q+7) (r:=⟨⟨K,7,0,1440,0,0,0⟩,x.Kids,true⟩) hk
 have hsn:g_ref32_number (q+7) x.Kids 0=some (match numAt x.Kids with | some v=>(v,true) | none=>(0,false)):=s_number (q+7) hk 0
 generalize hnn:q+7=n at *
 cases hN:numAt x.Kids with
 | none =>
  rw [hN] at hnum hsn
  rw [t_read_eq n x K 0 x.Kids false hkind hnum]
  refine ⟨⟨K,7,0,1440,0,0,0⟩,⟨wi (r2+1),7,0,1440,0,0,0⟩,false,?_,?_,fun h=>by cases h⟩
  ·obtain ⟨k,rfl⟩:∃ k,n=k+1:=⟨n - 1,by omega⟩
   rw [loopN_s]
   exact tB_bad _ _ _ _ _ _ _ _ _ _ _ _ _ _ _
  ·unfold g_ref32_read
   rw [show g_ref02_Articles n=some ((g_ref02_Articles 0).getD []) from rfl,obs,hin,obs,hsn,obs]
   rfl
 | some pr =>
  rw [hN] at hnum hsn
  rw [t_read_eq n x K pr (x.Kids.drop 1) true hkind hnum]
  have hp:=numAt_pos (l:=x.Kids) (p:=0) hN
  obtain ⟨a,a',g,h1,h2,h3⟩:=read_lock (x:=x) hk hlen hn K pr r2 (pr,true) hKK rfl hK0 (eqI K 3||eqI K 4) (eqI K 5||eqI K 6) x.Kids.length 1 n n false false false false 7 0 1440 0 0 (by omega) (by omega) (by omega) (by omega)
  refine ⟨a,a',g,?_,?_,h3⟩
  ·generalize (eqI K 3||eqI K 4)=lg at h1 ⊢
   generalize (eqI K 5||eqI K 6)=fl at h1 ⊢
   cases lg <;> cases fl <;> exact h1
  ·unfold g_ref32_read
   rw [show g_ref02_Articles n=some ((g_ref02_Articles 0).getD []) from rfl,obs,hin,obs,hsn,obs]
   simp only [cond_some,obs,Bool.not_true,cond_false]
   rw [hKK]
   rw [show (bif eqI K 3 then true else eqI K 4)=(eqI K 3||eqI K 4) from by cases eqI K 3 <;> rfl,show (bif eqI K 5 then true else eqI K 6)=(eqI K 5||eqI K 6) from by cases eqI K 5 <;> rfl]
   exact h2
def artsOk (x:GNode):Prop:=∀ k ∈ kidsL x.Kids,k.Kids.length≤1500∧(k.Kind ≠ 3→artNB k.Name=true)
theorem arts_same {n d:Nat} {x:GNode} (ht:treeD d x) (hn:1000000≤n) (hlen:x.Kids.length≤1500) (hok:artsOk x) :
  ∃ r r',g_t_articles n x=some r∧g_ref32_build n x=some r'∧r'.2=r.2∧(r.2.Err=0→r'.1=⟨x.Name,r.1⟩∧r.1.length≤12):=by
 obtain ⟨e,rfl,hl,_,hk⟩:=tree_kids ht
 have key:∀ (m i k1 k2:Nat) (out:List GAr) (tax:Bool),i+m=x.Kids.length→m < k1→m < k2→out.length≤12 →
   ∃ r r',loopN (fun recl1 (v:(List GAr) × Bool × Int)=>g_t_articles_l1 n x recl1 v.1 v.2.1 v.2.2) k1 (out,tax,(i:Int))=some r∧loopN (fun recl1 (v:Bool × Int × (List GAr))=>g_ref32_build_l1 n x recl1 v.1 v.2.1 v.2.2) k2 (tax,(i:Int),out)=some r'∧r'.2=r.2∧(r.2.Err=0→r'.1=⟨x.Name,r.1⟩∧r.1.length≤12):=by
  intro m
  induction m with
  | zero =>
   intro i k1 k2 out tax h1 h2 h3 h4
   obtain ⟨k1,rfl⟩:∃ q,k1=q+1:=⟨k1 - 1,by omega⟩
   obtain ⟨k2,rfl⟩:∃ q,k2=q+1:=⟨k2 - 1,by omega⟩
   rw [loopN_s,loopN_s]
   unfold g_t_articles_l1 g_ref32_build_l1
   simp only
   rw [show ltI (i:Int) (lenI (List.map idc x.Kids))=false from ltI_f (by simp only [lenI,List.length_map]; omega)]
   exact ⟨_,_,rfl,rfl,rfl,fun _=>⟨rfl,h4⟩⟩
  | succ m ih =>
   intro i k1 k2 out tax h1 h2 h3 h4
   obtain ⟨k1,rfl⟩:∃ q,k1=q+1:=⟨k1 - 1,by omega⟩
   obtain ⟨k2,rfl⟩:∃ q,k2=q+1:=⟨k2 - 1,by omega⟩
   rw [loopN_s (n:=k1),loopN_s (n:=k2)]
   have hrec:=fun out tax=>ih (i+1) k1 k2 out tax (by omega) (by omega) (by omega)
   generalize loopN (fun recl1 (v:(List GAr) × Bool × Int)=>g_t_articles_l1 n x recl1 v.1 v.2.1 v.2.2) k1=tr at hrec ⊢
   generalize loopN (fun recl1 (v:Bool × Int × (List GAr))=>g_ref32_build_l1 n x recl1 v.1 v.2.1 v.2.2) k2=rr at hrec ⊢
   obtain ⟨y,hy,hty,hc⟩:=kidL_at hk (show i < x.Kids.length by omega)
   obtain ⟨ho1,ho2⟩:=hok y (by
    have:y ∈ kidsL (x.Kids.drop i):=by rw [hc]; simp
    obtain ⟨c,h5,h6⟩:=List.mem_filterMap.1 this
    exact List.mem_filterMap.2 ⟨c,List.mem_of_mem_drop h5,h6⟩)
   have w1:wi ((i:Int)+1)=((i+1:Nat):Int):=by rw [wi_id (by omega) (by omega)]; omega
   unfold g_t_articles_l1 g_ref32_build_l1
   simp only [w1]
   rw [show ltI (i:Int) (lenI (List.map idc x.Kids))=true from ltI_t (by simp only [lenI,List.length_map]; omega),hy]
   simp only [cond_true,obs]
   by_cases k3:y.Kind=3
   ·rw [eqI_d,dzT k3]
    exact ⟨_,_,rfl,rfl,rfl,fun h=>by cases h⟩
   rw [eqI_d,dzF k3]
   simp only [cond_false]
   by_cases k12:out.length=12
   ·rw [show eqI (lenI (List.map GAr.cs out)) 12=true from by rw [eqI_d]; exact dzT (by simp only [lenI,List.length_map]; omega)]
    exact ⟨_,_,rfl,rfl,rfl,fun h=>by cases h⟩
   rw [show eqI (lenI (List.map GAr.cs out)) 12=false from by rw [eqI_d]; exact dzF (by simp only [lenI,List.length_map]; omega)]
   simp only [cond_false]
   obtain ⟨a,a',g,e1,e2,e3⟩:=read_same hty hn ho1 (ho2 k3)
   rw [e1,e2]
   simp only [obs]
   cases g
   ·exact ⟨_,_,rfl,rfl,rfl,fun h=>by cases h⟩
   obtain rfl:=e3 rfl
   rw [b_article,r_article]
   simp only [obs,Bool.not_true,cond_false]
   cases artB a
   ·exact ⟨_,_,rfl,rfl,rfl,fun h=>by cases h⟩
   have hroom:roomB (out++[a]).length 56=true:=by unfold roomB; rw [List.length_append]; exact dzT (by simp; omega)
   have hl2:(out++[a]).length≤12:=by rw [List.length_append]; simp; omega
   rw [hroom]
   cases eqI a.Kind 6
   ·cases tax
    ·exact hrec (out++[a]) false hl2
    ·exact hrec (out++[a]) true hl2
   ·cases tax
    ·exact hrec (out++[a]) true hl2
    ·exact ⟨_,_,rfl,rfl,rfl,fun h=>by cases h⟩
 exact key x.Kids.length 0 n n [] false (by omega) (by omega) (by omega) (by simp)
end Go.Proofs
namespace Go.Proofs
open Go Go.Abs
set_option maxRecDepth 100000
set_option linter.unusedVariables false
theorem r_inL {n:Nat} {l:List (List UInt8)} {s:List UInt8} (hl:l.length≤9223372036854775807) (hn:l.length < n):Does (g_ref02_In n l s) (fun r=>leI 0 r=l.contains s):=by
 unfold g_ref02_In
 have:=does_idx (B:=fun recl1 l1=>g_ref02_In_l1 l s recl1 l1) (n:=n) (L:=l.length) (fun i r=>leI 0 r=(l.drop i).contains s) hl (fun rec i hi hr=>?_) 0 (by omega) (by omega)
 ·exact this
 unfold g_ref02_In_l1
 simp only [lenI,List.length_map,ltI]
 by_cases c1:i < l.length
 rotate_left
 ·rw [dzF (by omega),cond_false,List.drop_eq_nil_of_le (by omega)]; exact does_some rfl
 obtain ⟨w1,w2⟩:=hr c1
 rw [dzT (by omega),cond_true,getI_nat,List.getElem?_eq_getElem c1,obs,w1,List.drop_eq_getElem_cons c1,List.contains_cons]
 generalize l[i]'c1=y
 unfold eqS
 by_cases h:y=s
 ·subst h
  rw [beq_self_eq_true,cond_true]
  exact does_some (by rw [Bool.true_or]; exact dzT (by omega))
 ·rw [show (y == s)=false from by simpa using h,show (s == y)=false from by simpa using fun e=>h e.symm,cond_false,Bool.false_or]
  exact w2
theorem mg_set (s k:List UInt8):∀ m:List (List UInt8 × Bool),mgetD me_msb s false (mset me_msb k true m)=(mgetD me_msb s false m||(s == k))
 | []=>by
  unfold mset mgetD mget mget me_msb eqS
  by_cases h:s=k
  ·subst h; simp
  ·rw [show (s == k)=false from by simpa using h]; rfl
 | (q,w) :: m=>by
  have ih:=mg_set s k m
  unfold mgetD at ih ⊢
  unfold mset
  unfold me_msb eqS at ih ⊢
  by_cases h:k=q
  ·subst h
   rw [beq_self_eq_true,cond_true]
   unfold mget
   by_cases h2:s=k
   ·subst h2; simp
   ·rw [show (s == k)=false from by simpa using h2]; simp
  ·rw [show (k == q)=false from by simpa using h,cond_false]
   unfold mget
   by_cases h2:s=q
   ·subst h2
    rw [beq_self_eq_true,cond_true,cond_true,show (s == k)=false from by simpa using fun e=>h e.symm,Bool.or_false]
   ·rw [show (s == q)=false from by simpa using h2,cond_false,cond_false]
    exact ih
theorem sum_mem {f:GNode→Int} (hf:∀ y,0≤f y):∀ {l:List GNode} {y:GNode},y ∈ l→f y≤(l.map f).sum
 | [],y,h=>by cases h
 | a :: l,y,h=>by
  have h1:=hf a
  have h2:=sum_nonneg hf l
  simp only [List.map_cons,List.sum_cons]
  rcases List.mem_cons.1 h with rfl | h
  ·omega
  ·have:=sum_mem hf h; omega
theorem item_arts {y:GNode} (hi:itemB y=true) (hs:(y.Kids.length:Int)+pwL (kidsL y.Kids)≤1499):artsOk y∧y.Kids.length≤1500:=by
 have hp:=pw_nonneg (kidsL y.Kids)
 refine ⟨fun k hk=>?_,by omega⟩
 have h1:(k.Kids.length:Int)≤pwL (kidsL y.Kids):=sum_mem (f:=fun k=>(k.Kids.length:Int)) (fun y=>by omega) hk
 refine ⟨by omega,fun h3=>?_⟩
 have hitem:itemK (decide (y.N=7)) false (kidsL y.Kids)=true:=by
  unfold itemB at hi
  simp only [bae] at hi
  exact hi.2.2.2.2
 have:∀ (l:List GNode) (p:Bool),itemK (decide (y.N=7)) p l=true→∀ k ∈ l,npartB k=true:=by
  intro l
  induction l with
  | nil=>intro p _ k hk; cases hk
  | cons a l ih =>
   intro p h k hk
   unfold itemK at h
   simp only [bae] at h
   rcases List.mem_cons.1 hk with rfl | hk
   ·exact h.1.1.1
   ·exact ih _ h.2 k hk
 have hpb:=this _ _ hitem k hk
 unfold npartB at hpb
 rw [dzF h3] at hpb
 simp only [bae,Bool.false_and,Bool.false_or] at hpb
 exact hpb.2.1.2
section
variable {n d:Nat} {x:GNode}
def tBu (n:Nat) (x:GNode) (rec:(List GTf) × (List GDg) × Int × Int × (List ((List UInt8) × Bool))→Option ((List GTf) × (List GDg))) (v:(List GTf) × (List GDg) × Int × Int × (List ((List UInt8) × Bool))):Option ((List GTf) × (List GDg)) :=
 g_t_Build_l3 n x rec v.1 v.2.1 v.2.2.1 v.2.2.2.1 v.2.2.2.2
def rBu (n:Nat) (x:GNode) (rec:(List GTf) × (List GDg) × (List (List UInt8)) × Int→Option ((List GTf) × (List GDg))) (v:(List GTf) × (List GDg) × (List (List UInt8)) × Int):Option ((List GTf) × (List GDg)) :=
 g_ref32_Build_l3 n x rec v.1 v.2.1 v.2.2.1 v.2.2.2
def itemsOk (n:Nat) (x:GNode):Prop:=∀ (i:Nat),i < x.Kids.length→∃ y r r',Option.bind (getI x.Kids (i:Int)) GNode.of=some y∧(y.N=7→g_t_articles n y=some r∧g_ref32_build n y=some r'∧r'.2=r.2∧(r.2.Err=0→r'.1=⟨y.Name,r.1⟩∧r.1.length≤12))
theorem rfull (hn:1000000≤n) (hlen:x.Kids.length≤1500) (hok:itemsOk n x):∀ (m i k:Nat) (out:List GTf) (dg:List GDg) (names:List (List UInt8)),i+m=x.Kids.length→m < k→out.length≤i→names.length≤i→dg.length=20 →
  ∃ l,loopN (rBu n x) k (out,dg,names,(i:Int))=some (l,dg):=by
 intro m
 induction m with
 | zero =>
  intro i k out dg names h1 h2 h3 h4 h5
  obtain ⟨k,rfl⟩:∃ q,k=q+1:=⟨k - 1,by omega⟩
  rw [loopN_s]
  unfold rBu g_ref32_Build_l3
  simp only
  rw [show ltI (i:Int) (lenI (List.map idc x.Kids))=false from ltI_f (by simp only [lenI,List.length_map]; omega)]
  exact ⟨_,rfl⟩
 | succ m ih =>
  intro i k out dg names h1 h2 h3 h4 h5
  obtain ⟨k,rfl⟩:∃ q,k=q+1:=⟨k - 1,by omega⟩
  rw [loopN_s (n:=k)]
  have hrec:=fun out names=>ih (i+1) k out dg names (by omega) (by omega)
  generalize loopN (rBu n x) k=rr at hrec ⊢
  obtain ⟨y,r,r',hy,hr⟩:=hok i (by omega)
  have w1:wi ((i:Int)+1)=((i+1:Nat):Int):=by rw [wi_id (by omega) (by omega)]; omega
  unfold rBu g_ref32_Build_l3
  simp only [w1]
  rw [show ltI (i:Int) (lenI (List.map idc x.Kids))=true from ltI_t (by simp only [lenI,List.length_map]; omega),hy]
  simp only [cond_true,obs,eqI_d]
  by_cases h7:y.N=7
  rotate_left
  ·rw [dzF h7]
   exact hrec out names (by omega) (by omega) h5
  obtain ⟨_,e2,_⟩:=hr h7
  obtain ⟨q,eq,_⟩:=r_inL (n:=n) (l:=names) (s:=y.Name) (by omega) (by omega)
  rw [dzT h7,e2,eq]
  simp only [Bool.not_true,cond_false,cond_some,obs]
  have hroom:roomB (names++[y.Name]).length 16=true:=by unfold roomB; rw [List.length_append]; exact dzT (by simp; omega)
  have hroom2:roomB (out++[r'.1]).length 40=true:=by unfold roomB; rw [List.length_append]; exact dzT (by simp; omega)
  rw [hroom,hroom2,show ltI (lenI (List.map GDg.cs dg)) 20=false from ltI_f (by simp only [lenI,List.length_map]; omega)]
  simp only [cond_true,cond_false]
  have hA:=hrec (out++[r'.1]) (names++[y.Name]) (by rw [List.length_append]; simp; omega) (by rw [List.length_append]; simp; omega) h5
  have hB:=hrec out (names++[y.Name]) (by omega) (by rw [List.length_append]; simp; omega) h5
  cases leI 0 q
  ·cases leI 8 (lenI (List.map cstr names))
   ·simp only [cond_false]
    cases decide (r'.2.Err=0)
    ·exact hB
    ·exact hA
   ·exact hB
  ·exact hB
theorem build_loop (hn:1000000≤n) (hlen:x.Kids.length≤1500) (hok:itemsOk n x):∀ (m i k1 k2:Nat) (outT outR:List GTf) (dg:List GDg) (names:List (List UInt8)) (mp:List (List UInt8 × Bool)),i+m=x.Kids.length→m < k1→m < k2→outT.length≤i→outR.length≤i→names.length≤i→dg.length≤19 →
  (∀ s,mgetD me_msb s false mp=names.contains s)→(dg=[]→outT=outR∧∀ t ∈ outT,t.Articles.length≤12) →
  ∃ r r',loopN (tBu n x) k1 (outT,dg,(names.length:Int),(i:Int),mp)=some r∧loopN (rBu n x) k2 (outR,dg,names,(i:Int))=some r'∧r'.2=r.2∧r.2.length≤20∧(r.2=[]→r.1=r'.1∧r.1.length≤1500∧∀ t ∈ r.1,t.Articles.length≤12):=by
 intro m
 induction m with
 | zero =>
  intro i k1 k2 outT outR dg names mp h1 h2 h3 h4 h5 h6 h7 h8 h9
  obtain ⟨k1,rfl⟩:∃ q,k1=q+1:=⟨k1 - 1,by omega⟩
  obtain ⟨k2,rfl⟩:∃ q,k2=q+1:=⟨k2 - 1,by omega⟩
  rw [loopN_s,loopN_s]
  unfold tBu rBu g_t_Build_l3 g_ref32_Build_l3
  simp only
  rw [show ltI (i:Int) (lenI (List.map idc x.Kids))=false from ltI_f (by simp only [lenI,List.length_map]; omega)]
  exact ⟨_,_,rfl,rfl,rfl,by simp only; omega,fun h=>⟨(h9 h).1,by simp only; omega,(h9 h).2⟩⟩
 | succ m ih =>
  intro i k1 k2 outT outR dg names mp h1 h2 h3 h4 h5 h6 h7 h8 h9
  obtain ⟨k1,rfl⟩:∃ q,k1=q+1:=⟨k1 - 1,by omega⟩
  obtain ⟨k2,rfl⟩:∃ q,k2=q+1:=⟨k2 - 1,by omega⟩
  rw [loopN_s (n:=k1),loopN_s (n:=k2)]
  have hrec:=fun outT outR dg names mp=>ih (i+1) k1 k2 outT outR dg names mp (by omega) (by omega) (by omega)
  have hful:=fun out dg names=>rfull hn hlen hok m (i+1) k2 out dg names (by omega) (by omega)
  generalize loopN (tBu n x) k1=tr at hrec ⊢
  generalize loopN (rBu n x) k2=rr at hrec hful ⊢
  obtain ⟨y,r,r',hy,hr⟩:=hok i (by omega)
  have w1:wi ((i:Int)+1)=((i+1:Nat):Int):=by rw [wi_id (by omega) (by omega)]; omega
  have w2:wi ((names.length:Int)+1)=((names++[y.Name]).length:Int):=by rw [wi_id (by omega) (by omega),List.length_append]; simp
  unfold tBu rBu g_t_Build_l3 g_ref32_Build_l3
  simp only [w1,w2]
  rw [show ltI (i:Int) (lenI (List.map idc x.Kids))=true from ltI_t (by simp only [lenI,List.length_map]; omega),hy]
  simp only [cond_true,obs,eqI_d]
  by_cases hN:y.N=7
  rotate_left
  ·rw [dzF hN]
   exact hrec outT outR dg names mp (by omega) (by omega) (by omega) h7 h8 h9
  obtain ⟨e1,e2,e3,e4⟩:=hr hN
  obtain ⟨q,eq,hq⟩:=r_inL (n:=n) (l:=names) (s:=y.Name) (by omega) (by omega)
  rw [dzT hN,e1,e2,eq,h8]
  simp only [Bool.not_true,cond_false,cond_some,obs]
  rw [hq,e3,show lenI (List.map cstr names)=(names.length:Int) from by simp only [lenI,List.length_map]]
  have hl1:(names++[y.Name]).length=names.length+1:=by simp
  have hroom:roomB (names++[y.Name]).length 16=true:=by unfold roomB; rw [hl1]; exact dzT (by omega)
  have hroom2:roomB (outR++[r'.1]).length 40=true:=by unfold roomB; rw [List.length_append]; exact dzT (by simp; omega)
  have hroom3:∀ a:List GAr,roomB (outT++[(⟨y.Name,a⟩:GTf)]).length 40=true:=fun a=>by unfold roomB; rw [List.length_append]; exact dzT (by simp; omega)
  have hroom4:∀ a:GDg,roomB (dg++[a]).length 16=true:=fun a=>by unfold roomB; rw [List.length_append]; exact dzT (by simp; omega)
  have hmp:∀ s,mgetD me_msb s false (mset me_msb y.Name true mp)=(names++[y.Name]).contains s:=by
   intro s
   rw [mg_set,h8,Bool.eq_iff_iff]
   simp
  rw [hroom,hroom2,show ltI (lenI (List.map GDg.cs dg)) 20=true from ltI_t (by simp only [lenI,List.length_map]; omega)]
  simp only [cond_true]
  have herr:∀ (e a:Int) (arts:List GAr),e ≠ 0→∃ z z',
    (cond (!decide (e=0)) (cond (roomB (List.length (dg++[(⟨e,a⟩:GDg)])) 16) (some (dg++[(⟨e,a⟩:GDg)])) none) (some dg)).bind (fun j7=>cond (decide (lenI (List.map GDg.cs j7)=20)) (some (outT,j7)) (cond (roomB (List.length (outT++[(⟨y.Name,arts⟩:GTf)])) 40) (tr (outT++[(⟨y.Name,arts⟩:GTf)],j7,((names++[y.Name]).length:Int),((i+1:Nat):Int),mset me_msb y.Name true mp)) none))=some z ∧
    cond (decide (e=0)) (rr (outR++[r'.1],dg,names++[y.Name],((i+1:Nat):Int))) (cond (roomB (List.length (dg++[(⟨e,a⟩:GDg)])) 16) (rr (outR,dg++[(⟨e,a⟩:GDg)],names++[y.Name],((i+1:Nat):Int))) none)=some z'∧z'.2=z.2∧z.2.length≤20∧(z.2=[]→z.1=z'.1∧z.1.length≤1500∧∀ t ∈ z.1,t.Articles.length≤12):=by
   intro e a arts he
   rw [dzF he,hroom4,hroom3]
   simp only [Bool.not_false,cond_true,cond_false,obs,lenI,List.length_map]
   by_cases h20:dg.length=19
   ·obtain ⟨l,hl⟩:=hful outR (dg++[⟨e,a⟩]) (names++[y.Name]) (by omega) (by omega) (by simp; omega)
    rw [dzT (by simp; omega),cond_true]
    exact ⟨_,_,rfl,hl,rfl,by simp; omega,fun h=>by simp at h⟩
   ·rw [dzF (by simp; omega),cond_false]
    exact hrec _ _ _ _ _ (by simp; omega) (by omega) (by omega) (by simp; omega) hmp (fun h=>by simp at h)
  cases hb:names.contains y.Name
  rotate_left
  ·exact herr 5 y.At [] (by decide)
  simp only [cond_false]
  cases h8':leI 8 (names.length:Int)
  rotate_left
  ·exact herr 2 y.At [] (by decide)
  simp only [cond_false]
  by_cases he:r.2.Err=0
  rotate_left
  ·exact herr r.2.Err r.2.At r.1 he
  obtain ⟨g1,g2⟩:=e4 he
  rw [dzT he,hroom3]
  simp only [Bool.not_true,cond_true,cond_false,obs,lenI,List.length_map]
  rw [dzF (by omega),cond_false]
  refine hrec _ _ _ _ _ (by simp; omega) (by simp; omega) (by omega) h7 hmp (fun h=>?_)
  obtain ⟨f1,f2⟩:=h9 h
  refine ⟨by rw [f1,g1],fun t ht=>?_⟩
  rcases List.mem_append.1 ht with ht | ht
  ·exact f2 t ht
  ·simp only [List.mem_singleton] at ht
   subst ht
   exact g2
end
theorem build_same {n d:Nat} {x:GNode} (ht:treeD d x) (hn:9223372036854776000≤n) (hs:(x.Kids.length:Int)+swL (kidsL x.Kids)≤1499) (hp:g_p_Valid n x=some (validB x)) (hr:g_ref02_Valid n x=some (validB x)) :
  ∃ l dg,g_t_Build n x=some (l,dg)∧g_ref32_Build n x=some (l,dg)∧l.length≤1500∧(∀ t ∈ l,t.Articles.length≤12)∧dg.length≤20:=by
 obtain ⟨e,rfl,hl,_,hk⟩:=tree_kids ht
 have hsw:=sw_nonneg (kidsL x.Kids)
 unfold g_t_Build g_ref32_Build
 rw [hp,hr]
 simp only [obs]
 cases hv:validB x
 ·exact ⟨[],[⟨1,0⟩],rfl,rfl,by simp,fun t h=>by simp at h,by simp⟩
 have hall:(kidsL x.Kids).all itemB=true:=by
  unfold validB at hv
  simp only [bae] at hv
  exact hv.2.2.2
 have hok:itemsOk n x:=by
  intro i hi
  obtain ⟨y,hy,hty,hc⟩:=kidL_at hk hi
  by_cases h7:y.N=7
  rotate_left
  ·exact ⟨y,([],⟨0,0⟩),(⟨[],[]⟩,⟨0,0⟩),hy,fun h=>absurd h h7⟩
  have hmem:y ∈ kidsL x.Kids:=by
   have:y ∈ kidsL (x.Kids.drop i):=by rw [hc]; simp
   obtain ⟨c,h5,h6⟩:=List.mem_filterMap.1 this
   exact List.mem_filterMap.2 ⟨c,List.mem_of_mem_drop h5,h6⟩
  have hw:(y.Kids.length:Int)+pwL (kidsL y.Kids)≤swL (kidsL x.Kids):=sum_mem (f:=fun k=>(k.Kids.length:Int)+pwL (kidsL k.Kids)) (fun y=>by have:=pw_nonneg (kidsL y.Kids); omega) hmem
  obtain ⟨g1,g2⟩:=item_arts (List.all_eq_true.1 hall y hmem) (by omega)
  obtain ⟨r,r',f1,f2,f3,f4⟩:=arts_same hty (n:=n) (by omega) g2 g1
  exact ⟨y,r,r',hy,fun _=>⟨f1,f2,f3,f4⟩⟩
 obtain ⟨r,r',e1,e2,e3,e4,e5⟩:=build_loop (n:=n) (x:=x) (by omega) (by omega) hok x.Kids.length 0 n n [] [] [] [] [] (by omega) (by omega) (by omega) (by simp) (by simp) (by simp) (by simp) (fun s=>rfl) (fun _=>⟨rfl,fun t h=>by simp at h⟩)
 have e1':loopN (fun recl3 (v:(List GTf) × (List GDg) × Int × Int × (List ((List UInt8) × Bool)))=>match v with | (l3_1,l3_2,l3_3,l3_4,l3_5)=>g_t_Build_l3 n x recl3 l3_1 l3_2 l3_3 l3_4 l3_5) n ([],[],0,0,[])=some r:=e1
 have e2':loopN (fun recl3 (v:(List GTf) × (List GDg) × (List (List UInt8)) × Int)=>match v with | (l3_1,l3_2,l3_3,l3_4)=>g_ref32_Build_l3 n x recl3 l3_1 l3_2 l3_3 l3_4) n ([],[],[],0)=some r':=e2
 simp only [Bool.not_true,cond_false]
 rw [e1',e2']
 obtain ⟨l,dg⟩:=r
 obtain ⟨l',dg'⟩:=r'
 simp only at e3 e4 e5 ⊢
 subst e3
 simp only [obs]
 cases dg' with
 | nil =>
  obtain ⟨f1,f2,f3⟩:=e5 rfl
  subst f1
  exact ⟨l,[],rfl,rfl,f2,f3,by simp⟩
 | cons a q =>
  rw [show ltI 0 (lenI (List.map GDg.cs (a :: q)))=true from ltI_t (by simp only [lenI,List.length_map,List.length_cons]; omega)]
  exact ⟨[],a :: q,rfl,rfl,by simp,fun t h=>by simp at h,e4⟩
end Go.Proofs
namespace Go.Proofs
open Go Go.Abs
set_option maxRecDepth 100000
set_option linter.unusedVariables false
theorem sameL (n:Nat) (l:List GTf) (hn:1000000≤n) (hl:l.length≤1500) (ha:∀ t ∈ l,t.Articles.length≤12):g_ref32_SameList n l l=some true:=by
 have:Does (loopN (fun recl1 l1=>g_ref32_SameList_l1 n l l recl1 l1) n 0) (fun r=>r=true):=by
  refine does_idx (B:=fun recl1 l1=>g_ref32_SameList_l1 n l l recl1 l1) (n:=n) (L:=l.length) (fun _ r=>r=true) (by omega) (fun rec i hi hr=>?_) 0 (by omega) (by omega)
  unfold g_ref32_SameList_l1
  simp only [lenI,List.length_map,ltI]
  by_cases c1:i < l.length
  rotate_left
  ·rw [dzF (by omega)]; exact does_some rfl
  obtain ⟨w1,w2⟩:=hr c1
  have hm:=ha _ (List.getElem_mem c1)
  rw [dzT (by omega),cond_true,getI_nat,List.getElem?_eq_getElem c1,w1]
  generalize l[i]'c1=t at hm
  simp only [obs]
  rw [same32 n t (by omega) (by omega)]
  exact w2
 obtain ⟨r,e,rfl⟩:=this
 unfold g_ref32_SameList
 rw [eqI_d,dzT rfl]
 exact e
theorem sameD (n:Nat) (l:List GDg) (hn:1000000≤n) (hl:l.length≤20):g_ref02_SameDiags n l l=some true:=by
 have:Does (loopN (fun recl1 l1=>g_ref02_SameDiags_l1 l l recl1 l1) n 0) (fun r=>r=true):=by
  refine does_idx (B:=fun recl1 l1=>g_ref02_SameDiags_l1 l l recl1 l1) (n:=n) (L:=l.length) (fun _ r=>r=true) (by omega) (fun rec i hi hr=>?_) 0 (by omega) (by omega)
  unfold g_ref02_SameDiags_l1
  simp only [lenI,List.length_map,ltI]
  by_cases c1:i < l.length
  rotate_left
  ·rw [dzF (by omega)]; exact does_some rfl
  obtain ⟨w1,w2⟩:=hr c1
  rw [dzT (by omega),cond_true,getI_nat,List.getElem?_eq_getElem c1,w1]
  generalize l[i]'c1=t
  simp only [obs,eqI_d,decide_true,Bool.and_self,opq_d,Bool.not_true,cond_false]
  exact w2
 obtain ⟨r,e,rfl⟩:=this
 unfold g_ref02_SameDiags
 rw [eqI_d,dzT rfl]
 exact e
theorem app_same (n:Nat) (c:GCl) (a:GAr) (m:Int) (hn:1000≤n) (h1:c.Changes.length≤900) (h2:c.Holidays.length≤900):∃ b,g_t_Applies n a c m=some b∧g_ref32_Applies n a c m=some b:=by
 cases ha:artB a
 ·refine ⟨false,?_,?_⟩
  ·unfold g_t_Applies
   rw [b_article,ha]; rfl
  ·unfold g_ref32_Applies
   rw [r_article,ha]; rfl
 by_cases hg:calB c=true∧(0≤m∧m≤52560000)
 ·exact ⟨_,b_applies n c a m hn h1 h2 hg.1 ha hg.2,r_applies n c a m hn h1 h2 hg.1 ha hg.2⟩
 refine ⟨false,?_,?_⟩
 ·have e:g_days_Local n c m=some (0,0,1):=by
   unfold g_days_Local
   rw [b_cal n c hn h1 h2,b_dinside]
   simp only [obs,cond_some]
   cases hc:calB c
   ·rfl
   ·rw [dzF (fun h=>hg ⟨hc,h⟩)]; rfl
  unfold g_t_Applies
  rw [b_article,ha,obs,e]; rfl
 ·have e:g_ref26_Local n c m=some (0,0,1):=by
   unfold g_ref26_Local
   rw [r_cal n c hn h1 h2]
   simp only [obs,cond_some,ltI]
   cases hc:calB c
   ·rfl
   ·have hm:¬ (0≤m∧m≤52560000):=fun h=>hg ⟨hc,h⟩
    by_cases h0:m < 0
    ·rw [dzT h0]; rfl
    ·rw [dzF h0,dzT (show 52560000 < m by omega)]; rfl
  unfold g_ref32_Applies
  rw [r_article,ha,obs,e]; rfl
theorem cfew (n:Nat) (c:GCl):∃ b,g_ref26_Few n c=some b∧(b=true→c.Changes.length≤900∧c.Holidays.length≤900):=by
 unfold g_ref26_Few
 simp only [cond_some,lenI,List.length_map,leI]
 refine ⟨_,rfl,fun h=>?_⟩
 simp [Bool.cond_eq_ite] at h
 omega
theorem matches_gen {n d:Nat} {x:GNode} (t:GTf) (a:GAr) (c:GCl) (m:Int) (ht:treeD d x) (hn:9223372036854776000≤n) (hh:g_law32_head n=some true):g_law32_TariffMatchesReference n x t a c m=some true:=by
 obtain ⟨b1,e1,h1⟩:=few_valid ht hn
 obtain ⟨b2,e2,h2⟩:=few32 n t
 obtain ⟨b3,e3,h3⟩:=cfew n c
 unfold g_law32_TariffMatchesReference
 rw [hh,e1,e2,e3]
 simp only [obs]
 cases b1
 ·rfl
 cases b2
 ·rfl
 cases b3
 ·rfl
 obtain ⟨f1,f2,f3⟩:=h1 rfl
 obtain ⟨l,dg,g1,g2,g3,g4,g5⟩:=build_same ht hn f3 f1 f2
 obtain ⟨q1,q2⟩:=h3 rfl
 obtain ⟨b,k1,k2⟩:=app_same n c a m (by omega) q1 q2
 rw [g1,g2,b_tariff n t (by omega),r_tariff n t (by omega) (h2 rfl),k1,k2]
 simp only [obs]
 rw [sameL n l (by omega) g3 g4,sameD n dg (by omega) g5]
 simp only [obs,beq_self_eq_true,opq_d]
 rfl
theorem matches32_plain {d:Nat} {x:GNode} (t:GTf) (a:GAr) (c:GCl) (m:Int) (ht:treeD d x):g_law32_TariffMatchesReference 36893488147419103232 x t a c m=some true:=by
 have hN:(36893488147419103232:Nat)=N0:=rfl
 have hh:g_law32_head N0=some true:=head32_big
 have h1:9223372036854776000≤N0:=by unfold N0; omega
 rw [hN]
 generalize N0=n at hh h1 ⊢
 exact matches_gen t a c m ht h1 hh
end Go.Proofs
namespace Go.Proofs.YtkgamjjfjekgnaaGreat
open Go Go.Abs Go.Proofs
theorem tree_of:∀ (d:Nat) (x:GNode),GNode.wfd d x→treeD d x
 | 0,_,h=>h.elim
 | d+1,x,h=>by
  obtain ⟨h0,h1,h2,h3,h4⟩:=h
  exact ⟨h0,h2,h3,h1,h4.1,fun k hk=>by
   obtain ⟨y,e,g⟩:=h4.2 k hk
   exact ⟨y,by rw [e]; exact of_cs' _ _ _ _ _,tree_of d y g⟩⟩
theorem tariffMatchesReference_holds:Rows.TariffMatchesReferenceSaid :=
 tariffMatchesReference_said (fun x t a c m h _ _ _ _=>by
  obtain ⟨d,h⟩:=h
  exact ⟨_,matches32_plain t a c m (tree_of d x h)⟩)
end Go.Proofs.YtkgamjjfjekgnaaGreat
