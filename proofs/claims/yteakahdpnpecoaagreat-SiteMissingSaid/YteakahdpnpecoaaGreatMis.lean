/-
  A part of the proof of a statement of the seat YteakahdpnpecoaaGreat.
-/
import Derived.Test.YteakahdpnpecoaaGreatMis05
set_option linter.unusedVariables false
namespace Go.Proofs
open Go Go.Abs
set_option maxRecDepth 100000
def cardQ (cs:List GCt) (a:GN) (f:List Int→SQ):Except (Int × Int) SQ:=eb (snF a [(⟨1,1000000⟩:GSp)]) fun l=>if cs.all (fun c=>!decide (c.Card=l.getD 0 0)) then .ok (f l) else .error (5,a.At)
def attG (ks:List Int) (k:Int) (a:GN) (h:HasM) (v:Except (Int × Int) SQ):Except (Int × Int) (SQ × HasM) :=
 if ks.contains k then if hasN h a.Name then .error (5,a.At) else eb v fun q=>.ok (q,mset me_msb a.Name true h) else .error (9,a.At)
def attS (k:Int) (cs:List GCt) (th:ThM) (a:GN) (q:SQ) (h:HasM):Except (Int × Int) (SQ × HasM) :=
 if a.Name=[108,105,109,105,116] then attG [1,2] k a h (numQ a [(⟨1,1000⟩:GSp)] fun l=>(⟨q.1.Name,q.1.Up,l.getD 0 0,q.1.Neutral,q.1.Fuse,q.1.Cable⟩,q.2)) else
 if a.Name=[110,101,117,116,114,97,108] then attG [1,2] k a h (numQ a [(⟨1,1000⟩:GSp)] fun l=>(⟨q.1.Name,q.1.Up,q.1.Limit,l.getD 0 0,q.1.Fuse,q.1.Cable⟩,q.2)) else
 if a.Name=[102,117,115,101] then attG [1,2] k a h (numQ a [(⟨1,1000⟩:GSp),(⟨0,1000000⟩:GSp)] fun l=>(⟨q.1.Name,q.1.Up,q.1.Limit,q.1.Neutral,⟨l.getD 0 0,l.getD 1 0⟩,q.1.Cable⟩,q.2)) else
 if a.Name=[116,104,101,114,109,97,108] then attG [1,2] k a h (numQ a [(⟨0,200000⟩:GSp),(⟨0,200000⟩:GSp),(⟨0,1000⟩:GSp),(⟨0,1000⟩:GSp),(⟨1,1000000⟩:GSp)] fun l=>(⟨q.1.Name,q.1.Up,q.1.Limit,q.1.Neutral,q.1.Fuse,⟨l.getD 0 0,l.getD 1 0,l.getD 2 0,l.getD 3 0,l.getD 4 0⟩⟩,q.2)) else
 if a.Name=[102,114,111,109] then attG [2] k a h (nmQ [1,2] th a fun x=>(⟨q.1.Name,x,q.1.Limit,q.1.Neutral,q.1.Fuse,q.1.Cable⟩,q.2)) else
 if a.Name=[111,119,110,101,114] then attG [4,5] k a h (nmQ [3] th a fun x=>(q.1,⟨q.2.1.Name,x,q.2.1.Rank,q.2.1.Card⟩,⟨q.2.2.1.Name,q.2.2.1.At,q.2.2.1.Phases,q.2.2.1.Min,q.2.2.1.Max,q.2.2.1.Step,q.2.2.1.Fallback,x⟩,q.2.2.2)) else
 if a.Name=[114,97,110,107] then attG [4] k a h (numQ a [(⟨1,9⟩:GSp)] fun l=>(q.1,⟨q.2.1.Name,q.2.1.Owner,l.getD 0 0,q.2.1.Card⟩,q.2.2)) else
 if a.Name=[99,97,114,100] then attG [4] k a h (cardQ cs a fun l=>(q.1,⟨q.2.1.Name,q.2.1.Owner,q.2.1.Rank,l.getD 0 0⟩,q.2.2)) else
 if a.Name=[97,116] then attG [5] k a h (nmQ [1,2] th a fun x=>(q.1,q.2.1,⟨q.2.2.1.Name,x,q.2.2.1.Phases,q.2.2.1.Min,q.2.2.1.Max,q.2.2.1.Step,q.2.2.1.Fallback,q.2.2.1.Owner⟩,q.2.2.2)) else
 if a.Name=[112,104,97,115,101,115] then attG [5] k a h (eb (phF a) fun x=>.ok (q.1,q.2.1,⟨q.2.2.1.Name,q.2.2.1.At,x,q.2.2.1.Min,q.2.2.1.Max,q.2.2.1.Step,q.2.2.1.Fallback,q.2.2.1.Owner⟩,q.2.2.2)) else
 if a.Name=[97,109,112,115] then attG [5] k a h (numQ a [(⟨1,80⟩:GSp),(⟨1,80⟩:GSp),(⟨1,80⟩:GSp)] fun l=>(q.1,q.2.1,⟨q.2.2.1.Name,q.2.2.1.At,q.2.2.1.Phases,l.getD 0 0,l.getD 1 0,l.getD 2 0,q.2.2.1.Fallback,q.2.2.1.Owner⟩,q.2.2.2)) else
 if a.Name=[102,97,108,108,98,97,99,107] then attG [5] k a h (numQ a [(⟨0,80⟩:GSp)] fun l=>(q.1,q.2.1,⟨q.2.2.1.Name,q.2.2.1.At,q.2.2.1.Phases,q.2.2.1.Min,q.2.2.1.Max,q.2.2.1.Step,l.getD 0 0,q.2.2.1.Owner⟩,q.2.2.2)) else
 if a.Name=[99,104,97,114,103,101,114] then attG [6] k a h (nmQ [5] th a fun x=>(q.1,q.2.1,q.2.2.1,⟨q.2.2.2.Name,x⟩)) else
 .error (9,a.At)
def attF (k:Int) (cs:List GCt) (th:ThM):List GN→SQ→HasM→Except (Int × Int) (SQ × HasM)
 | [],q,h=>.ok (q,h)
 | a :: l,q,h=>if a.Kind=3 then eb (attS k cs th a q h) fun v=>attF k cs th l v.1 v.2 else attF k cs th l q h
def pj {X V:Type}:Except ((Int × Int) × X) V→Except (Int × Int) V
 | .ok v=>.ok v
 | .error e=>.error e.1
abbrev AQ:=GCo × GCt × GCg × GBay × HasM
abbrev AE:=(Int × Int) × AQ
def aqF (r:Except (Int × Int) (SQ × HasM)):Except (Int × Int) AQ:=eb r fun v=>.ok (v.1.1,v.1.2.1,v.1.2.2.1,v.1.2.2.2,v.2)
section
variable {n:Nat} {ks:List Int} {b:Bool} {k:Int} {a:GN} {h:HasM} {v:Except (Int × Int) SQ} {M:Option (Except AE AQ)} {E1 E2:AQ} {C:SQ × HasM→Except (Int × Int) (SQ × HasM)}
theorem att_br (hl:ks.length≤1000) (hn:2000≤n) (hM:Does M (fun r=>pj r=aqF (eb v fun q=>C (q,mset me_msb a.Name true h)))) :
  Does ((g_site_rule_of n ks b k).bind fun r7=>cond (!r7) (some (.error ((9,a.At),E1))) (cond (mgetD me_msb a.Name false h) (some (.error ((5,a.At),E2))) M)) (fun r=>pj r=aqF (eb (attG ks k a h v) C)):=by
 rw [r_rule hl hn,obs]
 unfold attG hasN
 by_cases h1:ks.contains k=true
 ·rw [h1,if_pos rfl]
  by_cases h2:mgetD me_msb a.Name false h=true
  ·rw [h2,if_pos rfl]; exact does_some rfl
  ·simp only [Bool.not_eq_true] at h2
   rw [h2,if_neg zq]
   refine does_mono hM fun r hr=>?_
   rw [hr]
   cases v <;> rfl
 ·simp only [Bool.not_eq_true] at h1
  rw [h1,if_neg zq]
  exact does_some rfl
theorem att_num {d:Nat} {sp:List GSp} {f:List Int→SQ} {F:List Int→Option (Except AE AQ)} {G:(Int × Int)→Option (Except AE AQ)} {X:(Int × Int)→AQ} (ht:treeD d a) (hn:9223372036854776000≤n) (hs:sp.length≤10)
  (hG:∀ e,G e=some (.error ((e.1,e.2),X e))) (hF:∀ l,l.length=sp.length→Does (F l) (fun r=>pj r=aqF (C (f l,mset me_msb a.Name true h)))) :
  Does ((g_site_numbers n a sp).bind (exc F G)) (fun r=>pj r=aqF (eb (numQ a sp f) fun q=>C (q,mset me_msb a.Name true h))):=by
 rw [s_numbers ht hn hs,obs]
 unfold numQ
 match hq:snF a sp with
 | .error e=>exact ⟨_,hG e,rfl⟩
 | .ok l=>exact hF l (snF_len ht hq).1
theorem att_card {d:Nat} {cs:List GCt} {f:List Int→SQ} {F:List Int→Option (Except AE AQ)} {G:(Int × Int)→Option (Except AE AQ)} {X:(Int × Int)→AQ} (ht:treeD d a) (hn:9223372036854776000≤n)
  (hG:∀ e,G e=some (.error ((e.1,e.2),X e))) (hF:∀ l,l.length=1→Does (F l) (fun r=>pj r=aqF (eb (if cs.all (fun c=>!decide (c.Card=l.getD 0 0)) then .ok (f l) else .error (5,a.At)) fun q=>C (q,mset me_msb a.Name true h)))) :
  Does ((g_site_numbers n a [(⟨1,1000000⟩:GSp)]).bind (exc F G)) (fun r=>pj r=aqF (eb (cardQ cs a f) fun q=>C (q,mset me_msb a.Name true h))):=by
 rw [s_numbers ht hn zq,obs]
 unfold cardQ
 match hq:snF a [(⟨1,1000000⟩:GSp)] with
 | .error e=>exact ⟨_,hG e,rfl⟩
 | .ok l=>exact hF l (snF_len ht hq).1
theorem att_val {y:Except (Int × Int) Int} {m:Option (Except (Int × Int) Int)} {f:Int→SQ} {F:Int→Option (Except AE AQ)} {G:(Int × Int)→Option (Except AE AQ)} {X:(Int × Int)→AQ} (hm:m=some y)
  (hG:∀ e,G e=some (.error ((e.1,e.2),X e))) (hF:∀ x,Does (F x) (fun r=>pj r=aqF (C (f x,mset me_msb a.Name true h)))) :
  Does (m.bind (exc F G)) (fun r=>pj r=aqF (eb (eb y fun x=>.ok (f x)) fun q=>C (q,mset me_msb a.Name true h))):=by
 rw [hm,obs]
 cases y with
 | error e=>exact ⟨_,hG e,rfl⟩
 | ok x=>exact hF x
end
theorem getI_D {l:List Int} {i:Nat} (h:i < l.length):getI l (i:Int)=some (l.getD i 0):=by
 rw [getI_nat,List.getElem?_eq_getElem h,List.getD_eq_getElem?_getD,List.getElem?_eq_getElem h]; rfl
theorem s_attrs {n d:Nat} {y:GN} {s:GSite} {f:Bool} {dd:List GDg} {h7 h10:HasM} {th:ThM} {c:GCo} {k:GCt} {g:GCg} {b:GBay} (ht:treeD d y) (hs:s.Contracts.length≤100) (hn:9223372036854776000≤n) :
  Does (g_sr_attrs n y c k g b s f dd h7 th h10) (fun r=>pj r=aqF (attF y.N s.Contracts th (kidsL y.Kids) (c,k,g,b) h10)):=by
 obtain ⟨e,rfl,hl,_,hk⟩:=tree_kids ht
 unfold g_sr_attrs
 refine does_loop (n:=n) (B:=fun recl1 (v:Int × GCo × GCt × GCg × GBay × HasM)=>g_sr_attrs_l1 n y s f dd h7 th recl1 v.1 v.2.1 v.2.2.1 v.2.2.2.1 v.2.2.2.2.1 v.2.2.2.2.2) (v:=(0,c,k,g,b,h10))
  (Q:=fun v r=>pj r=aqF (attF y.N s.Contracts th (kidsL (y.Kids.drop v.1.toNat)) (v.2.1,v.2.2.1,v.2.2.2.1,v.2.2.2.2.1) v.2.2.2.2.2)) (fun v=>y.Kids.length - v.1.toNat) (fun v=>∃ i:Nat,v.1=(i:Int)∧i≤y.Kids.length) ?_ ⟨0,rfl,by omega⟩ (by simp only; omega)
 rintro rec ⟨q,c,k,g,b,h⟩ ⟨i,hi,hil⟩ hrec
 simp only at hi hrec ⊢
 subst hi
 unfold g_sr_attrs_l1
 simp only [lenI,List.length_map,ltI,Int.toNat_natCast] at hrec ⊢
 by_cases c1:i < y.Kids.length
 rotate_left
 ·rw [dzF zo,cond_false,kidL_end _ zo]; exact does_some rfl
 obtain ⟨a,ha,hta,hc⟩:=kidL_at hk c1
 obtain ⟨C,hC⟩:∃ C:SQ × HasM→Except (Int × Int) (SQ × HasM),C=fun v=>attF y.N s.Contracts th (kidsL (y.Kids.drop (i+1))) v.1 v.2:=⟨_,rfl⟩
 have hnext:∀ c k g b h,Does (g_sr_attrs_j2 (i:Int) rec c k g b h) (fun r=>pj r=aqF (C ((c,k,g,b),h))):=by
  intro c k g b h
  rw [hC]
  unfold g_sr_attrs_j2
  rw [wi_id (x:=(i:Int)+1) zo zo]
  have:=hrec ((i:Int)+1,c,k,g,b,h) ⟨i+1,by simp,c1⟩ (by simp only; omega)
  simpa only [show ((i:Int)+1).toNat=i+1 by omega] using this
 rw [dzT zo,cond_true,ha,obs,hc,eqI_d]
 unfold attF
 by_cases h3:a.Kind=3
 rotate_left
 ·rw [dzF h3,if_neg h3,Bool.not_false,cond_true]
  have:=hnext c k g b h
  rw [hC] at this
  exact this
 rw [dzT h3,if_pos h3,Bool.not_true,cond_false]
 simp only [Bool.and_true]
 rw [← hC]
 unfold attS eqS
 by_cases c20:a.Name=[108,105,109,105,116]
 ·rw [if_pos c20,beq_iff_eq.2 c20,cond_true]
  refine att_br zq zo ?_
  refine att_num (sp:=[(⟨1,1000⟩:GSp)]) (C:=C) (X:=fun e=>_) hta hn zq (fun e=>rfl) (fun l hl1=>?_)
  simp only [zLC,List.length_nil] at hl1
  rw [show getI l 0=some (l.getD 0 0) from getI_D (i:=0) zo,obs]
  exact hnext _ _ _ _ _
 rw [if_neg c20,show (a.Name == [108,105,109,105,116])=false from by simpa using c20,cond_false]
 by_cases c21:a.Name=[110,101,117,116,114,97,108]
 ·rw [if_pos c21,beq_iff_eq.2 c21,cond_true]
  refine att_br zq zo ?_
  refine att_num (sp:=[(⟨1,1000⟩:GSp)]) (C:=C) (X:=fun e=>_) hta hn zq (fun e=>rfl) (fun l hl1=>?_)
  simp only [zLC,List.length_nil] at hl1
  rw [show getI l 0=some (l.getD 0 0) from getI_D (i:=0) zo,obs]
  exact hnext _ _ _ _ _
 rw [if_neg c21,show (a.Name == [110,101,117,116,114,97,108])=false from by simpa using c21,cond_false]
 by_cases c22:a.Name=[102,117,115,101]
 ·rw [if_pos c22,beq_iff_eq.2 c22,cond_true]
  refine att_br zq zo ?_
  refine att_num (sp:=[(⟨1,1000⟩:GSp),(⟨0,1000000⟩:GSp)]) (C:=C) (X:=fun e=>_) hta hn zq (fun e=>rfl) (fun l hl1=>?_)
  simp only [zLC,List.length_nil] at hl1
  rw [show getI l 0=some (l.getD 0 0) from getI_D (i:=0) zo,obs,show getI l 1=some (l.getD 1 0) from getI_D (i:=1) zo,obs]
  exact hnext _ _ _ _ _
 rw [if_neg c22,show (a.Name == [102,117,115,101])=false from by simpa using c22,cond_false]
 by_cases c23:a.Name=[116,104,101,114,109,97,108]
 ·rw [if_pos c23,beq_iff_eq.2 c23,cond_true]
  refine att_br zq zo ?_
  refine att_num (sp:=[(⟨0,200000⟩:GSp),(⟨0,200000⟩:GSp),(⟨0,1000⟩:GSp),(⟨0,1000⟩:GSp),(⟨1,1000000⟩:GSp)]) (C:=C) (X:=fun e=>_) hta hn zq (fun e=>rfl) (fun l hl1=>?_)
  simp only [zLC,List.length_nil] at hl1
  rw [show getI l 0=some (l.getD 0 0) from getI_D (i:=0) zo,obs,show getI l 1=some (l.getD 1 0) from getI_D (i:=1) zo,obs,show getI l 2=some (l.getD 2 0) from getI_D (i:=2) zo,obs,show getI l 3=some (l.getD 3 0) from getI_D (i:=3) zo,obs,show getI l 4=some (l.getD 4 0) from getI_D (i:=4) zo,obs]
  exact hnext _ _ _ _ _
 rw [if_neg c23,show (a.Name == [116,104,101,114,109,97,108])=false from by simpa using c23,cond_false]
 by_cases c24:a.Name=[102,114,111,109]
 ·rw [if_pos c24,beq_iff_eq.2 c24,cond_true]
  refine att_br zq zo ?_
  exact att_val (C:=C) (X:=fun e=>_) (s_name hta (by omega:2000≤n)) (fun e=>rfl) (fun x=>hnext _ _ _ _ _)
 rw [if_neg c24,show (a.Name == [102,114,111,109])=false from by simpa using c24,cond_false]
 by_cases c25:a.Name=[111,119,110,101,114]
 ·rw [if_pos c25,beq_iff_eq.2 c25,cond_true]
  refine att_br zq zo ?_
  exact att_val (C:=C) (X:=fun e=>_) (s_name_2 hta (by omega:2000≤n)) (fun e=>rfl) (fun x=>hnext _ _ _ _ _)
 rw [if_neg c25,show (a.Name == [111,119,110,101,114])=false from by simpa using c25,cond_false]
 by_cases c26:a.Name=[114,97,110,107]
 ·rw [if_pos c26,beq_iff_eq.2 c26,cond_true]
  refine att_br zq zo ?_
  refine att_num (sp:=[(⟨1,9⟩:GSp)]) (C:=C) (X:=fun e=>_) hta hn zq (fun e=>rfl) (fun l hl1=>?_)
  simp only [zLC,List.length_nil] at hl1
  rw [show getI l 0=some (l.getD 0 0) from getI_D (i:=0) zo,obs]
  exact hnext _ _ _ _ _
 rw [if_neg c26,show (a.Name == [114,97,110,107])=false from by simpa using c26,cond_false]
 by_cases c27:a.Name=[99,97,114,100]
 ·rw [if_pos c27,beq_iff_eq.2 c27,cond_true]
  refine att_br zq zo ?_
  refine att_card (C:=C) (X:=fun e=>_) hta hn (fun e=>rfl) (fun l hl1=>?_)
  rw [show getI l 0=some (l.getD 0 0) from getI_D (i:=0) zo,obs]
  generalize l.getD 0 0=z
  have:=does_idx (B:=fun recl52 l52=>g_sr_attrs_l52 s (i:Int) c k g b h rec a z recl52 l52) (n:=n) (L:=s.Contracts.length) (fun i2 r=>pj r=aqF (eb (if (s.Contracts.drop i2).all (fun c=>!decide (c.Card=z)) then .ok (c,(⟨k.Name,k.Owner,k.Rank,z⟩:GCt),g,b) else .error (5,a.At)) fun q=>C (q,mset me_msb a.Name true h))) zo (fun rec2 i2 hi2 hr2=>?_) 0 zo zo
  ·exact this
  unfold g_sr_attrs_l52
  simp only [lenI,List.length_map,ltI]
  by_cases c2:i2 < s.Contracts.length
  rotate_left
  ·rw [dzF zo,cond_false,List.drop_eq_nil_of_le zo]
   exact hnext _ _ _ _ _
  obtain ⟨w1,w2⟩:=hr2 c2
  rw [dzT zo,cond_true,getI_nat,List.getElem?_eq_getElem c2,obs,w1,List.drop_eq_getElem_cons c2,List.all_cons,eqI_d]
  generalize s.Contracts[i2]'c2=t
  cases decide (t.Card=z)
  ·simpa using w2
  ·exact does_some rfl
 rw [if_neg c27,show (a.Name == [99,97,114,100])=false from by simpa using c27,cond_false]
 by_cases c28:a.Name=[97,116]
 ·rw [if_pos c28,beq_iff_eq.2 c28,cond_true]
  refine att_br zq zo ?_
  exact att_val (C:=C) (X:=fun e=>_) (s_name hta (by omega:2000≤n)) (fun e=>rfl) (fun x=>hnext _ _ _ _ _)
 rw [if_neg c28,show (a.Name == [97,116])=false from by simpa using c28,cond_false]
 by_cases c29:a.Name=[112,104,97,115,101,115]
 ·rw [if_pos c29,beq_iff_eq.2 c29,cond_true]
  refine att_br zq zo ?_
  exact att_val (C:=C) (X:=fun e=>_) (s_phases hta hn) (fun e=>rfl) (fun x=>hnext _ _ _ _ _)
 rw [if_neg c29,show (a.Name == [112,104,97,115,101,115])=false from by simpa using c29,cond_false]
 by_cases c30:a.Name=[97,109,112,115]
 ·rw [if_pos c30,beq_iff_eq.2 c30,cond_true]
  refine att_br zq zo ?_
  refine att_num (sp:=[(⟨1,80⟩:GSp),(⟨1,80⟩:GSp),(⟨1,80⟩:GSp)]) (C:=C) (X:=fun e=>_) hta hn zq (fun e=>rfl) (fun l hl1=>?_)
  simp only [zLC,List.length_nil] at hl1
  rw [show getI l 0=some (l.getD 0 0) from getI_D (i:=0) zo,obs,show getI l 1=some (l.getD 1 0) from getI_D (i:=1) zo,obs,show getI l 2=some (l.getD 2 0) from getI_D (i:=2) zo,obs]
  exact hnext _ _ _ _ _
 rw [if_neg c30,show (a.Name == [97,109,112,115])=false from by simpa using c30,cond_false]
 by_cases c31:a.Name=[102,97,108,108,98,97,99,107]
 ·rw [if_pos c31,beq_iff_eq.2 c31,cond_true]
  refine att_br zq zo ?_
  refine att_num (sp:=[(⟨0,80⟩:GSp)]) (C:=C) (X:=fun e=>_) hta hn zq (fun e=>rfl) (fun l hl1=>?_)
  simp only [zLC,List.length_nil] at hl1
  rw [show getI l 0=some (l.getD 0 0) from getI_D (i:=0) zo,obs]
  exact hnext _ _ _ _ _
 rw [if_neg c31,show (a.Name == [102,97,108,108,98,97,99,107])=false from by simpa using c31,cond_false]
 by_cases c32:a.Name=[99,104,97,114,103,101,114]
 ·rw [if_pos c32,beq_iff_eq.2 c32,cond_true]
  refine att_br zq zo ?_
  exact att_val (C:=C) (X:=fun e=>_) (s_name_3 hta (by omega:2000≤n)) (fun e=>rfl) (fun x=>hnext _ _ _ _ _)
 rw [if_neg c32,show (a.Name == [99,104,97,114,103,101,114])=false from by simpa using c32,cond_false]
 exact does_some rfl
def needT:List (List Int × List UInt8):=[([1,2],[108,105,109,105,116]),([1,2],[110,101,117,116,114,97,108]),([2],[102,114,111,109]),([4,5],[111,119,110,101,114]),([4],[114,97,110,107]),([4],[99,97,114,100]),([5],[97,116]),([5],[112,104,97,115,101,115]),([5],[97,109,112,115]),([5],[102,97,108,108,98,97,99,107]),([6],[99,104,97,114,103,101,114])]
def missB (k:Int) (h:HasM):Bool:=needT.any fun p=>p.1.contains k&&!hasN h p.2
def ampsB (g:GCg):Bool:=leI g.Min g.Max&&(eqI g.Fallback 0||(leI g.Min g.Fallback&&leI g.Fallback g.Max))
def lateB (k:Int) (c:GCo) (g:GCg) (h:HasM):Bool:=(hasN h [116,104,101,114,109,97,108]&&!ltI c.Cable.Ambient c.Cable.Most)||(eqI k 5&&!ampsB g)
def whF (y:GN) (c:GCo) (g:GCg) (h:HasM):Except (Int × Int) Unit:=if missB y.N h then .error (4,y.At) else if lateB y.N c g h then .error (3,y.At) else .ok ()
theorem mrun_any {R:Type} {f d:R} {bs:List Bool}:mrun (some f) (some d) (bs.map fun b q=>cond b (some f) q)=some (if bs.any id then f else d):=by
 unfold mrun
 rw [if_pos (by rw [List.all_eq_true]; intro t ht; obtain ⟨b,_,rfl⟩:=List.mem_map.1 ht; cases b <;> rfl)]
 induction bs with
 | nil=>rfl
 | cons b bs ih =>
  rw [List.map_cons,List.foldr_cons,ih]
  cases b <;> rfl
theorem cb1 {R:Type} {c x:Bool} {k:Bool→Option R}:((cond c (some x) (some false)).bind k)=k (c&&x):=by cases c <;> rfl
theorem cb2 {R:Type} {c:Bool} {q:Option R}:((cond c (some ()) (some ())).bind fun _=>q)=q:=by cases c <;> rfl
theorem s_amps (n:Nat) (g:GCg):g_site_goodAmps n g=some (ampsB g):=by
 unfold g_site_goodAmps ampsB
 cases leI g.Min g.Max
 ·rfl
 ·cases eqI g.Fallback 0
  ·cases leI g.Min g.Fallback <;> rfl
  ·rfl
theorem s_whole {n:Nat} {y:GN} {s:GSite} {f:Bool} {dd:List GDg} {h7 h10:HasM} {th:ThM} {c:GCo} {k:GCt} {g:GCg} {b:GBay} (hn:2000≤n) :
  g_sr_whole n y c k g b s f dd h7 th h10=some (whF y c g h10):=by
 have R:∀ (ks:List Int) (o:Bool),ks.length≤5→g_site_rule_of n ks o y.N=some (ks.contains y.N):=fun ks o h=>r_rule zo hn
 unfold g_sr_whole
 have hj:g_sr_whole_j1 n y c g h10=some (if lateB y.N c g h10 then .error (3,y.At) else .ok ()):=by
  unfold g_sr_whole_j1 g_site_goodCable lateB hasN
  rw [s_amps]
  cases mgetD me_msb [116,104,101,114,109,97,108] false h10 <;> cases ltI c.Cable.Ambient c.Cable.Most <;> cases eqI y.N 5 <;> cases ampsB g <;> rfl
 rw [hj]
 simp only [R [1,2] false zq,R [1,2] true zq,R [2] false zq,R [4,5] false zq,R [4] false zq,R [5] false zq,R [6] false zq,obs,cb1,cb2]
 refine (mrun_any (bs:=[([1,2]:List Int).contains y.N&&!hasN h10 [108,105,109,105,116],([1,2]:List Int).contains y.N&&!hasN h10 [110,101,117,116,114,97,108],false,false,([2]:List Int).contains y.N&&!hasN h10 [102,114,111,109],([4,5]:List Int).contains y.N&&!hasN h10 [111,119,110,101,114],([4]:List Int).contains y.N&&!hasN h10 [114,97,110,107],([4]:List Int).contains y.N&&!hasN h10 [99,97,114,100],([5]:List Int).contains y.N&&!hasN h10 [97,116],([5]:List Int).contains y.N&&!hasN h10 [112,104,97,115,101,115],([5]:List Int).contains y.N&&!hasN h10 [97,109,112,115],([5]:List Int).contains y.N&&!hasN h10 [102,97,108,108,98,97,99,107],([6]:List Int).contains y.N&&!hasN h10 [99,104,97,114,103,101,114]])).trans ?_
 unfold whF missB needT
 simp only [List.any_cons,List.any_nil,id,Bool.or_false,Bool.false_or]
structure BS where
 cs:List GCo
 os:List GOwner
 ks:List GCt
 gs:List GCg
 bs:List GBay
 fd:Bool
 dg:List GDg
 nm:HasM
 th:ThM
def BS.t (s:BS):List GCo × List GOwner × List GCt × List GCg × List GBay × Bool × List GDg × HasM × ThM:=(s.cs,s.os,s.ks,s.gs,s.bs,s.fd,s.dg,s.nm,s.th)
def BS.u (s:BS):List GCo × List GOwner × List GCt × List GCg × List GBay × Bool × List GDg × ThM:=(s.cs,s.os,s.ks,s.gs,s.bs,s.fd,s.dg,s.th)
def BS.err (s:BS) (e:Int × Int):BS:={ s with dg:=s.dg++[⟨e.1,e.2⟩] }
def BS.site (s:BS):GSite:=⟨s.cs,s.os,s.ks,s.gs,s.bs⟩
def zeroQ:SQ:=(⟨[],0,0,0,⟨0,0⟩,⟨0,0,0,0,0⟩⟩,⟨[],0,0,0⟩,⟨[],0,0,0,0,0,0,0⟩,⟨[],0⟩)
def twB (y:GN) (s:BS):Bool:=hasN s.nm y.Name||(eqI y.N 1&&s.fd)
def roomN (k:Int) (s:BS):Int:=cond (eqI k 1||eqI k 2) (s.cs.length:Int) (cond (eqI k 3) (s.os.length:Int) (cond (eqI k 4) (s.ks.length:Int) (cond (eqI k 5) (s.gs.length:Int) (s.bs.length:Int))))
def roomM (k:Int):Int:=cond (eqI k 1||eqI k 2) 16 (cond (eqI k 3) 8 (cond (eqI k 4) 32 (cond (eqI k 5) 16 24)))
def readF (y:GN) (s:BS):Except (Int × Int) SQ:=eb (attF y.N s.ks s.th (kidsL y.Kids) zeroQ []) fun v=>eb (whF y v.1.1 v.1.2.2.1 v.2) fun _=>.ok v.1
def declF (y:GN) (q:SQ) (s:BS):BS :=
 let t:=mset me_mst y.Name (⟨y.N,roomN y.N s⟩:GTh) s.th
 if y.N=1 then { s with cs:=s.cs++[⟨y.Name,-1,q.1.Limit,q.1.Neutral,q.1.Fuse,q.1.Cable⟩],th:=t }
 else if y.N=2 then { s with cs:=s.cs++[⟨y.Name,q.1.Up,q.1.Limit,q.1.Neutral,q.1.Fuse,q.1.Cable⟩],th:=t }
 else if y.N=3 then { s with os:=s.os++[⟨y.Name⟩],th:=t }
 else if y.N=4 then { s with ks:=s.ks++[⟨y.Name,q.2.1.Owner,q.2.1.Rank,q.2.1.Card⟩],th:=t }
 else if y.N=5 then { s with gs:=s.gs++[⟨y.Name,q.2.2.1.At,q.2.2.1.Phases,q.2.2.1.Min,q.2.2.1.Max,q.2.2.1.Step,q.2.2.1.Fallback,q.2.2.1.Owner⟩],th:=t }
 else if y.N=6 then { s with bs:=s.bs++[⟨y.Name,q.2.2.2.Charger⟩],th:=t }
 else { s with th:=t }
def markF (y:GN) (s:BS):BS:={ s with fd:=s.fd||eqI y.N 1,nm:=mset me_msb y.Name true s.nm }
def stepF (y:GN) (s:BS):BS :=
 if twB y s then (markF y s).err (5,y.At)
 else if y.N=7 then markF y s
 else if roomM y.N≤roomN y.N s then (markF y s).err (2,y.At)
 else match readF y s with
  | .error e=>(markF y s).err e
  | .ok q=>declF y q (markF y s)
def runF:List GN→BS→BS
 | [],s=>s
 | y :: l,s=>if (stepF y s).dg.length=20 then stepF y s else runF l (stepF y s)
def BS.fit (s:BS):Prop:=s.cs.length≤16∧s.os.length≤8∧s.ks.length≤32∧s.gs.length≤16∧s.bs.length≤24
def bs0:BS:=⟨[],[],[],[],[],false,[],[],[]⟩
theorem step_fit {y:GN} {s:BS} (h:s.fit):(stepF y s).fit∧(stepF y s).dg.length≤s.dg.length+1∧∃ e,(stepF y s).dg=s.dg++e:=by
 obtain ⟨h1,h2,h3,h4,h5⟩:=h
 have herr:∀ e,((markF y s).err e).fit∧((markF y s).err e).dg.length≤s.dg.length+1∧∃ d,((markF y s).err e).dg=s.dg++d:=fun e=>⟨⟨h1,h2,h3,h4,h5⟩,by simp [BS.err,markF],_,rfl⟩
 have hm:(markF y s).fit∧(markF y s).dg.length≤s.dg.length+1∧∃ d,(markF y s).dg=s.dg++d:=⟨⟨h1,h2,h3,h4,h5⟩,by simp [markF],[],by simp [markF]⟩
 unfold stepF
 split
 ·exact herr _
 split
 ·exact hm
 split
 ·exact herr _
 rename_i hr
 split
 ·exact herr _
 rename_i q _
 obtain ⟨_,hd,d,hd2⟩:=hm
 unfold roomM roomN at hr
 unfold declF
 by_cases c1:y.N=1
 ·rw [if_pos c1]
  rw [c1] at hr
  have:(s.cs.length:Int) < 16:=by simpa [eqI] using hr
  exact ⟨⟨by simp [markF]; omega,h2,h3,h4,h5⟩,hd,d,hd2⟩
 rw [if_neg c1]
 by_cases c2:y.N=2
 ·rw [if_pos c2]
  rw [c2] at hr
  have:(s.cs.length:Int) < 16:=by simpa [eqI] using hr
  exact ⟨⟨by simp [markF]; omega,h2,h3,h4,h5⟩,hd,d,hd2⟩
 rw [if_neg c2]
 by_cases c3:y.N=3
 ·rw [if_pos c3]
  rw [c3] at hr
  have:(s.os.length:Int) < 8:=by simpa [eqI] using hr
  exact ⟨⟨h1,by simp [markF]; omega,h3,h4,h5⟩,hd,d,hd2⟩
 rw [if_neg c3]
 by_cases c4:y.N=4
 ·rw [if_pos c4]
  rw [c4] at hr
  have:(s.ks.length:Int) < 32:=by simpa [eqI] using hr
  exact ⟨⟨h1,h2,by simp [markF]; omega,h4,h5⟩,hd,d,hd2⟩
 rw [if_neg c4]
 by_cases c5:y.N=5
 ·rw [if_pos c5]
  rw [c5] at hr
  have:(s.gs.length:Int) < 16:=by simpa [eqI] using hr
  exact ⟨⟨h1,h2,h3,by simp [markF]; omega,h5⟩,hd,d,hd2⟩
 rw [if_neg c5]
 by_cases c6:y.N=6
 ·rw [if_pos c6]
  rw [c6] at hr
  have:(s.bs.length:Int) < 24:=by simpa [eqI] using hr
  exact ⟨⟨h1,h2,h3,h4,by simp [markF]; omega⟩,hd,d,hd2⟩
 rw [if_neg c6]
 exact ⟨⟨h1,h2,h3,h4,h5⟩,hd,d,hd2⟩
theorem rm1 {α:Type} {l:List α} {k:Nat} (hl:l.length≤100) (hk:k≤1000):roomB l.length k=true:=by
 unfold roomB
 rw [decide_eq_true_eq]
 refine ⟨Nat.le_trans (Nat.mul_le_mul hl hk) zo,by omega⟩
theorem cod {b c:Bool}:(bif b then true else c)=(b||c):=by cases b <;> rfl
theorem cad {b c:Bool}:(bif b then c else false)=(b&&c):=by cases b <;> rfl
theorem decl_nm {y:GN} {q:SQ} {s:BS}:(declF y q s).nm=s.nm:=by
 unfold declF
 by_cases c1:y.N=1
 ·rw [if_pos c1]
 rw [if_neg c1]
 by_cases c2:y.N=2
 ·rw [if_pos c2]
 rw [if_neg c2]
 by_cases c3:y.N=3
 ·rw [if_pos c3]
 rw [if_neg c3]
 by_cases c4:y.N=4
 ·rw [if_pos c4]
 rw [if_neg c4]
 by_cases c5:y.N=5
 ·rw [if_pos c5]
 rw [if_neg c5]
 by_cases c6:y.N=6
 ·rw [if_pos c6]
 rw [if_neg c6]
theorem step_nm {y:GN} {s:BS}:(stepF y s).nm=mset me_msb y.Name true s.nm:=by
 unfold stepF
 split
 ·rfl
 split
 ·rfl
 split
 ·rfl
 split
 ·rfl
 ·rw [decl_nm]; rfl
theorem s_Build {n d:Nat} {x:GN} (ht:treeD d x) (hn:9223372036854776000≤n) (hs:1+(x.Kids.length:Int)+swL (kidsL x.Kids)≤1500) :
  g_site_Build n x=some (if validB x then (if (runF (kidsL x.Kids) bs0).dg=[] then (if (runF (kidsL x.Kids) bs0).fd then ((runF (kidsL x.Kids) bs0).site,[]) else (⟨[],[],[],[],[]⟩,[⟨4,0⟩])) else (⟨[],[],[],[],[]⟩,(runF (kidsL x.Kids) bs0).dg)) else (⟨[],[],[],[],[]⟩,[⟨1,0⟩])):=by
 unfold g_site_Build
 rw [p_valid ht hn hs,obs]
 cases hv:validB x
 ·rfl
 obtain ⟨e,rfl,hl,_,hk⟩:=tree_kids ht
 simp only [Bool.not_true,cond_false,if_true]
 have hloop:Does (loopN (fun recl3 (v:Int × List GCo × List GOwner × List GCt × List GCg × List GBay × Bool × List GDg × HasM × ThM)=>g_site_Build_l3 n x recl3 v.1 v.2.1 v.2.2.1 v.2.2.2.1 v.2.2.2.2.1 v.2.2.2.2.2.1 v.2.2.2.2.2.2.1 v.2.2.2.2.2.2.2.1 v.2.2.2.2.2.2.2.2.1 v.2.2.2.2.2.2.2.2.2) n (0,[],[],[],[],[],false,[],[],[])) (fun r=>r=(runF (kidsL x.Kids) bs0).t):=by
  have:=does_loop (n:=n) (B:=fun recl3 (v:Int × List GCo × List GOwner × List GCt × List GCg × List GBay × Bool × List GDg × HasM × ThM)=>g_site_Build_l3 n x recl3 v.1 v.2.1 v.2.2.1 v.2.2.2.1 v.2.2.2.2.1 v.2.2.2.2.2.1 v.2.2.2.2.2.2.1 v.2.2.2.2.2.2.2.1 v.2.2.2.2.2.2.2.2.1 v.2.2.2.2.2.2.2.2.2) (v:=(0,[],[],[],[],[],false,[],[],[]))
   (Q:=fun v r=>∀ s:BS,v.2=s.t→r=(runF (kidsL (x.Kids.drop v.1.toNat)) s).t) (fun v=>x.Kids.length - v.1.toNat) (fun v=>(∃ i:Nat,v.1=(i:Int)∧i≤x.Kids.length)∧∃ s:BS,v.2=s.t∧s.fit∧s.dg.length < 20) ?_ ⟨⟨0,rfl,by omega⟩,bs0,rfl,by simp [BS.fit,bs0],by simp [bs0]⟩ (by simp only; omega)
  ·obtain ⟨r,e1,h⟩:=this
   exact ⟨r,e1,h bs0 rfl⟩
  rintro rec ⟨q,v⟩ ⟨⟨i,hi,hil⟩,s,hs,hfit,hdg⟩ hrec
  simp only at hi hs hrec ⊢
  subst hi hs
  obtain ⟨cs,os,ks,gs,bs,fd,dg,nm,th⟩:=s
  have hst:∀ s:BS,BS.t ⟨cs,os,ks,gs,bs,fd,dg,nm,th⟩=s.t→(⟨cs,os,ks,gs,bs,fd,dg,nm,th⟩:BS)=s:=by
   intro s h
   obtain ⟨_,_,_,_,_,_,_,_,_⟩:=s
   simp only [BS.t,Prod.mk.injEq] at h
   obtain ⟨rfl,rfl,rfl,rfl,rfl,rfl,rfl,rfl,rfl⟩:=h
   rfl
  unfold g_site_Build_l3
  simp only [lenI,List.length_map,ltI,Int.toNat_natCast,BS.t] at hrec ⊢
  by_cases c1:i < x.Kids.length
  rotate_left
  ·rw [dzF zo,cond_false,kidL_end _ zo]
   refine does_some fun s hs=>?_
   rw [← hst s hs]; rfl
  obtain ⟨y,hy,hty,hc⟩:=kidL_at hk c1
  rw [dzT zo,cond_true,hy,obs,hc]
  obtain ⟨f1,f2,_⟩:=step_fit (y:=y) hfit
  refine does_bind (Q:=fun v=>v=(stepF y ⟨cs,os,ks,gs,bs,fd,dg,nm,th⟩).u) ?_ ?_
  ·obtain ⟨g1,g2,g3,g4,g5⟩:=hfit
   simp only at g1 g2 g3 g4 g5 hdg
   have hd:∀ e:GDg,roomB (List.length (dg++[e])) 16=true:=fun e=>rm1 (by simp; omega) zo
   simp only [cond_some,obs,cod,cad,hd,cond_true]
   unfold stepF
   rw [show (mgetD me_msb y.Name false nm||(eqI y.N 1&&fd))=twB y ⟨cs,os,ks,gs,bs,fd,dg,nm,th⟩ from rfl]
   cases twB y ⟨cs,os,ks,gs,bs,fd,dg,nm,th⟩
   rotate_left
   ·rw [cond_true,if_pos rfl]; exact does_some rfl
   rw [cond_false,if_neg zq,eqI_d (y:=7)]
   by_cases c7:y.N=7
   ·rw [dzT c7,if_pos c7,cond_true]; exact does_some rfl
   rw [dzF c7,if_neg c7,cond_false]
   have hp:(bif (eqI y.N 1||eqI y.N 2) then ((cs.length:Int),(16:Int)) else bif eqI y.N 3 then ((os.length:Int),8) else bif eqI y.N 4 then ((ks.length:Int),32) else bif eqI y.N 5 then ((gs.length:Int),16) else ((bs.length:Int),24))=(roomN y.N ⟨cs,os,ks,gs,bs,fd,dg,nm,th⟩,roomM y.N):=by
    unfold roomN roomM
    cases (eqI y.N 1||eqI y.N 2)
    ·cases eqI y.N 3
     ·cases eqI y.N 4
      ·cases eqI y.N 5 <;> rfl
      ·rfl
     ·rfl
    ·rfl
   have hx:(bif (eqI y.N 1||eqI y.N 2) then (cs.length:Int) else bif eqI y.N 3 then (os.length:Int) else bif eqI y.N 4 then (ks.length:Int) else bif eqI y.N 5 then (gs.length:Int) else (bs.length:Int))=roomN y.N ⟨cs,os,ks,gs,bs,fd,dg,nm,th⟩:=rfl
   have k1:∀ e:GCo,roomB (List.length (cs++[e])) 96=true:=fun e=>rm1 (by simp; omega) zo
   have k2:∀ e:GOwner,roomB (List.length (os++[e])) 16=true:=fun e=>rm1 (by simp; omega) zo
   have k3:∀ e:GCt,roomB (List.length (ks++[e])) 40=true:=fun e=>rm1 (by simp; omega) zo
   have k4:∀ e:GCg,roomB (List.length (gs++[e])) 72=true:=fun e=>rm1 (by simp; omega) zo
   have k5:∀ e:GBay,roomB (List.length (bs++[e])) 24=true:=fun e=>rm1 (by simp; omega) zo
   simp only [cse',hp,hx,leI,k1,k2,k3,k4,k5,cond_true]
   by_cases c8:roomM y.N≤roomN y.N ⟨cs,os,ks,gs,bs,fd,dg,nm,th⟩
   ·rw [dzT c8,if_pos c8]; exact does_some rfl
   rw [dzF c8,if_neg c8,cond_false]
   obtain ⟨r,e1,h⟩:=s_attrs (n:=n) (y:=y) (s:=⟨cs,os,ks,gs,bs⟩) (f:=(fd||eqI y.N 1)) (dd:=dg) (h7:=mset me_msb y.Name true nm) (h10:=[]) (th:=th) (c:=⟨[],0,0,0,⟨0,0⟩,⟨0,0,0,0,0⟩⟩) (k:=⟨[],0,0,0⟩) (g:=⟨[],0,0,0,0,0,0,0⟩) (b:=⟨[],0⟩) hty (by simp only; omega) hn
   rw [e1,obs]
   change pj r=aqF (attF y.N ks th (kidsL y.Kids) zeroQ []) at h
   have hR:readF y ⟨cs,os,ks,gs,bs,fd,dg,nm,th⟩=eb (attF y.N ks th (kidsL y.Kids) zeroQ []) fun v=>eb (whF y v.1.1 v.1.2.2.1 v.2) fun _=>.ok v.1:=rfl
   rw [hR]
   generalize attF y.N ks th (kidsL y.Kids) zeroQ []=z at h
   cases r with
   | error e =>
    cases z with
    | ok v=>cases h
    | error z =>
     have h:e.1=z:=by simpa [pj,aqF,eb] using h
     subst h
     simp only [exc,eb]
     exact does_some rfl
   | ok w =>
    cases z with
    | error z=>cases h
    | ok v =>
     have h:w=(v.1.1,v.1.2.1,v.1.2.2.1,v.1.2.2.2,v.2):=by simpa [pj,aqF,eb] using h
     subst h
     simp only [exc,eb]
     rw [s_whole zo,obs]
     cases hw:whF y v.1.1 v.1.2.2.1 v.2 with
     | error e =>
      simp only [exc]
      exact does_some rfl
     | ok _ =>
      simp only [exc,eqI_d]
      unfold declF
      by_cases c1:y.N=1
      ·rw [dzT c1,if_pos c1]; exact does_some (by simp only [BS.u,markF,eqI_d,dzT c1]; rfl)
      rw [dzF c1,if_neg c1]
      by_cases c2:y.N=2
      ·rw [dzT c2,if_pos c2]; exact does_some (by simp only [BS.u,markF,eqI_d,dzF c1]; rfl)
      rw [dzF c2,if_neg c2]
      by_cases c3:y.N=3
      ·rw [dzT c3,if_pos c3]; exact does_some (by simp only [BS.u,markF,eqI_d,dzF c1]; rfl)
      rw [dzF c3,if_neg c3]
      by_cases c4:y.N=4
      ·rw [dzT c4,if_pos c4]; exact does_some (by simp only [BS.u,markF,eqI_d,dzF c1]; rfl)
      rw [dzF c4,if_neg c4]
      by_cases c5:y.N=5
      ·rw [dzT c5,if_pos c5]; exact does_some (by simp only [BS.u,markF,eqI_d,dzF c1]; rfl)
      rw [dzF c5,if_neg c5]
      by_cases c6:y.N=6
      ·rw [dzT c6,if_pos c6]; exact does_some (by simp only [BS.u,markF,eqI_d,dzF c1]; rfl)
      rw [dzF c6,if_neg c6]
      exact does_some (by simp only [BS.u,markF,eqI_d,dzF c1]; rfl)
  rintro ⟨u1,u2,u3,u4,u5,u6,u7,u8⟩ hu
  have hnm:=step_nm (y:=y) (s:=⟨cs,os,ks,gs,bs,fd,dg,nm,th⟩)
  refine does_mono (Q:=fun r=>r=(runF (y :: kidsL (x.Kids.drop (i+1))) ⟨cs,os,ks,gs,bs,fd,dg,nm,th⟩).t) ?_ (fun r hr s hs=>by rw [hr,hst s hs]; rfl)
  unfold runF
  generalize stepF y ⟨cs,os,ks,gs,bs,fd,dg,nm,th⟩=z at *
  obtain ⟨z1,z2,z3,z4,z5,z6,z7,z8,z9⟩:=z
  simp only [BS.u,Prod.mk.injEq] at hu
  obtain ⟨rfl,rfl,rfl,rfl,rfl,rfl,rfl,rfl⟩:=hu
  simp only at hnm f2 hdg ⊢
  subst hnm
  rw [eqI_d]
  by_cases c9:u7.length=20
  ·rw [dzT zo,if_pos c9]; exact does_some rfl
  ·rw [dzF zo,if_neg c9,cond_false,wi_id (x:=(i:Int)+1) zo zo]
   refine does_mono (hrec ((i:Int)+1,u1,u2,u3,u4,u5,u6,u7,_,u8) ⟨⟨i+1,by simp,c1⟩,⟨u1,u2,u3,u4,u5,u6,u7,_,u8⟩,rfl,f1,by simp only; omega⟩ (by simp only; omega)) ?_
   intro r hr
   have:=hr ⟨u1,u2,u3,u4,u5,u6,u7,_,u8⟩ rfl
   rw [show ((i:Int)+1).toNat=i+1 by omega] at this
   exact this
 obtain ⟨r,e1,h⟩:=hloop
 rw [h] at e1
 rw [e1,obs]
 generalize runF (kidsL x.Kids) bs0=z
 obtain ⟨z1,z2,z3,z4,z5,z6,z7,z8,z9⟩:=z
 show (cond (ltI 0 (lenI (List.map GDg.cs z7))) (some ((⟨[],[],[],[],[]⟩:GSite),z7)) (cond (!z6) (some ((⟨[],[],[],[],[]⟩:GSite),[(⟨4,0⟩:GDg)])) (some ((⟨z1,z2,z3,z4,z5⟩:GSite),[]))))=_
 simp only [BS.site]
 cases z7 with
 | nil=>cases z6 <;> rfl
 | cons a l =>
  rw [if_neg zq]
  simp only [lenI,ltI,List.length_map,zLC]
  rw [dzT zo]
  rfl
theorem head04:g_law04_head 36893488147419103232=some true:=by kernel_rfl
theorem few4 {n d:Nat} {x:GN} (ht:treeD d x) (hn:9223372036854776000≤n):Does (g_ref02_Few n x 400) (fun b=>b=true→1+(x.Kids.length:Int)+swL (kidsL x.Kids)≤400):=by
 obtain ⟨c,e,c1,c2,c3⟩:=count_sz 400 n d x 400 ht zo zo zo zo
 unfold g_ref02_Few
 rw [e,obs,leI]
 by_cases h:c≤400
 rotate_left
 ·rw [dzF h]; exact does_some fun h=>by cases h
 rw [dzT h,cond_true]
 refine does_bind (names_tot 50 n d x 50 ht zo zo zo zo) fun r _=>does_some fun _=>?_
 have:=c3 h 3
 rw [sz3 ht] at this
 omega
theorem sum_sub {f:GN→Int} (hf:∀ y,0≤f y) {l l':List GN} (h:l'.Sublist l):(l'.map f).sum≤(l.map f).sum:=by
 induction h with
 | slnil=>exact Int.le_refl _
 | cons a _ ih=>have:=hf a; simp only [List.map_cons,List.sum_cons]; omega
 | cons_cons a _ ih=>simp only [List.map_cons,List.sum_cons]; omega
theorem kids_map {d:Nat}:∀ {l:List GN},(∀ y ∈ l,treeD d y)→kidsL (l.map GN.cs)=l∧kidsD d (l.map GN.cs)
 | [],_=>⟨rfl,fun _ h=>by cases h⟩
 | y :: l,h=>by
  obtain ⟨h1,h2⟩:=kids_map (l:=l) fun z hz=>h z (by simp [hz])
  obtain ⟨a,b,c,t,ks⟩:=y
  refine ⟨?_,?_⟩
  ·unfold kidsL at h1 ⊢
   rw [List.map_cons,List.filterMap_cons,of_cs',h1]
  ·intro k hk
   rw [List.map_cons] at hk
   rcases List.mem_cons.1 hk with rfl | hk
   ·exact ⟨_,of_cs' _ _ _ _ _,h _ zq⟩
   ·exact h2 k hk
theorem tree_with {d:Nat} {x:GN} {l:List (List PV)} (h:treeD (d+1) x) (hl:l.length≤x.Kids.length) (hk:kidsD d l):treeD (d+1) (⟨x.Kind,x.Name,x.N,x.At,l⟩:GN) :=
 ⟨h.1,h.2.1,h.2.2.1,h.2.2.2.1,Nat.le_trans hl h.2.2.2.2.1,hk⟩
theorem decl_all {y:GN} {q:SQ} {s:BS}:(declF y q s).nm=s.nm∧(declF y q s).fd=s.fd∧(declF y q s).dg=s.dg∧(∃ a,(declF y q s).cs=s.cs++a)∧(∃ a,(declF y q s).os=s.os++a)∧(∃ a,(declF y q s).ks=s.ks++a)∧(∃ a,(declF y q s).gs=s.gs++a)∧(∃ a,(declF y q s).bs=s.bs++a):=by
 have z:∀ {α:Type} (l:List α),∃ a,l=l++a:=fun l=>⟨[],by simp⟩
 unfold declF
 by_cases c1:y.N=1
 ·rw [if_pos c1]; exact ⟨rfl,rfl,rfl,⟨_,rfl⟩,z _,z _,z _,z _⟩
 rw [if_neg c1]
 by_cases c2:y.N=2
 ·rw [if_pos c2]; exact ⟨rfl,rfl,rfl,⟨_,rfl⟩,z _,z _,z _,z _⟩
 rw [if_neg c2]
 by_cases c3:y.N=3
 ·rw [if_pos c3]; exact ⟨rfl,rfl,rfl,z _,⟨_,rfl⟩,z _,z _,z _⟩
 rw [if_neg c3]
 by_cases c4:y.N=4
 ·rw [if_pos c4]; exact ⟨rfl,rfl,rfl,z _,z _,⟨_,rfl⟩,z _,z _⟩
 rw [if_neg c4]
 by_cases c5:y.N=5
 ·rw [if_pos c5]; exact ⟨rfl,rfl,rfl,z _,z _,z _,⟨_,rfl⟩,z _⟩
 rw [if_neg c5]
 by_cases c6:y.N=6
 ·rw [if_pos c6]; exact ⟨rfl,rfl,rfl,z _,z _,z _,z _,⟨_,rfl⟩⟩
 rw [if_neg c6]
 exact ⟨rfl,rfl,rfl,z _,z _,z _,z _,z _⟩
def Grow (s t:BS):Prop:=(∃ a,t.dg=s.dg++a)∧(∃ a,t.cs=s.cs++a)∧(∃ a,t.os=s.os++a)∧(∃ a,t.ks=s.ks++a)∧(∃ a,t.gs=s.gs++a)∧(∃ a,t.bs=s.bs++a)
theorem app_t {α:Type} {l m r:List α} (h1:∃ a,m=l++a) (h2:∃ a,r=m++a):∃ a,r=l++a:=by
 obtain ⟨a,rfl⟩:=h1
 obtain ⟨b,rfl⟩:=h2
 exact ⟨a++b,by simp⟩
theorem grow_t {s t u:BS} (h1:Grow s t) (h2:Grow t u):Grow s u :=
 ⟨app_t h1.1 h2.1,app_t h1.2.1 h2.2.1,app_t h1.2.2.1 h2.2.2.1,app_t h1.2.2.2.1 h2.2.2.2.1,app_t h1.2.2.2.2.1 h2.2.2.2.2.1,app_t h1.2.2.2.2.2 h2.2.2.2.2.2⟩
theorem grow_r (s:BS):Grow s s:=⟨⟨[],by simp⟩,⟨[],by simp⟩,⟨[],by simp⟩,⟨[],by simp⟩,⟨[],by simp⟩,⟨[],by simp⟩⟩
theorem step_grow {y:GN} {s:BS}:Grow s (stepF y s)∧(stepF y s).fd=(s.fd||eqI y.N 1):=by
 have hm:Grow s (markF y s):=grow_r s
 have he:∀ e,Grow s ((markF y s).err e):=fun e=>⟨⟨_,rfl⟩,hm.2⟩
 unfold stepF
 split
 ·exact ⟨he _,rfl⟩
 split
 ·exact ⟨hm,rfl⟩
 split
 ·exact ⟨he _,rfl⟩
 split
 ·exact ⟨he _,rfl⟩
 ·rename_i q _
  obtain ⟨_,d1,d2,d3⟩:=decl_all (y:=y) (q:=q) (s:=markF y s)
  exact ⟨grow_t hm ⟨⟨[],by rw [d2]; simp⟩,d3⟩,d1⟩
theorem run_grow:∀ {l:List GN} {s:BS},Grow s (runF l s)
 | [],s=>grow_r s
 | y :: l,s=>by
  unfold runF
  split
  ·exact step_grow.1
  ·exact grow_t step_grow.1 run_grow
theorem nil_of {s t:BS} (h:Grow s t) (ht:t.dg=[]):s.dg=[]:=by
 obtain ⟨a,e⟩:=h.1
 rw [ht] at e
 exact (List.append_eq_nil_iff.1 e.symm).1
theorem good_cons {y:GN} {l:List GN} {s:BS} (h:(runF (y :: l) s).dg=[]):(stepF y s).dg=[]∧runF (y :: l) s=runF l (stepF y s):=by
 have e:runF (y :: l) s=if (stepF y s).dg.length=20 then stepF y s else runF l (stepF y s):=rfl
 rw [e] at h ⊢
 split at h
 ·rename_i h1; rw [h] at h1; cases h1
 ·rename_i h1
  rw [if_neg h1]
  exact ⟨nil_of run_grow h,rfl⟩
theorem good_mk {y:GN} {l:List GN} {s:BS} (h:(stepF y s).dg=[]):runF (y :: l) s=runF l (stepF y s):=by
 show (if (stepF y s).dg.length=20 then stepF y s else runF l (stepF y s))=_
 rw [if_neg (by rw [h]; simp)]
theorem good_step {y:GN} {s:BS} (h:(stepF y s).dg=[]):twB y s=false∧((y.N=7∧stepF y s=markF y s)∨(y.N ≠ 7∧¬ roomM y.N≤roomN y.N s∧∃ q,readF y s=.ok q∧stepF y s=declF y q (markF y s))):=by
 unfold stepF at h ⊢
 split at h
 ·simp [BS.err] at h
 rename_i h1
 simp only [Bool.not_eq_true] at h1
 rw [if_neg (by rw [h1]; simp)]
 refine ⟨h1,?_⟩
 split at h
 ·rename_i h2; exact .inl ⟨h2,by rw [if_pos h2]⟩
 rename_i h2
 rw [if_neg h2]
 split at h
 ·simp [BS.err] at h
 rename_i h3
 rw [if_neg h3]
 split at h
 ·simp [BS.err] at h
 rename_i q hq
 exact .inr ⟨h2,h3,q,hq,rfl⟩
theorem run_app:∀ {l m:List GN} {s:BS},(runF (l++m) s).dg=[]→(runF l s).dg=[]∧runF (l++m) s=runF m (runF l s)
 | [],m,s,h=>⟨nil_of run_grow h,rfl⟩
 | y :: l,m,s,h=>by
  rw [List.cons_append] at h ⊢
  obtain ⟨h1,h2⟩:=good_cons h
  rw [h2] at h ⊢
  rw [good_mk h1]
  exact run_app h
theorem build_good {n d:Nat} {x:GN} {r:GSite × List GDg} (ht:treeD d x) (hn:9223372036854776000≤n) (hs:1+(x.Kids.length:Int)+swL (kidsL x.Kids)≤400) (hr:g_site_Build n x=some r) (hd:r.2=[]) :
  validB x=true∧(runF (kidsL x.Kids) bs0).dg=[]∧(runF (kidsL x.Kids) bs0).fd=true∧r.1=(runF (kidsL x.Kids) bs0).site:=by
 rw [s_Build ht hn zo] at hr
 simp only [sie] at hr
 subst hr
 split at hd
 rotate_left
 ·cases hd
 rename_i h1
 rw [if_pos h1]
 split at hd
 rotate_left
 ·rename_i h2; exact absurd hd h2
 rename_i h2
 rw [if_pos h2]
 split at hd
 rotate_left
 ·cases hd
 rename_i h3
 rw [if_pos h3]
 exact ⟨h1,h2,h3,rfl⟩
theorem sg_set (s k:List UInt8):∀ m:List (List UInt8 × Bool),mgetD me_msb s false (mset me_msb k true m)=(mgetD me_msb s false m||(s == k))
 | []=>by
  unfold mset mgetD mget mget me_msb eqS
  by_cases h:s=k
  ·subst h; simp
  ·rw [show (s == k)=false from by simpa using h]; rfl
 | (q,w) :: m=>by
  have ih:=sg_set s k m
  unfold mgetD at ih ⊢
  unfold mset
  unfold me_msb eqS at ih ⊢
  by_cases h:k=q
  ·subst h
   rw [beq_self_eq_true,cond_true]
   unfold mget
   by_cases h2:s=k
   ·subst h2; simp
   ·rw [show (s == k)=false from by simpa using h2]; simp
  ·rw [show (k == q)=false from by simpa using h,cond_false]
   unfold mget
   by_cases h2:s=q
   ·subst h2
    rw [beq_self_eq_true,cond_true,cond_true,show (s == k)=false from by simpa using fun e=>h e.symm,Bool.or_false]
   ·rw [show (s == q)=false from by simpa using h2,cond_false,cond_false]
    exact ih
theorem has_set (s k:List UInt8) (m:HasM):hasN (mset me_msb k true m) s=(hasN m s||(s == k)):=sg_set s k m
theorem rm2 {α:Type} {l:List α} (hl:l.length≤1600):roomB l.length 64=true:=by
 unfold roomB
 rw [decide_eq_true_eq]
 omega
theorem gd_nil {l:List GDg} (h:ltI 0 (lenI (List.map GDg.cs l))=false):l=[]:=by
 cases l with
 | nil=>rfl
 | cons a l =>
  simp only [lenI,ltI,List.length_map,zLC] at h
  rw [dzT zo] at h
  cases h
theorem s_build_tot {n d:Nat} {x:GN} (ht:treeD d x) (hn:9223372036854776000≤n) (hs:1+(x.Kids.length:Int)+swL (kidsL x.Kids)≤400):Tot (g_site_Build n x):=tot_eq (s_Build ht hn zo)
theorem kidsL_take {d:Nat}:∀ {l:List (List PV)} {k:Nat},kidsD d l→kidsL (l.take k)=(kidsL l).take k
 | [],k,_=>by simp [kidsL]
 | c :: l,0,_=>rfl
 | c :: l,k+1,h=>by
  obtain ⟨y,e,_⟩:=h c zq
  have ih:=kidsL_take (l:=l) (k:=k) fun q hq=>h q (by simp [hq])
  unfold kidsL at ih ⊢
  rw [List.take_succ_cons,List.filterMap_cons,List.filterMap_cons,e]
  simp only [List.take_succ_cons,ih]
section
variable {ks:List Int} {k:Int} {a:GN} {h hh:HasM} {v v2:Except (Int × Int) SQ} {w:SQ × HasM}
theorem attG_ok (hv:attG ks k a h v=.ok w):ks.contains k=true∧hasN h a.Name=false∧∃ q,v=.ok q∧w=(q,mset me_msb a.Name true h):=by
 unfold attG at hv
 split at hv
 rotate_left
 ·cases hv
 rename_i h1
 split at hv
 ·cases hv
 rename_i h2
 simp only [Bool.not_eq_true] at h2
 cases v with
 | error e=>cases hv
 | ok q=>cases hv; exact ⟨h1,h2,q,rfl,rfl⟩
theorem attG_sim (hv:attG ks k a h v=.ok w) (hq:∀ q,v=.ok q→∃ q2,v2=.ok q2) (hn:hasN hh a.Name=false):(∃ q2,attG ks k a hh v2=.ok (q2,mset me_msb a.Name true hh))∧w.2=mset me_msb a.Name true h∧hasN h a.Name=false:=by
 obtain ⟨h1,h2,q,h3,rfl⟩:=attG_ok hv
 obtain ⟨q2,rfl⟩:=hq q h3
 refine ⟨⟨q2,?_⟩,rfl,h2⟩
 unfold attG
 rw [if_pos h1,hn,if_neg zq]
 rfl
theorem eb_sim {A:Type} {x:Except (Int × Int) A} {f g:A→SQ}:∀ q,eb x (fun y=>.ok (f y))=.ok q→∃ q2,eb x (fun y=>.ok (g y))=.ok q2:=by
 intro q hq
 cases x with
 | error e=>cases hq
 | ok y=>exact ⟨g y,rfl⟩
theorem card_sim {cs:List GCt} {f g:List Int→SQ}:∀ q,cardQ cs a f=.ok q→∃ q2,cardQ cs a g=.ok q2:=by
 intro q hq
 unfold cardQ at hq ⊢
 cases hx:snF a [(⟨1,1000000⟩:GSp)] with
 | error e=>rw [hx] at hq; cases hq
 | ok y =>
  rw [hx] at hq
  simp only [eb] at hq ⊢
  split at hq
  ·rename_i hc; rw [if_pos hc]; exact ⟨_,rfl⟩
  ·cases hq
theorem attS_sim {cs:List GCt} {th:ThM} {q q2:SQ} (hv:attS k cs th a q h=.ok w) (hn:hasN hh a.Name=false):(∃ q3,attS k cs th a q2 hh=.ok (q3,mset me_msb a.Name true hh))∧w.2=mset me_msb a.Name true h∧hasN h a.Name=false:=by
 unfold attS at hv ⊢
 by_cases c0:a.Name=[108,105,109,105,116]
 ·rw [if_pos c0] at hv; simp only [if_pos c0]; exact attG_sim hv eb_sim hn
 rw [if_neg c0] at hv; simp only [if_neg c0]
 by_cases c1:a.Name=[110,101,117,116,114,97,108]
 ·rw [if_pos c1] at hv; simp only [if_pos c1]; exact attG_sim hv eb_sim hn
 rw [if_neg c1] at hv; simp only [if_neg c1]
 by_cases c2:a.Name=[102,117,115,101]
 ·rw [if_pos c2] at hv; simp only [if_pos c2]; exact attG_sim hv eb_sim hn
 rw [if_neg c2] at hv; simp only [if_neg c2]
 by_cases c3:a.Name=[116,104,101,114,109,97,108]
 ·rw [if_pos c3] at hv; simp only [if_pos c3]; exact attG_sim hv eb_sim hn
 rw [if_neg c3] at hv; simp only [if_neg c3]
 by_cases c4:a.Name=[102,114,111,109]
 ·rw [if_pos c4] at hv; simp only [if_pos c4]; exact attG_sim hv eb_sim hn
 rw [if_neg c4] at hv; simp only [if_neg c4]
 by_cases c5:a.Name=[111,119,110,101,114]
 ·rw [if_pos c5] at hv; simp only [if_pos c5]; exact attG_sim hv eb_sim hn
 rw [if_neg c5] at hv; simp only [if_neg c5]
 by_cases c6:a.Name=[114,97,110,107]
 ·rw [if_pos c6] at hv; simp only [if_pos c6]; exact attG_sim hv eb_sim hn
 rw [if_neg c6] at hv; simp only [if_neg c6]
 by_cases c7:a.Name=[99,97,114,100]
 ·rw [if_pos c7] at hv; simp only [if_pos c7]; exact attG_sim hv card_sim hn
 rw [if_neg c7] at hv; simp only [if_neg c7]
 by_cases c8:a.Name=[97,116]
 ·rw [if_pos c8] at hv; simp only [if_pos c8]; exact attG_sim hv eb_sim hn
 rw [if_neg c8] at hv; simp only [if_neg c8]
 by_cases c9:a.Name=[112,104,97,115,101,115]
 ·rw [if_pos c9] at hv; simp only [if_pos c9]; exact attG_sim hv eb_sim hn
 rw [if_neg c9] at hv; simp only [if_neg c9]
 by_cases c10:a.Name=[97,109,112,115]
 ·rw [if_pos c10] at hv; simp only [if_pos c10]; exact attG_sim hv eb_sim hn
 rw [if_neg c10] at hv; simp only [if_neg c10]
 by_cases c11:a.Name=[102,97,108,108,98,97,99,107]
 ·rw [if_pos c11] at hv; simp only [if_pos c11]; exact attG_sim hv eb_sim hn
 rw [if_neg c11] at hv; simp only [if_neg c11]
 by_cases c12:a.Name=[99,104,97,114,103,101,114]
 ·rw [if_pos c12] at hv; simp only [if_pos c12]; exact attG_sim hv eb_sim hn
 rw [if_neg c12] at hv; simp only [if_neg c12]
 cases hv
end
theorem att_without {k:Int} {cs:List GCt} {th:ThM} {w:List UInt8}:∀ {l:List GN} {q q2:SQ} {h hh:HasM} {r:SQ × HasM},(∀ s,hasN hh s=true→hasN h s=true)→hasN hh w=false→attF k cs th l q h=.ok r →
  ∃ r2,attF k cs th (l.filter fun a=>!decide (a.Kind=3)||!(a.Name == w)) q2 hh=.ok r2∧hasN r2.2 w=false
 | [],q,q2,h,hh,r,_,hw,_=>⟨(q2,hh),rfl,hw⟩
 | a :: l,q,q2,h,hh,r,hs,hw,hr=>by
  have e:attF k cs th (a :: l) q h=if a.Kind=3 then eb (attS k cs th a q h) fun v=>attF k cs th l v.1 v.2 else attF k cs th l q h:=rfl
  rw [e] at hr
  rw [List.filter_cons]
  by_cases h3:a.Kind=3
  rotate_left
  ·rw [if_neg h3] at hr
   rw [if_pos (by simp [h3])]
   show ∃ r2,(if a.Kind=3 then _ else _)=_∧_
   rw [if_neg h3]
   exact att_without hs hw hr
  rw [if_pos h3] at hr
  cases hv:attS k cs th a q h with
  | error x=>rw [hv] at hr; cases hr
  | ok v =>
   rw [hv] at hr
   simp only [eb] at hr
   by_cases hm:a.Name=w
   ·rw [if_neg (by simp [h3,hm])]
    obtain ⟨_,h2,_⟩:=attS_sim (hh:=[]) (q2:=q) hv rfl
    refine att_without (h:=v.2) (fun s hs2=>?_) hw hr
    rw [h2,has_set,hs s hs2,Bool.true_or]
   ·rw [if_pos (by simp [hm])]
    have hh1:hasN hh a.Name=false:=by
     obtain ⟨_,_,h4⟩:=attS_sim (hh:=[]) (q2:=q) hv rfl
     cases hq:hasN hh a.Name
     ·rfl
     ·rw [hs _ hq] at h4; cases h4
    obtain ⟨⟨q3,h1⟩,h2,_⟩:=attS_sim (hh:=hh) (q2:=q2) hv hh1
    show ∃ r2,(if a.Kind=3 then eb (attS k cs th a q2 hh) fun v=>attF k cs th _ v.1 v.2 else _)=_∧_
    rw [if_pos h3,h1]
    refine att_without (h:=v.2) (fun s hs2=>?_) ?_ hr
    ·rw [has_set] at hs2
     rw [h2,has_set]
     simp only [Bool.or_eq_true] at hs2 ⊢
     exact hs2.imp_left (hs s)
    ·rw [has_set,hw,Bool.false_or]
     simpa using fun h=>hm h.symm
theorem read_without {y:GN} {s:BS} {q:SQ} {l:List (List PV)} {w:List UInt8} (hr:readF y s=.ok q) (hl:kidsL l=(kidsL y.Kids).filter fun a=>!decide (a.Kind=3)||!(a.Name == w)) (hn:∃ p ∈ needT,p.1.contains y.N=true∧p.2=w) :
  readF (⟨y.Kind,y.Name,y.N,y.At,l⟩:GN) s=.error (4,y.At):=by
 unfold readF at hr ⊢
 cases ha:attF y.N s.ks s.th (kidsL y.Kids) zeroQ [] with
 | error e=>rw [ha] at hr; cases hr
 | ok v =>
  obtain ⟨r2,h1,h2⟩:=att_without (w:=w) (q2:=zeroQ) (hh:=[]) (fun s h=>h) rfl ha
  simp only [hl,h1,eb]
  have hm:missB y.N r2.2=true:=by
   obtain ⟨p,hp,hc,rfl⟩:=hn
   unfold missB
   rw [List.any_eq_true]
   exact ⟨p,hp,by rw [hc,h2]; rfl⟩
  unfold whF
  simp only [hm,if_true]
theorem kidsL_app (a b:List (List PV)):kidsL (a++b)=kidsL a++kidsL b:=by unfold kidsL; rw [List.filterMap_append]
theorem kidsL_drop {d:Nat}:∀ {l:List (List PV)} {k:Nat},kidsD d l→kidsL (l.drop k)=(kidsL l).drop k
 | [],k,_=>by simp [kidsL]
 | c :: l,0,_=>rfl
 | c :: l,k+1,h=>by
  obtain ⟨y,e,_⟩:=h c zq
  have ih:=kidsL_drop (l:=l) (k:=k) fun q hq=>h q (by simp [hq])
  unfold kidsL at ih ⊢
  rw [List.drop_succ_cons,List.filterMap_cons,e,ih,List.drop_succ_cons]
theorem r_valid3 {n d:Nat} {x:GN} (ht:treeD d x) (hn:9223372036854776000≤n):Does (g_ref02_Valid n x) (fun b=>b=true→validB x=true):=by
 obtain ⟨c,hc,c1,c2⟩:=count_tot 1500 n d x 1500 ht zo zo zo zo
 by_cases h15:c≤1500
 ·exact ⟨_,r_valid ht hn hc h15,fun h=>h⟩
 obtain ⟨b,hb,_⟩:=rvalid_tot ht hn
 refine ⟨b,hb,fun h=>?_⟩
 subst h
 exfalso
 obtain ⟨e,rfl,hl,_,hk⟩:=tree_kids ht
 unfold g_ref02_Valid at hb
 rw [hc] at hb
 simp only [obs,cond_some,eqI_d,ltI,dzT (show 1500 < c by omega)] at hb
 revert hb
 cases decide (x.Kind=1) <;> cases eqS x.Name [] <;> cases decide (x.N=0) <;> simp
def keysF (k:Int):List (List UInt8) :=
 if k=1 then [[108,105,109,105,116],[110,101,117,116,114,97,108]] else if k=2 then [[108,105,109,105,116],[110,101,117,116,114,97,108],[102,114,111,109]]
 else if k=4 then [[111,119,110,101,114],[114,97,110,107],[99,97,114,100]] else if k=5 then [[97,116],[112,104,97,115,101,115],[97,109,112,115],[102,97,108,108,98,97,99,107],[111,119,110,101,114]]
 else if k=6 then [[99,104,97,114,103,101,114]] else []
theorem s_keys (n:Nat) (k:Int):Does (g_ref04_Keys n k) (fun r=>r.1=keysF k):=by
 unfold g_ref04_Keys keysF
 simp only [eqI_d]
 by_cases c1:k=1
 ·rw [dzT c1,if_pos c1]; exact does_some rfl
 rw [dzF c1,if_neg c1]
 by_cases c2:k=2
 ·rw [dzT c2,if_pos c2]; exact does_some rfl
 rw [dzF c2,if_neg c2]
 by_cases c4:k=4
 ·rw [dzT c4,if_pos c4]; exact does_some rfl
 rw [dzF c4,if_neg c4]
 by_cases c5:k=5
 ·rw [dzT c5,if_pos c5]; exact does_some rfl
 rw [dzF c5,if_neg c5]
 by_cases c6:k=6
 ·rw [dzT c6,if_pos c6]; exact does_some rfl
 rw [dzF c6,if_neg c6]
 exact does_some rfl
theorem keys_len (k:Int):(keysF k).length≤5:=by
 unfold keysF
 split
 ·decide
 split
 ·decide
 split
 ·decide
 split
 ·decide
 split <;> decide
theorem keys_need {k:Int} {w:List UInt8} (h:w ∈ keysF k):(∃ p ∈ needT,p.1.contains k=true∧p.2=w)∧k ≠ 7:=by
 unfold keysF at h
 unfold needT
 split at h
 ·rename_i c; subst c
  simp only [List.mem_cons,List.not_mem_nil,or_false] at h
  rcases h with rfl | rfl <;> refine ⟨?_,by decide⟩ <;> decide
 split at h
 ·rename_i c; subst c
  simp only [List.mem_cons,List.not_mem_nil,or_false] at h
  rcases h with rfl | rfl | rfl <;> refine ⟨?_,by decide⟩ <;> decide
 split at h
 ·rename_i c; subst c
  simp only [List.mem_cons,List.not_mem_nil,or_false] at h
  rcases h with rfl | rfl | rfl <;> refine ⟨?_,by decide⟩ <;> decide
 split at h
 ·rename_i c; subst c
  simp only [List.mem_cons,List.not_mem_nil,or_false] at h
  rcases h with rfl | rfl | rfl | rfl | rfl <;> refine ⟨?_,by decide⟩ <;> decide
 split at h
 ·rename_i c; subst c
  simp only [List.mem_cons,List.not_mem_nil,or_false] at h
  subst h
  refine ⟨?_,by decide⟩
  decide
 ·cases h
theorem tmod_at {m l:Int} (hm:0≤m∧m≤255) (hl:0 < l):∃ i:Nat,Int.tmod (wi m) l=(i:Int)∧(i:Int) < l:=by
 rw [wi_id (x:=m) zo zo,Int.tmod_eq_emod_of_nonneg hm.1]
 have h1:=Int.emod_nonneg m (show l ≠ 0 by omega)
 have h2:=Int.emod_lt_of_pos m hl
 exact ⟨(m % l).toNat,by omega,by omega⟩
theorem miss_loop {n d:Nat} {x:GN} {w:List UInt8} (hk:kidsD d x.Kids) (hl:x.Kids.length≤1600) (hn:2000≤n) :
  loopN (fun rec (v:Int × List (List PV))=>g_law04_SiteMissing_l12 w x rec v.1 v.2) n (0,[])=some (((kidsL x.Kids).filter fun a=>!decide (a.Kind=3)||!(a.Name == w)).map GN.cs):=by
 have:=does_loop (n:=n) (B:=fun rec (v:Int × List (List PV))=>g_law04_SiteMissing_l12 w x rec v.1 v.2) (v:=(0,[])) (Q:=fun v r=>r=v.2++((kidsL (x.Kids.drop v.1.toNat)).filter fun a=>!decide (a.Kind=3)||!(a.Name == w)).map GN.cs) (fun v=>x.Kids.length - v.1.toNat) (fun v=>(∃ i:Nat,v.1=(i:Int)∧i≤x.Kids.length)∧v.2.length≤v.1.toNat) ?_ ⟨⟨0,rfl,by omega⟩,by simp⟩ (by simp only; omega)
 ·obtain ⟨r,e,h⟩:=this
  rw [e,h]; rfl
 rintro rec ⟨q,a⟩ ⟨⟨i,hi,hil⟩,hal⟩ hrec
 simp only at hi hal hrec ⊢
 subst hi
 unfold g_law04_SiteMissing_l12
 simp only [lenI,List.length_map,ltI,Int.toNat_natCast] at hal hrec ⊢
 by_cases c1:i < x.Kids.length
 rotate_left
 ·rw [dzF zo,cond_false,kidL_end _ zo]; exact does_some zq
 obtain ⟨y,hy,hty,hc⟩:=kidL_at hk c1
 rw [dzT zo,cond_true,hy,obs,hc,List.filter_cons,wi_id (x:=(i:Int)+1) zo zo,eqI_d]
 simp only [cond_some,obs,cod,eqS]
 cases h7:(!decide (y.Kind=3)||!(y.Name == w))
 ·simp only [cond_false]
  refine does_mono (hrec ((i:Int)+1,a) ⟨⟨i+1,by simp,c1⟩,by simp only; omega⟩ (by simp only; omega)) ?_
  intro r hr
  simp only [show ((i:Int)+1).toNat=i+1 by omega] at hr
  rw [hr]; simp
 ·simp only [cond_true,if_true]
  rw [rm2 (by simp; omega),cond_true]
  refine does_mono (hrec ((i:Int)+1,a++[GN.cs y]) ⟨⟨i+1,by simp,c1⟩,by simp; omega⟩ (by simp only; omega)) ?_
  intro r hr
  simp only [show ((i:Int)+1).toNat=i+1 by omega] at hr
  rw [hr]; simp
theorem run_at:∀ {l m:List GN} {y:GN} {s:BS},(runF (l++y :: m) s).dg=[]→(stepF y (runF l s)).dg=[]
 | [],m,y,s,h=>(good_cons h).1
 | z :: l,m,y,s,h=>by
  rw [List.cons_append] at h
  obtain ⟨h1,h2⟩:=good_cons h
  rw [h2] at h
  rw [good_mk h1]
  exact run_at h
theorem run_pre:∀ {l m:List GN} {s:BS},(runF l s).dg=[]→runF (l++m) s=runF m (runF l s)
 | [],m,s,_=>rfl
 | z :: l,m,s,h=>by
  obtain ⟨h1,h2⟩:=good_cons h
  rw [h2] at h
  rw [List.cons_append,good_mk h1,h2]
  exact run_pre h
theorem missing_run {L M:List GN} {y z:GN} (h:(runF (L++y :: M) bs0).dg=[]) (h7:y.N ≠ 7) (hz:z.N=y.N∧z.Name=y.Name∧z.At=y.At) (hr:∀ s q,readF y s=.ok q→readF z s=.error (4,y.At)) :
  ∃ t,(runF (L++z :: M) bs0).dg=⟨4,y.At⟩ :: t:=by
 obtain ⟨p1,p2⟩:=run_app h
 obtain ⟨z1,z2,z3⟩:=hz
 have hs:=run_at h
 rw [run_pre p1]
 generalize runF L bs0=s at *
 obtain ⟨g1,g2⟩:=good_step hs
 rcases g2 with ⟨g2,_⟩ | ⟨_,g3,q,g4,_⟩
 ·exact absurd g2 h7
 have e:stepF z s=(markF z s).err (4,y.At):=by
  unfold stepF
  rw [if_neg (by unfold twB at g1 ⊢; rw [z1,z2,g1]; simp),z1,if_neg h7,if_neg g3,hr s q g4]
 have hd:(stepF z s).dg=[⟨4,y.At⟩]:=by rw [e]; simp [BS.err,markF,p1]
 have hg:Grow (stepF z s) (runF (z :: M) s):=by
  show Grow (stepF z s) (if (stepF z s).dg.length=20 then stepF z s else runF M (stepF z s))
  rw [hd,if_neg zq]
  exact run_grow
 obtain ⟨t,e2⟩:=hg.1
 exact ⟨t,by rw [e2,hd]; rfl⟩
theorem missing_gen {n d:Nat} {x:GN} {m1 m2:Int} (ht:treeD d x) (hm1:0≤m1∧m1≤255) (hm2:0≤m2∧m2≤255) (hn:9223372036854776000≤n) (hh:g_law04_head n=some true):g_law04_SiteMissing n x m1 m2=some true:=by
 obtain ⟨b,hb,hfew⟩:=few4 ht hn
 unfold g_law04_SiteMissing
 rw [hh,obs,hb,obs]
 cases b
 ·rfl
 have hs:=hfew rfl
 simp only [Bool.not_true,cond_false,obs,lenI,List.length_map]
 rw [eqI_d]
 by_cases h0:x.Kids.length=0
 ·rw [dzT zo,cond_true]
 rw [dzF zo,cond_false]
 obtain ⟨r,hr,_⟩:=s_build_tot ht hn hs
 rw [hr,obs]
 cases hd:ltI 0 (r.2.length:Int)
 rotate_left
 ·rfl
 obtain ⟨hv,hdg,hfd,hsite⟩:=build_good ht hn hs hr (gd_nil (by simpa only [lenI,List.length_map] using hd))
 obtain ⟨e,rfl,hl,_,hk⟩:=tree_kids ht
 have hK:=kidsL_len hk
 have hsw:=sw_nonneg (kidsL x.Kids)
 obtain ⟨i,hi1,hi2⟩:=tmod_at hm1 (show 0 < (x.Kids.length:Int) by omega)
 obtain ⟨y,hy,hty,hKi⟩:=kidK hk (i:=i) zo
 obtain ⟨hKl,hKe⟩:=List.getElem?_eq_some_iff.1 hKi
 rw [hi1,hy,obs,cond_false]
 simp only [Bool.not_false,cond_true,obs]
 obtain ⟨⟨w1,w2⟩,hks,hk1⟩:=s_keys n y.N
 have hk1:w1=keysF y.N:=hk1
 subst hk1
 rw [hks,obs]
 simp only
 have h5:=keys_len y.N
 by_cases hk0:(keysF y.N).length=0
 ·rw [eqI_d,dzT zo,cond_true]
 rw [eqI_d,dzF zo,cond_false,Bool.not_false,cond_true]
 obtain ⟨j,hj1,hj2⟩:=tmod_at hm2 (show 0 < ((keysF y.N).length:Int) by omega)
 obtain ⟨w,hw1,hw2⟩:=getI_len (l:=keysF y.N) (i:=j) zo
 obtain ⟨hneed,hn7⟩:=keys_need (List.mem_of_getElem? hw2)
 obtain ⟨ey,rfl,hly,_,hky⟩:=tree_kids hty
 have hKy:=kidsL_len hky
 have hyk:(y.Kids.length:Int)≤1600:=by
  have h1:(y.Kids.length:Int)+pwL (kidsL y.Kids)≤swL (kidsL x.Kids):=by
   rw [← List.take_append_drop i (kidsL x.Kids),List.drop_eq_getElem_cons hKl,hKe]
   have h2:=sw_nonneg ((kidsL x.Kids).take i)
   have h3:=sw_nonneg ((kidsL x.Kids).drop (i+1))
   have h4:swL ((kidsL x.Kids).take i++y :: (kidsL x.Kids).drop (i+1))=swL ((kidsL x.Kids).take i)+(((y.Kids.length:Int)+pwL (kidsL y.Kids))+swL ((kidsL x.Kids).drop (i+1))):=by
    unfold swL
    rw [List.map_append,List.sum_append,List.map_cons,List.sum_cons]
   omega
  have:=pw_nonneg (kidsL y.Kids)
  omega
 have hloop:=miss_loop (n:=n) (w:=w) hky zo zo
 rw [hj1,hw1,obs]
 refine (congrArg (fun q=>Option.bind q _) hloop).trans ?_
 rw [obs]
 have hsl:∀ {a b:Int} {c:Nat},0≤a→a≤b→b≤c→sliceB a b c=true:=fun h1 h2 h3=>by unfold sliceB; rw [decide_eq_true_eq]; omega
 have e1:List.drop (Int.toNat 0) (List.take (Int.toNat (i:Int)) x.Kids)=x.Kids.take i:=by simp
 have e2:List.drop (Int.toNat ((i:Int)+1)) (List.take (Int.toNat (x.Kids.length:Int)) x.Kids)=x.Kids.drop (i+1):=by simp
 rw [wi_id (x:=(i:Int)+1) zo zo,e1,e2,List.nil_append]
 generalize hz:((kidsL y.Kids).filter fun a=>!decide (a.Kind=3)||!(a.Name == w)).map GN.cs=Z
 have hsubZ:((kidsL y.Kids).filter fun a=>!decide (a.Kind=3)||!(a.Name == w)).Sublist (kidsL y.Kids):=List.filter_sublist
 obtain ⟨k1,k2⟩:=kids_map (d:=ey) (l:=(kidsL y.Kids).filter fun a=>!decide (a.Kind=3)||!(a.Name == w)) (fun y hy=>kidsL_mem hky y (hsubZ.mem hy))
 rw [hz] at k1 k2
 have hZl:Z.length≤y.Kids.length:=by rw [← hz,List.length_map]; have:=hsubZ.length_le; omega
 have htz:=tree_with hty hZl k2
 have hlen:(x.Kids.take i++[GN.cs (⟨y.Kind,y.Name,y.N,y.At,Z⟩:GN)]++x.Kids.drop (i+1)).length=x.Kids.length:=by simp; omega
 have hkm:kidsD (ey+1) (x.Kids.take i++[GN.cs (⟨y.Kind,y.Name,y.N,y.At,Z⟩:GN)]++x.Kids.drop (i+1)):=by
  intro q hq
  simp only [List.mem_append,List.mem_singleton] at hq
  rcases hq with (hq | rfl) | hq
  ·exact hk q (List.mem_of_mem_take hq)
  ·exact ⟨_,of_cs' _ _ _ _ _,htz⟩
  ·exact hk q (List.mem_of_mem_drop hq)
 have hKm:kidsL (x.Kids.take i++[GN.cs (⟨y.Kind,y.Name,y.N,y.At,Z⟩:GN)]++x.Kids.drop (i+1))=(kidsL x.Kids).take i++(⟨y.Kind,y.Name,y.N,y.At,Z⟩:GN) :: (kidsL x.Kids).drop (i+1):=by
  rw [kidsL_app,kidsL_app,kidsL_take hk,kidsL_drop hk,show kidsL [GN.cs (⟨y.Kind,y.Name,y.N,y.At,Z⟩:GN)]=[(⟨y.Kind,y.Name,y.N,y.At,Z⟩:GN)] from by unfold kidsL; rw [List.filterMap_cons,of_cs']; rfl,List.append_assoc]
  rfl
 have htm:=tree_with ht (l:=x.Kids.take i++[GN.cs (⟨y.Kind,y.Name,y.N,y.At,Z⟩:GN)]++x.Kids.drop (i+1)) zo hkm
 have hswm:swL ((kidsL x.Kids).take i++(⟨y.Kind,y.Name,y.N,y.At,Z⟩:GN) :: (kidsL x.Kids).drop (i+1))≤swL (kidsL x.Kids):=by
  have h1:swL (kidsL x.Kids)=swL ((kidsL x.Kids).take i++y :: (kidsL x.Kids).drop (i+1)):=by
   rw [← hKe,← List.drop_eq_getElem_cons hKl,List.take_append_drop]
  rw [h1]
  unfold swL
  rw [List.map_append,List.sum_append,List.map_cons,List.sum_cons,List.map_append,List.sum_append,List.map_cons,List.sum_cons]
  have h2:pwL (kidsL Z)≤pwL (kidsL y.Kids):=by rw [k1]; exact sum_sub (fun y=>by omega) hsubZ
  simp only
  omega
 rw [hsl zo zo zo,cond_true,rm2 (by simp; omega),cond_true,rm2 (by simp; omega),cond_true,hsl zo zo zo,cond_true,rm2 (by rw [hlen]; omega),cond_true]
 obtain ⟨vb,hvb,hvb2⟩:=r_valid3 htm hn
 rw [hvb,obs]
 cases vb
 ·rfl
 have hvm:=hvb2 rfl
 have hdg2:(runF ((kidsL x.Kids).take i++y :: (kidsL x.Kids).drop (i+1)) bs0).dg=[]:=by
  rw [← hKe,← List.drop_eq_getElem_cons hKl,List.take_append_drop]; exact hdg
 obtain ⟨t,hrun⟩:=missing_run (z:=⟨y.Kind,y.Name,y.N,y.At,Z⟩) hdg2 hn7 ⟨rfl,rfl,rfl⟩ (fun s q hq=>read_without hq k1 hneed)
 have hB:=s_Build htm hn (by simp only; rw [hKm,hlen]; omega)
 rw [if_pos hvm] at hB
 simp only [hKm,hrun] at hB
 rw [if_neg zq] at hB
 simp only [Bool.not_true,cond_false]
 rw [hB,obs]
 simp only [zLC]
 rw [ltI_t zo,cond_true]
 show some (opq ((eqI 4 4)&&((eqI y.At y.At)&&true)))=some true
 simp [opq,eqI]
theorem missing04_plain {d:Nat} {x:GN} {m1 m2:Int} (ht:treeD d x) (hm1:0≤m1∧m1≤255) (hm2:0≤m2∧m2≤255):g_law04_SiteMissing 36893488147419103232 x m1 m2=some true:=missing_gen ht hm1 hm2 zo head04
end Go.Proofs
namespace Go.Proofs.YteakahdpnpecoaaGreat
open Go Go.Abs Go.Proofs
theorem tree_of:∀ (d:Nat) (x:GN),GN.wfd d x→treeD d x
 | 0,_,h=>h.elim
 | d+1,x,h=>by
  obtain ⟨h0,h1,h2,h3,h4⟩:=h
  exact ⟨h0,h2,h3,h1,h4.1,fun k hk=>by
   obtain ⟨y,e,g⟩:=h4.2 k hk
   exact ⟨y,by rw [e]; exact of_cs' _ _ _ _ _,tree_of d y g⟩⟩
theorem siteMissing_holds:Rows.SiteMissingSaid :=
 siteMissing_said (fun x m k h hm hk=>by
  obtain ⟨d,h⟩:=h
  exact ⟨_,missing04_plain (tree_of d x h) hm hk⟩)
end Go.Proofs.YteakahdpnpecoaaGreat
