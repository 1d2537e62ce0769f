/-
  A part of the proof of a statement of the seat YtkgamjjfjekgnaaGreat.
-/
import Derived.Test.YtkgamjjfjekgnaaGreatErr05
namespace Go.Proofs
open Go Go.Abs
set_option maxRecDepth 100000
set_option linter.unusedVariables false
theorem errors_gen {n d:Nat} {x:GNode} (ht:treeD d x) (hn:9223372036854776000≤n) (hh:g_law32_head n=some true) (wh pk:Int) (hwh:0≤wh∧wh≤65535) (hpk:0≤pk∧pk≤255)
  (hbad:∀ j,j < 6→∃ w,wrongs[j]?=some w∧badAt (at7 w) (if j < 5 then 9 else 3) n∧treeD 2 (at7 w)):g_law32_TariffErrors n x wh pk=some true:=by
 have ht':=ht
 obtain ⟨e,rfl,_,_,hk⟩:=tree_kids ht
 obtain ⟨b,eb,hb⟩:=few_valid ht' hn
 unfold g_law32_TariffErrors g_law32_usable
 rw [hh,eb]
 simp only [obs]
 cases b
 ·rfl
 obtain ⟨hp,hr,hs⟩:=hb rfl
 rw [hr]
 cases hv:validB x
 ·rfl
 rw [hv] at hp
 have hsw:=sw_nonneg (kidsL x.Kids)
 have hlen:x.Kids.length≤1500:=by omega
 obtain ⟨l,dg,g1,_,gl,ga,gd⟩:=build_same ht' hn hs (by rw [hp,hv]) (by rw [hr])
 have g2:=build_valid hk hlen hn hp
 simp only [cond_true,obs,Bool.not_true,cond_false]
 rw [g1]
 simp only [obs]
 cases dg with
 | cons a q=>rw [show ltI 0 (lenI (List.map GDg.cs (a :: q)))=true from ltI_t (by simp only [lenI,List.length_map,List.length_cons]; omega)]; rfl
 | nil =>
 rw [show ltI 0 (lenI (List.map GDg.cs []))=false from rfl,cond_false]
 generalize hts:tarsL (kidsL x.Kids)=ts at g2
 generalize hB:bld (artsF n) ts [] [] []=B at g2
 rw [g1,sie] at g2
 have hB2:B.2=[]:=by
  by_cases h:B.2=[]
  ·exact h
  ·rw [dzF h] at g2
   have:=congrArg Prod.snd g2
   exact this.symm
 rw [dzT hB2,cond_true] at g2
 have hok:okB (artsF n) ts []:=bld_ok _ ts [] [] (by rw [hB]; exact hB2)
 have htsm:∀ y ∈ ts,y ∈ kidsL x.Kids∧y.N=7:=fun y hy=>tars_mem (by rw [hts]; exact hy)
 have htst:∀ y ∈ ts,treeD e y:=fun y hy=>kidsL_mem hk y (htsm y hy).1
 have hsf:=sw_filter (kidsL x.Kids)
 rw [hts,kidsL_len hk] at hsf
 have hlens:=lens_sw ts
 have hts1:=sw_nonneg ts
 have hloop:=only_loop (x:=x) (n:=n) hk hlen x.Kids.length 0 n 0 [] (by omega) (by omega) (by simp) (by rw [List.drop_zero,hts]; omega)
 rw [List.drop_zero,hts,Nat.zero_add,List.nil_append] at hloop
 have hloop':loopN (fun recl5 (v:Int × Int × (List (List PV)))=>match v with | (l5_1,l5_2,l5_3)=>g_law32_TariffErrors_l5 x recl5 l5_1 l5_2 l5_3) n (0,0,[])=some (((lensN ts:Nat):Int),ts.map GNode.cs):=hloop
 rw [hloop',obs]
 simp only
 have hto:∀ (us:List GNode) (D:Nat),(∀ y ∈ us,treeD D y)→us.length≤1500→treeD (D+1) (⟨1,[],0,0,us.map GNode.cs⟩:GNode):=fun us D h1 h2=>⟨by simp,by simp,by simp,by simp,by simp only [List.length_map]; unfold maxLen; omega,kidsD_cs h1⟩
 have hlts:ts.length≤1500:=by omega
 have hvo:validB (⟨1,[],0,0,ts.map GNode.cs⟩:GNode)=true:=by
  have hall:(kidsL x.Kids).all itemB=true:=by
   unfold validB at hv
   simp only [bae] at hv
   exact hv.2.2.2
  unfold validB
  simp only [kidsL_cs,decide_true,Bool.true_and]
  exact List.all_eq_true.2 fun y hy=>List.all_eq_true.1 hall y (htsm y hy).1
 have hpo:=p_valid (n:=n) (hto ts e htst hlts) hn (by simp only [kidsL_cs,List.length_map]; omega)
 rw [hvo] at hpo
 have g3:=build_valid (n:=n) (x:=(⟨1,[],0,0,ts.map GNode.cs⟩:GNode)) (kidsD_cs htst) (by simp only [List.length_map]; exact hlts) hn hpo
 simp only [kidsL_cs] at g3
 rw [← hts,tars_tars,hts,hB,dzT hB2,cond_true,← g2] at g3
 rw [g3]
 simp only [obs]
 rw [show ltI 0 (lenI (List.map GDg.cs []))=false from rfl,cond_false,sameL n l (by omega) gl ga]
 simp only [obs,Bool.not_true,cond_false]
 by_cases hm:lensN ts=0
 ·rw [hm]; rfl
 have hm0:eqI ((lensN ts:Nat):Int) 0=false:=by rw [eqI_d]; exact dzF (by omega)
 rw [hm0,cond_false]
 obtain ⟨j,hj⟩:∃ j:Nat,pk=(j:Int):=⟨pk.toNat,by omega⟩
 subst hj
 obtain ⟨q,hq⟩:∃ q:Nat,wh=(q:Int):=⟨wh.toNat,by omega⟩
 subst hq
 have e1:Int.tmod (wi (j:Int)) 6=((j % 6:Nat):Int):=by rw [wi_id (by omega) (by omega),Int.tmod_eq_emod_of_nonneg (by omega)]; omega
 have e2:Int.tmod (j:Int) 6=((j % 6:Nat):Int):=by rw [Int.tmod_eq_emod_of_nonneg (by omega)]; omega
 have e3:Int.tmod (wi (q:Int)) ((lensN ts:Nat):Int)=((q % lensN ts:Nat):Int):=by rw [wi_id (by omega) (by omega),Int.tmod_eq_emod_of_nonneg (by omega)]; norm_cast
 obtain ⟨w,hw1,hw2,hw3⟩:=hbad (j % 6) (Nat.mod_lt _ (by omega))
 generalize j % 6=j' at e1 e2 hw1 hw2
 rw [e1,e2,e3]
 have hgw:Option.bind (getI (wrongs.map GNode.cs) (j':Int)) GNode.of=some w:=by
  rw [getI_nat,List.getElem?_map,hw1]
  exact of_cs' _ _ _ _ _
 refine Eq.trans (wrong_list n _ _) ?_
 rw [hgw]
 simp only [obs,Bool.not_false,cond_true]
 have hq:=Nat.mod_lt q (show 0 < lensN ts by omega)
 have hkl:∀ y ∈ ts,y.Kids.length≤1500:=fun y hy=>by
  have h1:(y.Kids.length:Int)+pwL (kidsL y.Kids)≤swL ts:=sum_mem (f:=fun k=>(k.Kids.length:Int)+pwL (kidsL k.Kids)) (fun y=>by have:=pw_nonneg (kidsL y.Kids); omega) hy
  have:=pw_nonneg (kidsL y.Kids)
  omega
 have hbl:=bad_loop (n:=n) ts htst hlts hkl w ts.length 0 n ((q % lensN ts:Nat):Int) [] (by omega) (by omega) (by simp) (by omega)
 rw [List.drop_zero,List.nil_append] at hbl
 have hbl':loopN (fun recl23 (v:Int × Int × (List (List PV)))=>match v with | (l23_1,l23_2,l23_3)=>g_law32_TariffErrors_l23 (ts.map GNode.cs) w recl23 l23_1 l23_2 l23_3) n (((q % lensN ts:Nat):Int),0,[])=some ((repl (GNode.cs (at7 w)) ts ((q % lensN ts:Nat):Int)).map GNode.cs):=hbl
 first | rw [hbl',obs] | (unfold at7 at f3 hbl' ⊢; rw [hbl,obs])
 obtain ⟨pre,y,post,p,f1,f2,f3⟩:=repl_at (GNode.cs (at7 w)) ts (q % lensN ts) hq
 rw [f3]
 have hyts:y ∈ ts:=by rw [f1]; simp
 generalize hy':(⟨y.Kind,y.Name,y.N,y.At,y.Kids.set p (GNode.cs (at7 w))⟩:GNode)=y'
 have hkids':y'.Kids=y.Kids.set p (GNode.cs (at7 w)):=by rw [← hy']
 have hyt:=htst y hyts
 obtain ⟨e',rfl,_,_,hyk⟩:=tree_kids hyt
 have hyt':treeD (e'+1+2) y':=by
  obtain ⟨a1,a2,a3,a4,a5,a6⟩:=hyt
  rw [← hy']
  refine ⟨a1,a2,a3,a4,by simp only [List.length_set]; exact a5,fun k hk'=>?_⟩
  rcases List.mem_or_eq_of_mem_set hk' with h | rfl
  ·obtain ⟨z,h1,h2⟩:=a6 k h
   exact ⟨z,h1,treeD_add h2 2⟩
  ·exact ⟨at7 w,of_cs' _ _ _ _ _,by have:=treeD_add hw3 e'; rwa [Nat.add_comm] at this⟩
 have hbt:∀ z ∈ pre++y' :: post,treeD (e'+1+2) z:=by
  intro z hz
  rcases List.mem_append.1 hz with h | h
  ·exact treeD_add (htst z (by rw [f1]; simp [h])) 2
  ·rcases List.mem_cons.1 h with rfl | h
   ·exact hyt'
   ·exact treeD_add (htst z (by rw [f1]; simp [h])) 2
 have hb7:∀ z ∈ pre++y' :: post,z.N=7:=by
  intro z hz
  rcases List.mem_append.1 hz with h | h
  ·exact (htsm z (by rw [f1]; simp [h])).2
  ·rcases List.mem_cons.1 h with rfl | h
   ·rw [← hy']; exact (htsm y hyts).2
   ·exact (htsm z (by rw [f1]; simp [h])).2
 have hblen:(pre++y' :: post).length≤1500:=by
  have:(pre++y :: post).length≤1500:=by rw [← f1]; exact hlts
  simpa using this
 have htb:=hto (pre++y' :: post) _ hbt hblen
 obtain ⟨b2,eb2,hb2⟩:=few_valid (n:=n) htb hn
 rw [eb2,obs]
 cases b2
 ·rfl
 obtain ⟨hp2,hr2,_⟩:=hb2 rfl
 rw [cond_true,hr2]
 cases hv2:validB (⟨1,[],0,0,(pre++y' :: post).map GNode.cs⟩:GNode)
 ·rfl
 rw [hv2] at hp2
 have g4:=build_valid (n:=n) (x:=(⟨1,[],0,0,(pre++y' :: post).map GNode.cs⟩:GNode)) (kidsD_cs hbt) (by simp only [List.length_map]; exact hblen) hn hp2
 simp only [kidsL_cs] at g4
 rw [tars_all hb7] at g4
 obtain ⟨r,er,_⟩:=arts_tot (n:=n) (htst y hyts) hn
 have hAy:artsF n y=r:=by unfold artsF; rw [er]; rfl
 rw [f1] at hok
 have herr:=okB_mid _ y post pre [] hok
 rw [hAy] at herr
 obtain ⟨out',eo⟩:=arts_bad (x:=y) (x':=y') hyk hn (hkl y hyts) hw2 p f2 hkids' p 0 n n [] false r (by omega) (by have:=hkl y hyts; omega) (by have:=hkl y hyts; omega) er herr
 have hAy':artsF n y'=(out',⟨if j' < 5 then 9 else 3,7777⟩):=by
  have:g_t_articles n y'=some (out',⟨if j' < 5 then 9 else 3,7777⟩):=eo
  unfold artsF
  rw [this]
  rfl
 have hfin:=bld_bad (artsF n) y y' post (by rw [← hy']) (by rw [hAy']; simp only; split <;> decide) pre [] [] hok
 rw [hAy'] at hfin
 rw [hfin] at g4
 rw [g4]
 rw [dzF (by intro h; cases h)]
 by_cases h5:j' < 5
 ·rw [if_pos h5,show ltI (j':Int) 5=true from ltI_t (by omega)]; rfl
 ·rw [if_neg h5,show ltI (j':Int) 5=false from ltI_f (by omega)]; rfl
theorem errors32_plain {d:Nat} {x:GNode} (wh pk:Int) (ht:treeD d x) (hwh:0≤wh∧wh≤65535) (hpk:0≤pk∧pk≤255):g_law32_TariffErrors 36893488147419103232 x wh pk=some true:=by
 have hN:(36893488147419103232:Nat)=N0:=rfl
 have hh:g_law32_head N0=some true:=head32_big
 have h1:9223372036854776000≤N0:=by unfold N0; omega
 have hb:=wrong_bad
 rw [hN]
 generalize N0=n at hh h1 hb ⊢
 exact errors_gen ht h1 hh wh pk hwh hpk hb
end Go.Proofs
namespace Go.Proofs.YtkgamjjfjekgnaaGreat
open Go Go.Abs Go.Proofs
theorem tree_of:∀ (d:Nat) (x:GNode),GNode.wfd d x→treeD d x
 | 0,_,h=>h.elim
 | d+1,x,h=>by
  obtain ⟨h0,h1,h2,h3,h4⟩:=h
  exact ⟨h0,h2,h3,h1,h4.1,fun k hk=>by
   obtain ⟨y,e,g⟩:=h4.2 k hk
   exact ⟨y,by rw [e]; exact of_cs' _ _ _ _ _,tree_of d y g⟩⟩
theorem tariffErrors_holds:Rows.TariffErrorsSaid :=
 tariffErrors_said (fun x wh pk h h1 h2=>by
  obtain ⟨d,h⟩:=h
  exact ⟨_,errors32_plain wh pk (tree_of d x h) h1 h2⟩)
end Go.Proofs.YtkgamjjfjekgnaaGreat
