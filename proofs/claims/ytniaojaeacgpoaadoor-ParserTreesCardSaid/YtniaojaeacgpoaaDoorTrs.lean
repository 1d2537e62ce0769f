/-
  A part of the proof of a statement of the seat YtniaojaeacgpoaaDoor.
-/
import Derived.Test.YtniaojaeacgpoaaDoorTrs04
set_option linter.unusedVariables false
namespace Go.Proofs
open Go Go.Abs
set_option maxRecDepth 100000
theorem arts_step (n:Nat) (T:List GTk) (len:Int) (pre:List (List PV)) (hT:T.length≤2100) (hp:pre.length≤2100) (hn:10000≤n)
  (rec:(List (List PV) × List GTk × Int × Int × List GDg)→Option (List (List PV) × List GTk × Int × Int × List GDg)) (acc:List (List PV)) (i:Nat) (ds:List GDg) (hi:i≤T.length) (ha:acc.length≤i) (hds:ds.length≤20) :
  g_r_item_l20 n pre rec acc T (i:Int) len ds=if 20≤ds.length then some (pre++acc,T,(i:Int),len,ds) else if isPu 125 (pk len (T.drop i)) then some (pre++acc,T,((i+1:Nat):Int),len,ds) else match artF len (T.drop i) with
   | .ok (x,k)=>rec (acc++[GN.cs x],T,((i+k:Nat):Int),len,ds)
   | .error (e,k)=>if (skipF ((T.drop i).drop k)).1 ≠ [59] then some (pre++acc,T,((i+(k+(skipF ((T.drop i).drop k)).2):Nat):Int),len,ds++[⟨7,e⟩]) else rec (acc,T,((i+(k+(skipF ((T.drop i).drop k)).2):Nat):Int),len,ds++[⟨7,e⟩]):=by
 have hroom:roomB (pre.length+acc.length) 64=true:=by simp [roomB]; omega
 have hroom1:roomB (acc.length+1) 64=true:=by simp [roomB]; omega
 have hroom2:roomB (ds.length+1) 16=true:=by simp [roomB]; omega
 unfold g_r_item_l20 g_r_item_j19
 simp only [p_full,obs,p_peek2,eqI_d,cond_some,pu_b,List.nil_append,List.append_nil,zLA,hroom,zCT,List.length_singleton,hroom1,hroom2]
 by_cases hf:20≤ds.length
 ·rw [dzT hf,if_pos hf]; rfl
 rw [dzF hf,if_neg hf]
 simp only [Bool.not_false,zCT]
 cases hb:isPu 125 (pk len (T.drop i))
 rotate_left
 ·simp only [zCT,if_true]
  have:=pu_lt hb
  rw [wi_id (x:=(i:Int)+1) zo zo]
  rfl
 simp only [zCF,Bool.false_eq_true,if_false]
 rw [p_article n T i len hT hi hn]
 cases hA:artF len (T.drop i) with
 | ok y =>
  obtain ⟨x,k⟩:=y
  simp only [obs,exc,zCT]
 | error y =>
  obtain ⟨e,k⟩:=y
  have hk:=artF_err hA
  rw [zLD] at hk
  simp only [obs,exc]
  rw [p_skip n T (i+k) len [] hT zo hn]
  simp only [obs,zCF]
  rw [drop_drop']
  generalize skipF ((T.drop i).drop k)=m
  rw [show i+k+m.2=i+(k+m.2) from by omega]
  by_cases h59:m.1=[59]
  ·rw [if_neg (by simpa using h59),show eqS m.1 [59]=true from by simp [eqS,h59]]; rfl
  ·rw [if_pos h59,show eqS m.1 [59]=false from by simp [eqS,h59]]; rfl
theorem arts_gen (n:Nat) (T:List GTk) (len:Int) (pre:List (List PV)) (hT:T.length≤2100) (hp:pre.length≤2100) (hn:10000≤n) :
  ∀ (j i f:Nat) (acc:List (List PV)) (ds:List GDg),T.length - i < j→i≤T.length→acc.length≤i→ds.length≤20→T.length - i < f →
   loopN (fun recl20 (v:List (List PV) × List GTk × Int × Int × List GDg)=>g_r_item_l20 n pre recl20 v.1 v.2.1 v.2.2.1 v.2.2.2.1 v.2.2.2.2) j (acc,T,(i:Int),len,ds)=some (pre++(acc++(artsF f len ds (T.drop i)).1),T,((i+(artsF f len ds (T.drop i)).2.1:Nat):Int),len,(artsF f len ds (T.drop i)).2.2):=by
 intro j
 induction j with
 | zero=>intro i f acc ds h; omega
 | succ j ih =>
  intro i f acc ds h1 h2 h3 h4 h5
  obtain ⟨f,rfl⟩:∃ f',f=f'+1:=⟨f - 1,by omega⟩
  have e:artsF (f+1) len ds (T.drop i)=if 20≤ds.length then ([],0,ds) else if isPu 125 (pk len (T.drop i)) then ([],1,ds) else match artF len (T.drop i) with
   | .ok (x,k)=>let z:=artsF f len ds ((T.drop i).drop k); (GN.cs x :: z.1,k+z.2.1,z.2.2)
   | .error (e,k)=>let m:=skipF ((T.drop i).drop k)
    if m.1 ≠ [59] then ([],k+m.2,ds++[⟨7,e⟩]) else
     let z:=artsF f len (ds++[⟨7,e⟩]) ((T.drop i).drop (k+m.2)); (z.1,k+m.2+z.2.1,z.2.2):=rfl
  unfold loopN
  generalize loopN (fun recl20 (v:List (List PV) × List GTk × Int × Int × List GDg)=>g_r_item_l20 n pre recl20 v.1 v.2.1 v.2.2.1 v.2.2.2.1 v.2.2.2.2) j=L at ih ⊢
  show g_r_item_l20 n pre L acc T (i:Int) len ds=_
  rw [arts_step n T len pre hT hp hn L acc i ds h2 h3 h4,e]
  by_cases hf:20≤ds.length
  ·simp [if_pos hf]
  rw [if_neg hf,if_neg hf]
  by_cases hb:isPu 125 (pk len (T.drop i))=true
  ·simp [if_pos hb]
  rw [if_neg hb,if_neg hb]
  cases hA:artF len (T.drop i) with
  | ok y =>
   obtain ⟨x,k⟩:=y
   have hk:=artF_ok hA
   rw [zLD] at hk
   simp only
   rw [ih (i+k) f _ _ zo zo (by simp; omega) h4 zo,drop_drop']
   simp only [List.append_assoc,List.singleton_append]
   rw [show i+k+(artsF f len ds ((T.drop i).drop k)).2.1=i+(k+(artsF f len ds ((T.drop i).drop k)).2.1) from by omega]
  | error y =>
   obtain ⟨e,k⟩:=y
   have hk:=artF_err hA
   rw [zLD] at hk
   simp only
   have hs:=skip_le ((T.drop i).drop k)
   rw [zLD,zLD] at hs
   by_cases h59:(skipF ((T.drop i).drop k)).1 ≠ [59]
   ·rw [if_pos h59,if_pos h59]; simp
   ·rw [if_neg h59,if_neg h59]
    have hne:=skip_pos (skip_ne (l:=(T.drop i).drop k) (by rw [Classical.not_not.1 h59]; simp))
    generalize skipF ((T.drop i).drop k)=m at hs hne
    rw [ih (i+(k+m.2)) f _ _ zo zo zo (by simp; omega) zo,drop_drop']
    simp only
    rw [show i+(k+m.2)+(artsF f len (ds++[⟨7,e⟩]) ((T.drop i).drop (k+m.2))).2.1=i+(k+m.2+(artsF f len (ds++[⟨7,e⟩]) ((T.drop i).drop (k+m.2))).2.1) from by omega]
theorem artsF_le:∀ (f:Nat) (len:Int) (ds:List GDg) (r:List GTk),(artsF f len ds r).2.1≤r.length∧(artsF f len ds r).1.length≤(artsF f len ds r).2.1∧(ds.length≤20→(artsF f len ds r).2.2.length≤20)
 | 0,_,_,r=>by simp [artsF]
 | f+1,len,ds,r=>by
  have e:artsF (f+1) len ds r=if 20≤ds.length then ([],0,ds) else if isPu 125 (pk len r) then ([],1,ds) else match artF len r with
   | .ok (x,k)=>let z:=artsF f len ds (r.drop k); (GN.cs x :: z.1,k+z.2.1,z.2.2)
   | .error (e,k)=>let m:=skipF (r.drop k)
    if m.1 ≠ [59] then ([],k+m.2,ds++[⟨7,e⟩]) else
     let z:=artsF f len (ds++[⟨7,e⟩]) (r.drop (k+m.2)); (z.1,k+m.2+z.2.1,z.2.2):=rfl
  rw [e]
  by_cases hf:20≤ds.length
  ·simp [if_pos hf]
  rw [if_neg hf]
  by_cases hb:isPu 125 (pk len r)=true
  ·have:0 < r.length:=pu_lt (j:=0) hb
   rw [if_pos hb]
   exact ⟨this,by simp,fun h=>h⟩
  rw [if_neg hb]
  cases hA:artF len r with
  | ok y =>
   obtain ⟨x,k⟩:=y
   have hk:=artF_ok hA
   have:=artsF_le f len ds (r.drop k)
   rw [zLD] at this
   simp only [zLC]
   omega
  | error y =>
   obtain ⟨e,k⟩:=y
   have hk:=artF_err hA
   simp only
   have hs:=skip_le (r.drop k)
   rw [zLD] at hs
   generalize skipF (r.drop k)=m at hs
   by_cases h59:m.1 ≠ [59]
   ·rw [if_pos h59]; simp; omega
   ·rw [if_neg h59]
    have:=artsF_le f len (ds++[⟨7,e⟩]) (r.drop (k+m.2))
    rw [zLD] at this
    simp only [zLA,List.length_singleton] at this ⊢
    omega
theorem p_item (n:Nat) (T:List GTk) (i:Nat) (len:Int) (ds:List GDg) (hT:T.length≤2100) (hi:i≤T.length) (hds:ds.length≤20) (hn:10000≤n) :
  g_r_item n (⟨T,(i:Int),len,ds⟩:GPr)=some (match itemF len ds (T.drop i) with
   | .ok (x,k,ds')=>.ok (x,(⟨T,((i+k:Nat):Int),len,ds'⟩:GPr))
   | .error (e,k)=>.error (e,(⟨T,((i+k:Nat):Int),len,ds⟩:GPr))):=by
 unfold g_r_item
 simp only [p_peek2,obs,eqI_d,p_item1,cond_some,take_b,p_fail2,exc]
 unfold itemF
 have e0:pk len (T.drop i)=pk len ((T.drop i).drop 0):=rfl
 by_cases h1:(pk len (T.drop i)).Kind=1∧kinB (pk len (T.drop i)).Text ≠ 0
 rotate_left
 ·rw [if_neg h1]
  have:(decide ((pk len (T.drop i)).Kind=1)&&!decide (kinB (pk len (T.drop i)).Text=0))=false:=by
   rw [Bool.eq_false_iff]
   intro h
   simp only [bae,zDT,Bool.not_eq_true',decide_eq_false_iff_not] at h
   exact h1 h
  rw [this]
  rfl
 rw [if_pos h1]
 have hl1:i < T.length:=by
  have:=k1_lt (len:=len) (r:=T) (j:=i) h1.1
  exact this
 have:(decide ((pk len (T.drop i)).Kind=1)&&!decide (kinB (pk len (T.drop i)).Text=0))=true:=by
  rw [dzT h1.1,dzF h1.2]; rfl
 rw [this]
 simp only [Bool.not_true,zCF]
 unfold g_r_item_j2
 simp only
 rw [wi_id (x:=(i:Int)+1) zo zo,show ((i:Int)+1)=((i+1:Nat):Int) from by omega]
 simp only [p_peek2,obs,eqI_d,p_notKey,cond_some,take_b,p_fail2,exc]
 rw [show T.drop (i+1)=(T.drop i).drop 1 from drop_drop' ..]
 by_cases h2:(pk len ((T.drop i).drop 1)).Kind=1∧keyB (pk len ((T.drop i).drop 1)).Text=false
 rotate_left
 ·rw [if_neg h2]
  have:(decide ((pk len ((T.drop i).drop 1)).Kind=1)&&!keyB (pk len ((T.drop i).drop 1)).Text)=false:=by
   rw [Bool.eq_false_iff]
   intro h
   simp only [bae,zDT,Bool.not_eq_true'] at h
   exact h2 h
  rw [this]
  rfl
 rw [if_pos h2]
 have hl2:i+1 < T.length:=by
  have:=h2.1
  rw [← drop_drop'] at this
  exact k1_lt (len:=len) (r:=T) (j:=i+1) this
 have:(decide ((pk len ((T.drop i).drop 1)).Kind=1)&&!keyB (pk len ((T.drop i).drop 1)).Text)=true:=by
  rw [dzT h2.1,h2.2]; rfl
 rw [this]
 simp only [Bool.not_true,zCF]
 unfold g_r_item_j4
 simp only [p_kindOf,obs,eqI_d]
 rw [wi_id (x:=(i:Int)+1) zo zo,show ((i:Int)+1)=((i+1:Nat):Int) from by omega,wi_id (x:=((i+1:Nat):Int)+1) zo zo,show (((i+1:Nat):Int)+1)=((i+2:Nat):Int) from by omega]
 have hat:=p_attrs n T (i+2) len ⟨T,(i:Int),len,ds⟩ hT zo hn
 have hat9:=p_attrs9 n T (i+2) len ⟨T,(i:Int),len,ds⟩ hT zo hn
 have hl:(T.drop i).length=T.length - i:=zLD
 have hF:attF (T.length - (i+2)+1) (T.drop (i+2))=attF ((T.drop i).length+1) ((T.drop i).drop 2):=by
  rw [← drop_drop',attF_fuel _ ((T.drop i).length+1) _ (by rw [zLD]; omega) (by rw [zLD]; omega)]
 rw [hF] at hat hat9
 have hal:(attF ((T.drop i).length+1) ((T.drop i).drop 2)).2≤T.length - i - 2:=Nat.le_trans (attF_le ..) (by rw [zLD,hl]; omega)
 have hal2:=attF_len ((T.drop i).length+1) ((T.drop i).drop 2)
 generalize attF ((T.drop i).length+1) ((T.drop i).drop 2)=a at hat hat9 hal hal2 ⊢
 have hroom:roomB (List.length a.1) 64=true:=by simp [roomB]; omega
 by_cases h7:kinB (pk len (T.drop i)).Text=7
 ·rw [dzT h7,zCT]
  simp only [p_peek2,obs]
  refine bind_of hat9 ?_
  show cond (roomB (List.length ([]++a.1)) 64) _ _=_
  rw [List.nil_append,hroom,zCT]
  simp only [p_peek2,obs,cond_some,pu_b,pu_not,p_fail2,exc]
  rw [show T.drop (i+2+a.2)=(T.drop i).drop (2+a.2) from by rw [Nat.add_assoc,drop_drop']]
  rw [if_pos h7]
  cases hp:isPu 123 (pk len ((T.drop i).drop (2+a.2)))
  ·simp only [Bool.not_false,zCT]
   rw [show i+2+a.2=i+(2+a.2) from by omega]
   simp
  ·have hlt:=pu_lt hp
   simp only [Bool.not_true,zCF,if_true]
   unfold g_r_item_j17
   simp only [List.nil_append,List.append_nil,hroom,zCT]
   rw [wi_id (x:=((i+2+a.2:Nat):Int)+1) zo zo,show (((i+2+a.2:Nat):Int)+1)=((i+(3+a.2):Nat):Int) from by omega]
   have hg:=arts_gen n T len a.1 hT zo hn n (i+(3+a.2)) ((T.drop i).length+1) [] ds zo zo zq hds zo
   refine bind_of hg ?_
   show g_r_item_j6 _ _ _ _ _ _ _ _=_
   unfold g_r_item_j6
   rw [List.nil_append,drop_drop',h7]
   generalize artsF ((T.drop i).length+1) len ds ((T.drop i).drop (3+a.2))=z
   rw [show i+(3+a.2)+z.2.1=i+(3+a.2+z.2.1) from by omega]
 ·rw [dzF h7,zCF]
  simp only [p_peek2,obs]
  refine bind_of hat ?_
  show cond (roomB (List.length ([]++a.1)) 64) _ _=_
  rw [List.nil_append,hroom,zCT]
  simp only [p_peek2,obs,cond_some,pu_b,pu_not,p_fail2,exc]
  rw [show T.drop (i+2+a.2)=(T.drop i).drop (2+a.2) from by rw [Nat.add_assoc,drop_drop']]
  rw [if_neg h7]
  cases hp:isPu 59 (pk len ((T.drop i).drop (2+a.2)))
  ·simp only [Bool.not_false,zCT]
   rw [show i+2+a.2=i+(2+a.2) from by omega]
   simp
  ·have hlt:=pu_lt hp
   simp only [Bool.not_true,zCF,if_true]
   unfold g_r_item_j46 g_r_item_j35
   simp only [List.nil_append,List.append_nil,hroom,zCT]
   rw [wi_id (x:=((i+2+a.2:Nat):Int)+1) zo zo,show (((i+2+a.2:Nat):Int)+1)=((i+(3+a.2):Nat):Int) from by omega]
theorem whl_all {α:Type} {p:α→Bool} (l:List α):∀ x ∈ l.takeWhile p,p x=true:=by
 induction l with
 | nil=>intro x hx; cases hx
 | cons c r ih =>
  intro x hx
  rw [List.takeWhile_cons] at hx
  split at hx
  ·rename_i h
   rcases List.mem_cons.1 hx with rfl | hx
   ·exact h
   ·exact ih x hx
  ·cases hx
theorem whl_split {α:Type} {p:α→Bool} (l:List α):l=l.takeWhile p++l.drop (l.takeWhile p).length:=by
 induction l with
 | nil=>rfl
 | cons c r ih =>
  rw [List.takeWhile_cons]
  split
  ·simp only [List.cons_append,zLC,List.drop_succ_cons,List.cons.injEq,true_and]; exact ih
  ·rfl
inductive ArtT:List GTk→GN→Prop
 | mk {t e:GTk} {v:List GTk}:t.Kind=1→arkB t.Text=true→(∀ x ∈ v,okV true x=true)→isPu 59 e=true→ArtT (t :: (v++[e])) ⟨4,t.Text,0,t.At,v.map vcs⟩
inductive Atts:List GTk→List (List PV)→Prop
 | nil:Atts [] []
 | cons {t:GTk} {v r:List GTk} {xs:List (List PV)}:t.Kind=1→attB t.Text=true→(∀ x ∈ v,okV false x=true)→Atts r xs→Atts (t :: (v++r)) (GN.cs ⟨3,t.Text,0,t.At,v.map vcs⟩ :: xs)
inductive Arts:List GTk→List (List PV)→Prop
 | nil {e:GTk}:isPu 125 e=true→Arts [e] []
 | cons {a r:List GTk} {x:GN} {xs:List (List PV)}:ArtT a x→Arts r xs→Arts (a++r) (GN.cs x :: xs)
inductive ItemT:List GTk→GN→Prop
 | plain {t m e:GTk} {a:List GTk} {xs:List (List PV)}:t.Kind=1→kinB t.Text ≠ 0→kinB t.Text ≠ 7→m.Kind=1→keyB m.Text=false→Atts a xs→isPu 59 e=true→ItemT (t :: m :: (a++[e])) ⟨2,m.Text,kinB t.Text,t.At,xs⟩
 | tariff {t m e:GTk} {a b:List GTk} {xs ys:List (List PV)}:t.Kind=1→kinB t.Text=7→m.Kind=1→keyB m.Text=false→Atts a xs→isPu 123 e=true→Arts b ys→ItemT (t :: m :: (a++e :: b)) ⟨2,m.Text,7,t.At,xs++ys⟩
inductive Items:List GTk→List (List PV)→Prop
 | nil:Items [] []
 | cons {a r:List GTk} {x:GN} {xs:List (List PV)}:ItemT a x→Items r xs→Items (a++r) (GN.cs x :: xs)
theorem pu_kind {c:UInt8} {t:GTk} (h:isPu c t=true):t.Kind=3∧t.Text=[c]:=of_decide_eq_true h
theorem pk_cons (len:Int) (t:GTk) (r:List GTk):pk len (t :: r)=t:=rfl
theorem drop_len {α:Type} (a b:List α) (k:Nat) (h:k=a.length):(a++b).drop k=b:=by subst h; exact List.drop_left
theorem artF_B {len:Int} {r:List GTk} {x:GN} {k:Nat} (h:artF len r=.ok (x,k)):∃ a q,r=a++q∧a.length=k∧ArtT a x:=by
 unfold artF at h
 split at h
 ·rename_i h1
  split at h
  ·rename_i h2
   simp only [Except.ok.injEq,zPJ] at h
   obtain ⟨rfl,rfl⟩:=h
   have h0:0 < r.length:=k1_lt (j:=0) (len:=len) h1.1
   cases r with
   | nil=>exact absurd h0 zq
   | cons t r =>
    simp only [pk_cons,List.drop_succ_cons,List.drop_zero] at h1 h2 ⊢
    rw [Nat.add_comm 1,List.drop_succ_cons] at h2
    have hs:=whl_split (p:=okV true) r
    have ha:=whl_all (p:=okV true) r
    unfold vals at h2 ⊢
    generalize r.takeWhile (okV true)=v at hs ha h2 ⊢
    cases hq:r.drop v.length with
    | nil=>rw [hq] at h2; exact absurd (pu_kind h2).1 (by simp [pk,zTok])
    | cons e q =>
     rw [hq,pk_cons] at h2
     rw [hq] at hs
     refine ⟨t :: (v++[e]),q,by rw [hs]; simp,by simp; omega, .mk h1.1 h1.2 ha h2⟩
  ·cases h
 ·cases h
theorem attF_B:∀ (f:Nat) (r:List GTk),r.length < f→∃ a q,r=a++q∧a.length=(attF f r).2∧Atts a (attF f r).1∧∀ d ∈ q.head?,¬ (d.Kind=1∧attB d.Text=true)
 | 0,_,h=>absurd h (Nat.not_lt_zero _)
 | f+1,[],_=>⟨[],[],rfl,rfl, .nil,fun d hd=>by cases hd⟩
 | f+1,t :: r,hf=>by
  have e:attF (f+1) (t :: r)=if t.Kind=1∧attB t.Text=true then
   (GN.cs ⟨3,t.Text,0,t.At,(vals false r).map vcs⟩ :: (attF f (r.drop (vals false r).length)).1,1+(vals false r).length+(attF f (r.drop (vals false r).length)).2)
   else ([],0):=rfl
  rw [e]
  simp only [zLC] at hf
  by_cases h:t.Kind=1∧attB t.Text=true
  ·rw [if_pos h]
   have hs:=whl_split (p:=okV false) r
   have ha:=whl_all (p:=okV false) r
   unfold vals
   generalize r.takeWhile (okV false)=v at hs ha ⊢
   obtain ⟨a,q,e1,e2,e3,e4⟩:=attF_B f (r.drop v.length) (by rw [zLD]; omega)
   refine ⟨t :: (v++a),q,?_,?_, .cons h.1 h.2 ha e3,e4⟩
   ·rw [hs,e1]; simp
   ·simp only [zLC,zLA,e2]; omega
  ·rw [if_neg h]
   exact ⟨[],t :: r,rfl,rfl, .nil,fun d hd=>by simp only [List.head?_cons,Option.mem_def,sie] at hd; subst hd; exact h⟩
theorem artsF_e (f:Nat) (len:Int) (ds:List GDg) (r:List GTk):artsF (f+1) len ds r=if 20≤ds.length then ([],0,ds) else if isPu 125 (pk len r) then ([],1,ds) else match artF len r with
      | .ok (x,k)=>let z:=artsF f len ds (r.drop k); (GN.cs x :: z.1,k+z.2.1,z.2.2)
      | .error (e,k)=>let m:=skipF (r.drop k)
        if m.1 ≠ [59] then ([],k+m.2,ds++[⟨7,e⟩]) else
          let z:=artsF f len (ds++[⟨7,e⟩]) (r.drop (k+m.2)); (z.1,k+m.2+z.2.1,z.2.2):=rfl
theorem artsF_mono:∀ (f:Nat) (len:Int) (ds:List GDg) (r:List GTk),ds.length≤(artsF f len ds r).2.2.length
 | 0,_,_,r=>by simp [artsF]
 | f+1,len,ds,r=>by
  rw [artsF_e]
  split
  ·exact zNR _
  split
  ·exact zNR _
  split
  ·exact artsF_mono f len ds _
  ·simp only
   split
   ·simp
   ·refine Nat.le_trans ?_ (artsF_mono f len _ _)
    simp
theorem artsF_pre:∀ (f:Nat) (len:Int) (ds:List GDg) (r:List GTk),∃ es,(artsF f len ds r).2.2=ds++es
 | 0,_,_,r=>⟨[],by simp [artsF]⟩
 | f+1,len,ds,r=>by
  rw [artsF_e]
  split
  ·exact ⟨[],by simp⟩
  split
  ·exact ⟨[],by simp⟩
  split
  ·exact artsF_pre f len ds _
  ·rename_i e k _
   simp only
   split
   ·exact ⟨[⟨7,e⟩],rfl⟩
   ·obtain ⟨es,h⟩:=artsF_pre f len (ds++[(⟨7,e⟩:GDg)]) (r.drop (k+(skipF (r.drop k)).2))
    exact ⟨⟨7,e⟩ :: es,by rw [h]; simp⟩
theorem itemF_pre {len:Int} {ds ds':List GDg} {r:List GTk} {x:GN} {k:Nat} (h:itemF len ds r=.ok (x,k,ds')):∃ es,ds'=ds++es:=by
 unfold itemF at h
 split at h
 rotate_left
 ·cases h
 split at h
 rotate_left
 ·cases h
 simp only at h
 generalize attF (r.length+1) (r.drop 2)=A at h
 split at h
 ·split at h
  rotate_left
  ·cases h
  simp only [Except.ok.injEq,zPJ] at h
  obtain ⟨rfl,rfl,rfl⟩:=h
  exact artsF_pre _ _ _ _
 ·split at h
  rotate_left
  ·cases h
  simp only [Except.ok.injEq,zPJ] at h
  obtain ⟨rfl,rfl,rfl⟩:=h
  exact ⟨[],by simp⟩
theorem itemF_ds {len:Int} {ds ds':List GDg} {r:List GTk} {x:GN} {k:Nat} (h:itemF len ds r=.ok (x,k,ds')) (hl:ds'.length≤ds.length):ds'=ds:=by
 obtain ⟨es,rfl⟩:=itemF_pre h
 rw [zLA] at hl
 have:es=[]:=List.eq_nil_of_length_eq_zero zo
 rw [this,List.append_nil]
theorem artsF_B:∀ (f:Nat) (len:Int) (ds:List GDg) (r:List GTk),r.length < f→ds.length < 20→(artsF f len ds r).2.2=ds→∃ a q,r=a++q∧a.length=(artsF f len ds r).2.1∧Arts a (artsF f len ds r).1
 | 0,_,_,_,h,_,_=>absurd h (Nat.not_lt_zero _)
 | f+1,len,ds,r,hf,hd,he=>by
  rw [artsF_e] at he ⊢
  rw [if_neg zo] at he ⊢
  by_cases hb:isPu 125 (pk len r)=true
  ·rw [if_pos hb]
   have:0 < r.length:=pu_lt (j:=0) hb
   cases r with
   | nil=>exact absurd this zq
   | cons t q=>exact ⟨[t],q,rfl,rfl, .nil hb⟩
  rw [if_neg hb] at he ⊢
  cases hA:artF len r with
  | ok y =>
   obtain ⟨x,k⟩:=y
   rw [hA] at he
   simp only at he ⊢
   obtain ⟨a,q,rfl,rfl,ha⟩:=artF_B hA
   have hpos:0 < a.length:=by cases ha; simp
   rw [drop_len a _ _ rfl] at he ⊢
   simp only [zLA] at hf
   obtain ⟨b,q',e1,e2,e3⟩:=artsF_B f len ds q zo hd he
   exact ⟨a++b,q',by rw [e1]; simp,by rw [zLA,e2], .cons ha e3⟩
  | error y =>
   obtain ⟨e,k⟩:=y
   rw [hA] at he
   simp only at he
   exfalso
   split at he
   ·have:=congrArg List.length he
    simp at this
   ·have:=artsF_mono f len (ds++[(⟨7,e⟩:GDg)]) (r.drop (k+(skipF (r.drop k)).2))
    rw [he] at this
    simp at this
    omega
theorem itemF_B {len:Int} {ds:List GDg} {r:List GTk} {x:GN} {k:Nat} (hd:ds.length < 20) (h:itemF len ds r=.ok (x,k,ds)):∃ a q,r=a++q∧a.length=k∧ItemT a x:=by
 unfold itemF at h
 split at h
 rotate_left
 ·cases h
 rename_i h1
 split at h
 rotate_left
 ·cases h
 rename_i h2
 have hl2:1 < r.length:=k1_lt (len:=len) (j:=1) h2.1
 obtain ⟨t,m,r,rfl⟩:∃ t m r',r=t :: m :: r':=by
  cases r with
  | nil=>simp at hl2
  | cons t r =>
   cases r with
   | nil=>simp at hl2
   | cons m r=>exact ⟨t,m,r,rfl⟩
 simp only [pk_cons,List.drop_succ_cons,List.drop_zero] at h1 h2 h
 obtain ⟨a,q,e1,e2,e3,e4⟩:=attF_B ((t :: m :: r).length+1) r (by simp only [zLC]; omega)
 generalize attF ((t :: m :: r).length+1) r=A at e2 e3 h
 subst e1
 rw [← e2] at h
 rw [show (t :: m :: (a++q)).drop (2+a.length)=q from by rw [Nat.add_comm 2,List.drop_succ_cons,List.drop_succ_cons,drop_len a _ _ rfl],show (t :: m :: (a++q)).drop (3+a.length)=q.drop 1 from by rw [show 3+a.length=a.length+1+2 from by omega,List.drop_succ_cons,List.drop_succ_cons,← List.drop_drop,drop_len a _ _ rfl]] at h
 split at h
 ·rename_i h7
  split at h
  rotate_left
  ·cases h
  rename_i hp
  have hq:0 < q.length:=pu_lt (j:=0) hp
  cases q with
  | nil=>simp at hq
  | cons e q =>
   rw [pk_cons] at hp
   simp only [List.drop_succ_cons,List.drop_zero,Except.ok.injEq,zPJ] at h
   obtain ⟨rfl,rfl,h3⟩:=h
   obtain ⟨b,q',f1,f2,f3⟩:=artsF_B _ len ds q (by simp only [zLC,zLA]; omega) hd h3
   generalize artsF ((t :: m :: (a++e :: q)).length+1) len ds q=Z at f2 f3
   refine ⟨t :: m :: (a++e :: b),q',by rw [f1]; simp,?_, .tariff h1.1 h7 h2.1 h2.2 e3 hp f3⟩
   simp only [zLC,zLA,← f2]
   omega
 ·rename_i h7
  split at h
  rotate_left
  ·cases h
  rename_i hp
  have hq:0 < q.length:=pu_lt (j:=0) hp
  cases q with
  | nil=>simp at hq
  | cons e q =>
   rw [pk_cons] at hp
   simp only [Except.ok.injEq,zPJ] at h
   obtain ⟨rfl,rfl,_⟩:=h
   refine ⟨t :: m :: (a++[e]),q,by simp,?_, .plain h1.1 h1.2 h7 h2.1 h2.2 e3 hp⟩
   simp only [zLC,zLA,List.length_nil]
   omega
theorem itemsF_e (f:Nat) (len:Int) (ds:List GDg) (r:List GTk):itemsF (f+1) len ds r=if r=[]∨20≤ds.length then ([],ds) else match itemF len ds r with
  | .ok (x,k,ds')=>let z:=itemsF f len ds' (r.drop k); (GN.cs x :: z.1,z.2)
  | .error (e,k)=>itemsF f len (ds++[⟨7,e⟩]) (r.drop (k+(skipF (r.drop k)).2)):=rfl
theorem itemF_ok {len:Int} {ds ds':List GDg} {r:List GTk} {x:GN} {k:Nat} (h:itemF len ds r=.ok (x,k,ds')):3≤k∧k≤r.length∧ds.length≤ds'.length∧(ds.length≤20→ds'.length≤20):=by
 unfold itemF at h
 split at h
 rotate_left
 ·cases h
 split at h
 rotate_left
 ·cases h
 have hal:=attF_le (r.length+1) (r.drop 2)
 rw [zLD] at hal
 simp only at h
 generalize attF (r.length+1) (r.drop 2)=A at hal h
 split at h
 ·split at h
  rotate_left
  ·cases h
  rename_i hp
  have:=pu_lt hp
  simp only [Except.ok.injEq,zPJ] at h
  obtain ⟨rfl,rfl,rfl⟩:=h
  have hz:=artsF_le (r.length+1) len ds (r.drop (3+A.2))
  have hm:=artsF_mono (r.length+1) len ds (r.drop (3+A.2))
  rw [zLD] at hz
  omega
 ·split at h
  rotate_left
  ·cases h
  rename_i hp
  have:=pu_lt hp
  simp only [Except.ok.injEq,zPJ] at h
  obtain ⟨rfl,rfl,rfl⟩:=h
  omega
theorem itemF_err {len e:Int} {ds:List GDg} {r:List GTk} {k:Nat} (h:itemF len ds r=.error (e,k)):k≤r.length∧e=(pk len (r.drop k)).At:=by
 unfold itemF at h
 split at h
 rotate_left
 ·simp only [Except.error.injEq,zPJ] at h
  obtain ⟨rfl,rfl⟩:=h
  exact ⟨by omega,rfl⟩
 rename_i h1
 have h0:0 < r.length:=k1_lt (len:=len) (j:=0) h1.1
 split at h
 rotate_left
 ·simp only [Except.error.injEq,zPJ] at h
  obtain ⟨rfl,rfl⟩:=h
  exact ⟨by omega,rfl⟩
 rename_i h2
 have hl2:1 < r.length:=k1_lt (len:=len) (j:=1) h2.1
 have hal:=attF_le (r.length+1) (r.drop 2)
 rw [zLD] at hal
 simp only at h
 generalize attF (r.length+1) (r.drop 2)=A at hal h
 split at h
 ·split at h
  ·cases h
  ·simp only [Except.error.injEq,zPJ] at h
   obtain ⟨rfl,rfl⟩:=h
   exact ⟨by omega,rfl⟩
 ·split at h
  ·cases h
  ·simp only [Except.error.injEq,zPJ] at h
   obtain ⟨rfl,rfl⟩:=h
   exact ⟨by omega,rfl⟩
theorem itemsF_mono:∀ (f:Nat) (len:Int) (ds:List GDg) (r:List GTk),ds.length≤(itemsF f len ds r).2.length∧(ds.length≤20→(itemsF f len ds r).2.length≤20)
 | 0,_,_,r=>by simp [itemsF]
 | f+1,len,ds,r=>by
  rw [itemsF_e]
  split
  ·exact ⟨zNR _,fun h=>h⟩
  rename_i h0
  cases hI:itemF len ds r with
  | ok y =>
   obtain ⟨x,k,ds'⟩:=y
   have:=itemF_ok hI
   have:=itemsF_mono f len ds' (r.drop k)
   simp only
   omega
  | error y =>
   obtain ⟨e,k⟩:=y
   have:=itemsF_mono f len (ds++[(⟨7,e⟩:GDg)]) (r.drop (k+(skipF (r.drop k)).2))
   simp only [zLA,List.length_singleton] at this ⊢
   omega
theorem itemsF_B:∀ (f:Nat) (len:Int) (ds:List GDg) (r:List GTk),r.length < f→ds.length < 20→(itemsF f len ds r).2=ds→Items r (itemsF f len ds r).1
 | 0,_,_,_,h,_,_=>absurd h (Nat.not_lt_zero _)
 | f+1,len,ds,r,hf,hd,he=>by
  rw [itemsF_e] at he ⊢
  by_cases h0:r=[]
  ·subst h0
   rw [if_pos (.inl rfl)]
   exact .nil
  have h0':¬ (r=[]∨20≤ds.length):=by
   rintro (h | h)
   ·exact h0 h
   ·omega
  rw [if_neg h0'] at he ⊢
  cases hI:itemF len ds r with
  | ok y =>
   obtain ⟨x,k,ds'⟩:=y
   rw [hI] at he
   simp only at he ⊢
   have h1:=itemF_ok hI
   have h2:=itemsF_mono f len ds' (r.drop k)
   rw [he] at h2
   obtain rfl:ds'=ds:=by
    have h3:=h1.2.2.1
    have h4:=h2.1
    exact itemF_ds hI zo
   obtain ⟨a,q,rfl,rfl,ha⟩:=itemF_B hd hI
   have hpos:0 < a.length:=by omega
   rw [drop_len a _ _ rfl] at he ⊢
   simp only [zLA] at hf
   exact .cons ha (itemsF_B f len ds' q zo hd he)
  | error y =>
   obtain ⟨e,k⟩:=y
   rw [hI] at he
   simp only at he
   exfalso
   have:=(itemsF_mono f len (ds++[(⟨7,e⟩:GDg)]) (r.drop (k+(skipF (r.drop k)).2))).1
   rw [he] at this
   simp at this
   omega
theorem lpN_s {V R:Type} (B:(V→Option R)→V→Option R) (n:Nat) (v:V):loopN B (n+1) v=B (loopN B n) v:=rfl
def treeP:Nat→GN→Prop
 | 0,_=>False
 | d+1,x=>x.Kids.length≤10000∧(0≤x.At∧x.At≤100000)∧∀ k ∈ x.Kids,∃ y,GN.of k=some y∧treeP d y
theorem treeP_s (d:Nat) (x:GN):treeP (d+1) x=(x.Kids.length≤10000∧(0≤x.At∧x.At≤100000)∧∀ k ∈ x.Kids,∃ y,GN.of k=some y∧treeP d y):=rfl
theorem kidP_at {d:Nat} {l:List (List PV)} (h:∀ k ∈ l,∃ y,GN.of k=some y∧treeP d y) {i:Nat} (hi:i < l.length):∃ y,Option.bind (getI l (i:Int)) GN.of=some y∧treeP d y∧GN.of (l[i]'hi)=some y:=by
 obtain ⟨y,e,t⟩:=h (l[i]'hi) (List.getElem_mem hi)
 refine ⟨y,?_,t,e⟩
 rw [getI_nat,List.getElem?_eq_getElem hi]
 exact e
theorem le_lt (a b:Int):leI a b=!ltI b a:=by
 unfold leI ltI
 by_cases h:a≤b
 ·rw [dzT h,dzF zo]; rfl
 ·rw [dzF h,dzT zo]; rfl
theorem count_eq:∀ (n d:Nat) (x:GN) (l:Int),treeP d x→g_p_count n x l=g_ref02_Count n x l
 | 0,_,_,_,_=>rfl
 | n+1,0,_,_,h=>h.elim
 | n+1,d+1,x,l,h=>by
  obtain ⟨hl,_,hk⟩:=(treeP_s d x ▸ h)
  show g_p_count_body n (g_p_count n) x l=g_ref02_Count_body n (g_ref02_Count n) x l
  have ih:=fun y l hy=>count_eq n d y l hy
  generalize g_p_count n=A at ih ⊢
  generalize g_ref02_Count n=B at ih ⊢
  unfold g_p_count_body g_ref02_Count_body
  have key:∀ (j:Nat) (s:Int) (i:Nat),i≤x.Kids.length→loopN (fun recl1 (v:Int × Int)=>g_p_count_l1 x l A recl1 v.1 v.2) j (s,(i:Int))=loopN (fun recl1 (v:Int × Int)=>g_ref02_Count_l1 x l B recl1 v.1 v.2) j (s,(i:Int)):=by
   intro j
   induction j with
   | zero=>intro s i _; rfl
   | succ j ihj =>
    intro s i hi
    unfold loopN
    generalize loopN (fun recl1 (v:Int × Int)=>g_p_count_l1 x l A recl1 v.1 v.2) j=L1 at ihj ⊢
    generalize loopN (fun recl1 (v:Int × Int)=>g_ref02_Count_l1 x l B recl1 v.1 v.2) j=L2 at ihj ⊢
    show g_p_count_l1 x l A L1 s (i:Int)=g_ref02_Count_l1 x l B L2 s (i:Int)
    unfold g_p_count_l1 g_ref02_Count_l1
    simp only [map_idc,lenI,ltI,le_lt]
    by_cases c:i < x.Kids.length
    rotate_left
    ·rw [dzF zo]; rfl
    obtain ⟨y,hy,ty,_⟩:=kidP_at hk c
    rw [dzT zo,zCT,zCT,hy]
    simp only [obs]
    by_cases c2:l < s
    ·rw [dzT c2]; rfl
    ·rw [dzF c2]
     simp only [Bool.not_false,zCT,zCF]
     rw [ih y _ ty]
     congr 1
     funext r
     rw [wi_id (x:=(i:Int)+1) zo zo]
     exact ihj _ (i+1) c
  exact key n 1 0 (Nat.zero_le _)
theorem count_totP:∀ (m n d:Nat) (x:GN) (most:Int),treeP d x→0≤most→most≤m→m≤1000000→m+3≤n→Does (g_ref02_Count n x most) (fun r=>1≤r∧r≤most+1):=by
 intro m
 induction m with
 | zero =>
  intro n d x most ht h0 h1 h2 h3
  obtain ⟨n,rfl⟩:∃ q,n=q+1+1:=⟨n - 2,by omega⟩
  obtain rfl:most=0:=by omega
  refine ⟨1,?_,by omega,by omega⟩
  unfold g_ref02_Count g_ref02_Count_body
  rw [lpN_s]
  unfold g_ref02_Count_l1
  simp only [show leI 1 0=false from rfl,cond_some,obs]
  cases ltI 0 (lenI (List.map idc x.Kids)) <;> rfl
 | succ m ih =>
  intro n d x most ht h0 h1 h2 h3
  obtain ⟨n,rfl⟩:∃ q,n=q+1:=⟨n - 1,by omega⟩
  cases d with
  | zero=>exact ht.elim
  | succ e =>
  obtain ⟨hl,_,hk⟩:=(treeP_s e x ▸ ht)
  unfold g_ref02_Count g_ref02_Count_body
  refine does_loop (Q:=fun _ r=>1≤r∧r≤most+1) (fun v=>(most+1 - v.1).toNat) (fun v=>1≤v.1∧v.1≤most+1∧∃ i:Nat,v.2=(i:Int)∧i≤x.Kids.length) ?_ ⟨by omega,by omega,0,rfl,by omega⟩ (by simp only; omega)
  rintro rec ⟨many,idx⟩ ⟨g1,g2,i,hi,hil⟩ hrec
  simp only at g1 g2 hi hrec ⊢
  subst hi
  unfold g_ref02_Count_l1
  simp only [lenI,zLM,ltI,leI]
  by_cases c1:i < x.Kids.length
  rotate_left
  ·rw [dzF zo]
   exact does_some ⟨g1,g2⟩
  rw [dzT zo]
  by_cases c2:many≤most
  rotate_left
  ·rw [dzF c2]
   exact does_some ⟨g1,g2⟩
  rw [dzT c2]
  obtain ⟨y,hy,hty,_⟩:=kidP_at hk c1
  simp only [zCT,obs]
  rw [hy,obs,wi_id (x:=most - many) zo zo]
  refine does_bind (ih n e y (most - many) hty zo zo zo zo) ?_
  rintro r ⟨r1,r2⟩
  rw [wi_id (x:=many+r) zo zo,wi_id (x:=(i:Int)+1) zo zo]
  exact hrec (many+r,(i:Int)+1) ⟨by simp only; omega,by simp only; omega,i+1,by simp,c1⟩ (by simp only; omega)
theorem same_refl:∀ (d n:Nat) (x:GN),treeP d x→20000+d≤n→g_ref02_Same n x x=some true
 | 0,_,_,h,_=>h.elim
 | d+1,0,_,_,h=>by omega
 | d+1,n+1,x,h,hn=>by
  obtain ⟨hl,_,hk⟩:=(treeP_s d x ▸ h)
  show g_ref02_Same_body n (g_ref02_Same n) x x=some true
  have ih:=fun y hy=>same_refl d n y hy zo
  generalize g_ref02_Same n=A at ih ⊢
  unfold g_ref02_Same_body
  simp only [eqI_d,decide_true,Bool.not_true,zCF,show eqS x.Name x.Name=true from by simp [eqS],obs]
  refine loop_list (l:=x.Kids) (F:=fun _=>true) zo ?_ ?_ 0 (Nat.zero_le _) zo
  ·intro rec
   unfold g_ref02_Same_l6
   simp only [map_idc,lenI,ltI]
   rw [dzF zo]; rfl
  ·intro rec i c r hd hi hlt hw hr
   obtain ⟨y,hy,ty,_⟩:=kidP_at hk hlt
   unfold g_ref02_Same_l6
   simp only [map_idc,lenI,ltI]
   rw [dzT zo,zCT,hy,obs,obs,ih y ty,obs,hw,hr]
   rfl
theorem of_cs1 (x:GN):GN.of (GN.cs x)=some x:=of_cs' _ _ _ _ _
def atB (l:List GTk):Prop:=∀ t ∈ l,0≤t.At∧t.At≤100000
theorem atB_app {a b:List GTk}:atB (a++b)↔atB a∧atB b:=by
 unfold atB
 simp only [List.mem_append]
 exact ⟨fun h=>⟨fun t ht=>h t (.inl ht),fun t ht=>h t (.inr ht)⟩,fun h t ht=>ht.elim (h.1 t) (h.2 t)⟩
theorem atB_cons {t:GTk} {b:List GTk}:atB (t :: b)↔(0≤t.At∧t.At≤100000)∧atB b:=by
 unfold atB
 simp
def goodK (d:Nat) (xs:List (List PV)):Prop:=∀ k ∈ xs,∃ y,GN.of k=some y∧treeP d y
theorem good_cons {d:Nat} {x:GN} {xs:List (List PV)} (h:treeP d x) (h':goodK d xs):goodK d (GN.cs x :: xs):=by
 intro k hk
 rcases List.mem_cons.1 hk with rfl | hk
 ·exact ⟨x,of_cs1 x,h⟩
 ·exact h' k hk
theorem good_app {d:Nat} {xs ys:List (List PV)} (h:goodK d xs) (h':goodK d ys):goodK d (xs++ys):=by
 intro k hk
 rcases List.mem_append.1 hk with hk | hk
 ·exact h k hk
 ·exact h' k hk
theorem vals_good {v:List GTk} (h:atB v):goodK 1 (v.map vcs):=by
 intro k hk
 obtain ⟨t,ht,rfl⟩:=List.mem_map.1 hk
 refine ⟨vnode t,of_cs1 _,?_⟩
 rw [treeP_s]
 have:=h t ht
 unfold vnode
 split
 ·exact ⟨by simp,this,by simp⟩
 ·exact ⟨by simp,this,by simp⟩
theorem ArtT_good {a:List GTk} {x:GN} (h:ArtT a x) (hl:a.length≤10000) (hb:atB a):treeP 2 x:=by
 cases h with
 | mk h1 h2 h3 h4 =>
  simp only [zLC,zLA,List.length_nil] at hl
  rw [atB_cons,atB_app] at hb
  rw [treeP_s]
  exact ⟨by simp; omega,hb.1,vals_good hb.2.1⟩
theorem Atts_good {a:List GTk} {xs:List (List PV)} (h:Atts a xs) (hl:a.length≤10000) (hb:atB a):goodK 2 xs∧xs.length≤a.length:=by
 induction h with
 | nil=>exact ⟨fun k hk=>(by cases hk),zNR _⟩
 | cons h1 h2 h3 h4 ih =>
  simp only [zLC,zLA] at hl
  rw [atB_cons,atB_app] at hb
  have:=ih zo hb.2.2
  refine ⟨good_cons ?_ this.1,by simp only [zLC,zLA]; omega⟩
  rw [treeP_s]
  exact ⟨by simp; omega,hb.1,vals_good hb.2.1⟩
theorem Arts_good {a:List GTk} {xs:List (List PV)} (h:Arts a xs) (hl:a.length≤10000) (hb:atB a):goodK 2 xs∧xs.length≤a.length:=by
 induction h with
 | nil=>exact ⟨fun k hk=>(by cases hk),by simp⟩
 | cons h1 h2 ih =>
  simp only [zLA] at hl
  rw [atB_app] at hb
  have:=ih zo hb.2
  have hp:=ArtT_good h1 zo hb.1
  refine ⟨good_cons hp this.1,?_⟩
  cases h1
  simp only [zLC,zLA]
  omega
theorem ItemT_good {a:List GTk} {x:GN} (h:ItemT a x) (hl:a.length≤10000) (hb:atB a):treeP 3 x:=by
 cases h with
 | plain h1 h2 h3 h4 h5 h6 h7 =>
  simp only [zLC,zLA,List.length_nil] at hl
  rw [atB_cons,atB_cons,atB_app] at hb
  have:=Atts_good h6 zo hb.2.2.1
  rw [treeP_s]
  exact ⟨by simp only; omega,hb.1,this.1⟩
 | tariff h1 h2 h4 h5 h6 h7 h8 =>
  simp only [zLC,zLA] at hl
  rw [atB_cons,atB_cons,atB_app,atB_cons] at hb
  have hA:=Atts_good h6 zo hb.2.2.1
  have hB:=Arts_good h8 zo hb.2.2.2.2
  rw [treeP_s]
  exact ⟨by simp only [zLA]; omega,hb.1,good_app hA.1 hB.1⟩
theorem Items_good {a:List GTk} {xs:List (List PV)} (h:Items a xs) (hl:a.length≤10000) (hb:atB a):goodK 3 xs∧xs.length≤a.length:=by
 induction h with
 | nil=>exact ⟨fun k hk=>(by cases hk),by simp⟩
 | cons h1 h2 ih =>
  simp only [zLA] at hl
  rw [atB_app] at hb
  have:=ih zo hb.2
  refine ⟨good_cons (ItemT_good h1 zo hb.1) this.1,?_⟩
  cases h1 <;> simp only [zLC,zLA] <;> omega
theorem items_gen (n:Nat) (T:List GTk) (len:Int) (hT:T.length≤2100) (hn:10000≤n) :
  ∀ (j i f:Nat) (acc:List (List PV)) (ds:List GDg),T.length - i < j→i≤T.length→acc.length≤i→ds.length≤20→T.length - i < f →
   ∃ i':Int,loopN (fun recl4 (v:List (List PV) × List GTk × Int × Int × List GDg)=>g_p_Parse_l4 n recl4 v.1 v.2.1 v.2.2.1 v.2.2.2.1 v.2.2.2.2) j (acc,T,(i:Int),len,ds)=some (acc++(itemsF f len ds (T.drop i)).1,T,i',len,(itemsF f len ds (T.drop i)).2):=by
 intro j
 induction j with
 | zero=>intro i f acc ds h; omega
 | succ j ih =>
  intro i f acc ds h1 h2 h3 h4 h5
  obtain ⟨f,rfl⟩:∃ f',f=f'+1:=⟨f - 1,by omega⟩
  unfold loopN
  generalize loopN (fun recl4 (v:List (List PV) × List GTk × Int × Int × List GDg)=>g_p_Parse_l4 n recl4 v.1 v.2.1 v.2.2.1 v.2.2.2.1 v.2.2.2.2) j=L at ih ⊢
  show ∃ i',g_p_Parse_l4 n L acc T (i:Int) len ds=_
  rw [itemsF_e]
  unfold g_p_Parse_l4
  simp only [p_full,obs,ltI,lenI,zLM,cond_some]
  by_cases h0:T.drop i=[]∨20≤ds.length
  ·rw [if_pos h0]
   have:(bif decide ((i:Int) < (T.length:Int)) then !decide (20≤ds.length) else false)=false:=by
    rcases h0 with h | h
    ·rw [List.drop_eq_nil_iff] at h
     rw [dzF zo]; rfl
    ·rw [dzT h]; cases decide ((i:Int) < (T.length:Int)) <;> rfl
   rw [this]
   exact ⟨(i:Int),by simp⟩
  rw [if_neg h0]
  have hi:i < T.length:=by
   apply Classical.byContradiction
   intro h
   exact h0 (.inl (List.drop_eq_nil_of_le zo))
  have hd:¬ 20≤ds.length:=fun h=>h0 (.inr h)
  rw [dzT zo,dzF hd]
  simp only [Bool.not_false,zCT]
  rw [p_item n T i len ds hT h2 h4 hn]
  have hroom:∀ z:List PV,roomB (List.length (acc++[z])) 64=true:=by intro z; simp [roomB]; omega
  have hroom2:∀ z:GDg,roomB (List.length (ds++[z])) 16=true:=by intro z; simp [roomB]; omega
  cases hI:itemF len ds (T.drop i) with
  | ok y =>
   obtain ⟨x,k,ds'⟩:=y
   have hk:=itemF_ok hI
   rw [zLD] at hk
   simp only [obs,exc,zCT,hroom]
   obtain ⟨i',e⟩:=ih (i+k) f (acc++[GN.cs x]) ds' zo zo (by simp; omega) (hk.2.2.2 h4) zo
   refine ⟨i',e.trans ?_⟩
   rw [drop_drop']
   simp
  | error y =>
   obtain ⟨e,k⟩:=y
   have hk:=(itemF_err hI).1
   rw [zLD] at hk
   simp only [obs,exc,hroom2,zCT]
   rw [p_skip n T (i+k) len [] hT zo hn]
   simp only [obs,zCF]
   rw [show T.drop (i+k)=(T.drop i).drop k from drop_drop' ..]
   have hs:=skip_le ((T.drop i).drop k)
   rw [zLD,zLD] at hs
   have hpos:1≤k+(skipF ((T.drop i).drop k)).2:=by
    cases k with
    | zero=>have:=skip_pos (l:=(T.drop i).drop 0) (fun h=>h0 (.inl h)); omega
    | succ k=>omega
   generalize (skipF ((T.drop i).drop k)).2=m at hs hpos ⊢
   rw [show i+k+m=i+(k+m) from by omega]
   obtain ⟨i',e'⟩:=ih (i+(k+m)) f acc (ds++[⟨7,e⟩]) zo zo zo (by simp; omega) zo
   refine ⟨i',e'.trans ?_⟩
   rw [drop_drop' T i (k+m)]
theorem itemsF_len:∀ (f:Nat) (len:Int) (ds:List GDg) (r:List GTk),(itemsF f len ds r).1.length≤r.length
 | 0,_,_,r=>by simp [itemsF]
 | f+1,len,ds,r=>by
  rw [itemsF_e]
  split
  ·simp
  rename_i h0
  cases hI:itemF len ds r with
  | ok y =>
   obtain ⟨x,k,ds'⟩:=y
   have:=itemF_ok hI
   have h2:=itemsF_len f len ds' (r.drop k)
   rw [zLD] at h2
   simp only [zLC]
   omega
  | error y =>
   obtain ⟨e,k⟩:=y
   have h2:=itemsF_len f len (ds++[(⟨7,e⟩:GDg)]) (r.drop (k+(skipF (r.drop k)).2))
   rw [zLD] at h2
   simp only
   omega
def nz:GN:=⟨0,[],0,0,[]⟩
def srcN (xs:List (List PV)):GN:=⟨1,[],0,0,xs⟩
theorem p_Parse (n:Nat) (s:List UInt8) (hn:10000≤n):g_p_Parse n s=match lexS s with
  | .error (e,p)=>cond (!eqI e 0) (some (nz,[⟨e,(p:Int)⟩])) (g_p_Parse n s)
  | .ok T=>if (itemsF (T.length+1) (s.length:Int) [] T).2 ≠ [] then some (nz,(itemsF (T.length+1) (s.length:Int) [] T).2) else
    (g_p_count n (srcN (itemsF (T.length+1) (s.length:Int) [] T).1) 1500).bind fun c=>cond (ltI 1500 c) (some (nz,[⟨2,0⟩])) (some (srcN (itemsF (T.length+1) (s.length:Int) [] T).1,[])):=by
 have hL:=l_Lex n s hn
 cases hS:lexS s with
 | error y =>
  obtain ⟨e,p⟩:=y
  rw [hS] at hL
  simp only
  cases he:!eqI e 0
  ·rfl
  ·unfold g_p_Parse
   rw [hL]
   simp only [resL,obs,he,zCT]
   rfl
 | ok T =>
  rw [hS] at hL
  obtain ⟨_,_,hT⟩:=(lexS_iff s T).1 hS
  unfold g_p_Parse
  rw [hL]
  simp only [resL,obs,List.nil_append,show (!eqI 0 0)=false from rfl,zCF]
  obtain ⟨i',e⟩:=items_gen n T (s.length:Int) zo hn n 0 (T.length+1) [] [] zo (Nat.zero_le _) zq zq zo
  rw [List.drop_zero,List.nil_append] at e
  refine bind_of (x:=((itemsF (T.length+1) (s.length:Int) [] T).1,T,i',(s.length:Int),(itemsF (T.length+1) (s.length:Int) [] T).2)) ?_ ?_
  ·refine bind_of e ?_
   show cond (roomB (List.length (itemsF (T.length+1) (s.length:Int) [] T).1) 64) _ none=_
   have:(itemsF (T.length+1) (s.length:Int) [] T).1.length≤T.length:=itemsF_len _ _ _ _
   rw [show roomB (List.length (itemsF (T.length+1) (s.length:Int) [] T).1) 64=true from by simp [roomB]; omega,zCT]
  ·show cond (ltI 0 (lenI (List.map GDg.cs (itemsF (T.length+1) (s.length:Int) [] T).2))) _ _=_
   generalize itemsF (T.length+1) (s.length:Int) [] T=Z
   simp only [ltI,lenI,zLM]
   by_cases h:Z.2=[]
   ·rw [if_neg (by simpa using h),h]
    rfl
   ·have:0 < Z.2.length:=List.length_pos_iff.2 h
    rw [if_pos h,dzT zo]
    rfl
theorem tk_err {t:List UInt8} {e:Int} (h:tkOf t=.error e):e ≠ 0:=by
 unfold tkOf at h
 repeat (first | (split at h) | (simp only [Except.error.injEq] at h; omega) | (exact nomatch h))
theorem lexF_err:∀ (f p k:Nat) (s:List UInt8) (e:Int) (q:Nat),s.length < f→lexF f p s k=.error (e,q)→e ≠ 0∧p≤q∧q≤p+s.length
 | 0,_,_,_,_,_,h,_=>absurd h (Nat.not_lt_zero _)
 | f+1,p,k,s,e,q,hf,h=>by
  have hg:=gap_le s false
  cases hd:s.drop (gapN false s) with
  | nil=>rw [lex_end _ _ _ _ hd] at h; cases h
  | cons c r =>
   rw [lex_step _ _ _ _ c r hd] at h
   split at h
   ·simp only [Except.error.injEq,zPJ] at h
    obtain ⟨rfl,rfl⟩:=h
    exact ⟨by omega,by omega,by omega⟩
   cases ht:tkOf (tkT (c :: r)) with
   | error e' =>
    rw [ht] at h
    simp only [Except.error.injEq,zPJ] at h
    obtain ⟨rfl,rfl⟩:=h
    exact ⟨tk_err ht,by omega,by omega⟩
   | ok y =>
    obtain ⟨kk,x,v⟩:=y
    rw [ht] at h
    simp only at h
    have hp:=tkT_pos ht
    have hle:=tkT_le (c :: r)
    have hlen:(c :: r).length=s.length - gapN false s:=by rw [← hd,zLD]
    cases hl:lexF f (p+gapN false s+(tkT (c :: r)).length) ((c :: r).drop (tkT (c :: r)).length) (k+1) with
    | ok l=>rw [hl] at h; cases h
    | error z =>
     rw [hl] at h
     simp only [Except.error.injEq] at h
     subst h
     have:=lexF_err f _ _ _ _ _ (by rw [zLD]; omega) hl
     rw [zLD] at this
     exact ⟨this.1,by omega,by omega⟩
theorem lexS_err {s:List UInt8} {e:Int} {q:Nat} (h:lexS s=.error (e,q)):e ≠ 0∧q≤s.length:=by
 unfold lexS at h
 split at h
 ·simp only [Except.error.injEq,zPJ] at h
  obtain ⟨rfl,rfl⟩:=h
  exact ⟨by omega,Nat.zero_le _⟩
 ·have:=lexF_err _ _ _ _ _ _ zo h
  exact ⟨this.1,by omega⟩
theorem lexS_at {s:List UInt8} {T:List GTk} (h:lexS s=.ok T):(∀ t ∈ T,0≤t.At∧t.At < (s.length:Int))∧T.Pairwise (fun a b=>a.At < b.At)∧atB T∧T.length≤2000∧s.length≤8000:=by
 obtain ⟨h1,h2,h3⟩:=(lexS_iff s T).1 h
 have:=Lx_at h2
 refine ⟨fun t ht=>?_,this.2,fun t ht=>?_,h3,h1⟩
 ·have:=this.1 t ht; omega
 ·have:=this.1 t ht; omega
def Good (n:Nat) (s:List UInt8) (T:List GTk) (xs:List (List PV)):Prop:=lexS s=.ok T∧Items T xs∧∃ c,g_ref02_Count n (srcN xs) 1500=some c∧c≤1500
theorem src_tree {s:List UInt8} {T:List GTk} {xs:List (List PV)} (h:lexS s=.ok T) (hI:Items T xs):treeP 4 (srcN xs):=by
 have hA:=lexS_at h
 have:=Items_good hI zo hA.2.2.1
 rw [treeP_s]
 exact ⟨by unfold srcN; simp only; omega,⟨by simp [srcN],by simp [srcN]⟩,this.1⟩
theorem parse_cases (n:Nat) (s:List UInt8) (hn:30000≤n):∃ r,g_p_Parse n s=some r∧((r.2=[]∧∃ T xs,Good n s T xs∧r.1=srcN xs)∨(r.1=nz∧r.2 ≠ []∧(r.2=[⟨2,0⟩]∨(∃ T,lexS s=.ok T∧r.2=(itemsF (T.length+1) (s.length:Int) [] T).2)∨∃ e q,lexS s=.error (e,q)∧r.2=[⟨e,(q:Int)⟩]))):=by
 have hP:=p_Parse n s zo
 cases hS:lexS s with
 | error y =>
  obtain ⟨e,q⟩:=y
  rw [hS] at hP
  simp only at hP
  have:=lexS_err hS
  rw [show (!eqI e 0)=true from by rw [eqI_d,dzF this.1]; rfl,zCT] at hP
  exact ⟨_,hP, .inr ⟨rfl,by simp, .inr (.inr ⟨e,q,rfl,rfl⟩)⟩⟩
 | ok T =>
  rw [hS] at hP
  simp only at hP
  by_cases h:(itemsF (T.length+1) (s.length:Int) [] T).2=[]
  rotate_left
  ·rw [if_pos h] at hP
   exact ⟨_,hP, .inr ⟨rfl,h, .inr (.inl ⟨T,rfl,rfl⟩)⟩⟩
  rw [if_neg (by simpa using h)] at hP
  have hI:=itemsF_B (T.length+1) (s.length:Int) [] T zo zq h
  generalize (itemsF (T.length+1) (s.length:Int) [] T).1=xs at hP hI
  have ht:=src_tree hS hI
  obtain ⟨c,hc,hc1,hc2⟩:=count_totP 1500 n 4 _ 1500 ht zo zo zo zo
  rw [count_eq n 4 _ _ ht,hc,obs] at hP
  by_cases h15:c≤1500
  ·rw [show ltI 1500 c=false from dzF zo,zCF] at hP
   exact ⟨_,hP, .inl ⟨rfl,T,xs,⟨hS,hI,c,hc,h15⟩,rfl⟩⟩
  ·rw [show ltI 1500 c=true from dzT zo,zCT] at hP
   exact ⟨_,hP, .inr ⟨rfl,by simp, .inl rfl⟩⟩
theorem parse_few {n:Nat} {s:List UInt8} {r:GN × List GDg} (hr:g_p_Parse n s=some r) (h:(r.2=[]∧∃ T xs,Good n s T xs∧r.1=srcN xs)∨(r.1=nz∧r.2 ≠ []∧(r.2=[⟨2,0⟩]∨(∃ T,lexS s=.ok T∧r.2=(itemsF (T.length+1) (s.length:Int) [] T).2)∨∃ e q,lexS s=.error (e,q)∧r.2=[⟨e,(q:Int)⟩]))):r.2.length≤20:=by
 rcases h with ⟨e,_⟩ | ⟨_,_,e | ⟨T,_,e⟩ | ⟨_,_,_,e⟩⟩
 ·rw [e]; simp
 ·rw [e]; simp
 ·rw [e]; exact (itemsF_mono _ _ _ _).2 zq
 ·rw [e]; simp
theorem head_02:g_law02_head 36893488147419103232=some true:=by kernel_rfl
theorem b2i_of (c:UInt8) (d:Nat) (h:b2i c=48+(d:Int)):UInt8.ofNat (48+d)=c:=by
 have h1:c.toNat=48+d:=by unfold b2i at h; omega
 rw [← h1]
 simp
theorem dec_step (a d:Nat) (ha:1≤a) (hd:d≤9):Lib.decDigits (10 * a+d)=Lib.decDigits a++[UInt8.ofNat (48+d)]:=by
 rw [Lib.decDigits,dif_neg zo]
 rw [show (10 * a+d) / 10=a from by omega,show (10 * a+d) % 10=d from by omega]
theorem val_dec:∀ (r:List UInt8) (a:Nat) (v:Int),r.all isD=true→1≤a→a≤1000000→valL (a:Int) r=some v→0≤v∧v≤1000000∧Lib.decDigits v.toNat=Lib.decDigits a++r
 | [],a,v,_,h1,h2,h=>by
  simp only [valL,sie] at h
  subst h
  exact ⟨by omega,by omega,by simp⟩
 | c :: r,a,v,hr,h1,h2,h=>by
  simp only [List.all_cons,bae] at hr
  have hc:=of_decide_eq_true hr.1
  unfold valL at h
  split at h
  ·cases h
  rename_i hb
  obtain ⟨d,hd⟩:=Int.eq_ofNat_of_zero_le (show 0≤b2i c - 48 by omega)
  rw [show 10 * (a:Int)+(b2i c - 48)=((10 * a+d:Nat):Int) from by omega] at h hb
  obtain ⟨g1,g2,g3⟩:=val_dec r (10 * a+d) v hr.2 zo zo h
  refine ⟨g1,g2,?_⟩
  rw [g3,dec_step a d h1 zo,b2i_of c d zo]
  simp
theorem num_text {c:UInt8} {r:List UInt8} {v:Int} (hD:(c :: r).all isD=true) (h0:¬ (1 < (c :: r).length∧b2i c=48)) (h:valL 0 (c :: r)=some v):0≤v∧v≤1000000∧Lib.itoa v=c :: r:=by
 simp only [List.all_cons,bae] at hD
 have hc:=of_decide_eq_true hD.1
 obtain ⟨d,hd⟩:=Int.eq_ofNat_of_zero_le (show 0≤b2i c - 48 by omega)
 unfold valL at h
 rw [show 10 * (0:Int)+(b2i c - 48)=(d:Int) from by omega] at h
 split at h
 ·cases h
 have key:0≤v∧v≤1000000∧Lib.decDigits v.toNat=c :: r:=by
  cases r with
  | nil =>
   simp only [valL,sie] at h
   subst h
   refine ⟨by omega,by omega,?_⟩
   rw [Int.toNat_natCast,Lib.decDigits,dif_pos zo,b2i_of c d zo]
  | cons e r =>
   have h1:1≤d:=by
    simp only [zLC,not_and] at h0
    have:=h0 zo
    omega
   obtain ⟨g1,g2,g3⟩:=val_dec (e :: r) d v hD.2 h1 zo h
   refine ⟨g1,g2,?_⟩
   rw [g3,Lib.decDigits,dif_pos zo,b2i_of c d zo]
   rfl
 refine ⟨key.1,key.2.1,?_⟩
 unfold Lib.itoa
 rw [if_neg zo,key.2.2]
theorem tok_text {t x:List UInt8} {k v:Int} (hw:wholeT t=true) (h:tkOf t=.ok (k,x,v)):(k=2∧Lib.itoa v=t∧0≤v∧v≤1000000)∨(k ≠ 2∧x=t):=by
 cases t with
 | nil=>cases hw
 | cons c r =>
  unfold tkOf at h
  unfold wholeT at hw
  simp only at h hw
  by_cases hL:isL c=true
  ·rw [if_pos hL] at h
   split at h
   ·cases h
   ·simp only [Except.ok.injEq,zPJ] at h
    exact .inr ⟨by omega,h.2.1.symm⟩
  rw [if_neg hL] at h hw
  by_cases hD:isD c=true
  ·rw [if_pos hD] at h hw
   split at h
   ·cases h
   rename_i h0
   cases hv:valL 0 (c :: r) with
   | none=>rw [hv] at h; cases h
   | some u =>
    rw [hv] at h
    simp only [Except.ok.injEq,zPJ] at h
    obtain ⟨rfl,rfl,rfl⟩:=h
    obtain ⟨g1,g2,g3⟩:=num_text hw h0 hv
    exact .inl ⟨rfl,g3,g1,g2⟩
  ·rw [if_neg hD] at h
   split at h
   ·simp only [Except.ok.injEq,zPJ] at h
    exact .inr ⟨by omega,h.2.1.symm⟩
   ·cases h
theorem Lx_take:∀ {p:Nat} {s:List UInt8} {l:List GTk},Lx p s l→∀ k (hk:k < l.length),∃ s1 t s2:List UInt8,s=s1++(t++s2)∧(l[k]'hk).At=((p+s1.length:Nat):Int)∧wholeT t=true∧tkOf t=.ok ((l[k]'hk).Kind,(l[k]'hk).Text,(l[k]'hk).N)∧Lx p (s1++t) (l.take (k+1)):=by
 intro p s l h
 induction h with
 | nil hg=>intro k hk; simp at hk
 | @cons p g t r l k0 v y hg hw ht hst hl ih =>
  intro k hk
  cases k with
  | zero =>
   refine ⟨g,t,r,rfl,rfl,hw,ht,?_⟩
   have:=Lx.cons (p:=p) (g:=g) (t:=t) (r:=[]) (l:=[]) hg hw ht (by cases t <;> rfl) (.nil (b:=false) rfl)
   rw [List.append_nil] at this
   exact this
  | succ k =>
   simp only [zLC] at hk
   obtain ⟨s1,t',s2,e1,e2,e3,e4,e5⟩:=ih k zo
   refine ⟨g++(t++s1),t',s2,by rw [e1]; simp,?_,e3,e4,?_⟩
   ·simp only [List.getElem_cons_succ,e2,zLA]
    congr 1; omega
   ·rw [List.take_succ_cons,show g++(t++s1)++t'=g++(t++(s1++t')) from by simp]
    refine .cons hg hw ht ?_ e5
    rw [e1] at hst
    cases s1 with
    | cons d q=>cases t <;> exact hst
    | nil =>
     obtain ⟨d,q,hd,_⟩:=whole_head e3
     rw [hd] at hst ⊢
     cases t <;> exact hst
theorem sz_ge1:∀ (k:Nat) (x:GN),1≤sz k x
 | 0,_=>by simp [sz]
 | k+1,x=>by have:=sum_nonneg (sz_pos k) (kidsL x.Kids); unfold sz; omega
theorem count_gt:∀ (m n d:Nat) (x:GN) (most:Int),treeD d x→0≤most→most≤m→m≤1000000→m+3≤n→Does (g_ref02_Count n x most) (fun r=>1≤r∧r≤most+1∧(r≤most→r=sz d x)∧(most < r→most < sz d x)):=by
 intro m
 induction m with
 | zero =>
  intro n d x most ht h0 h1 h2 h3
  obtain ⟨r,e,g1,g2⟩:=count_tot 0 n d x most ht h0 h1 h2 h3
  have:=sz_ge1 d x
  exact ⟨r,e,g1,g2,fun h=>by omega,fun h=>by omega⟩
 | succ m ih =>
  intro n d x most ht h0 h1 h2 h3
  obtain ⟨n,rfl⟩:∃ q,n=q+1:=⟨n - 1,by omega⟩
  obtain ⟨e,rfl,hl,_,hk⟩:=tree_kids ht
  unfold g_ref02_Count g_ref02_Count_body
  have:=does_loop (n:=n) (v:=((1:Int),(0:Int))) (B:=fun recl1 (v:Int × Int)=>g_ref02_Count_l1 x most (g_ref02_Count n) recl1 v.1 v.2) (Q:=fun (v:Int × Int) r=>v.1≤r∧r≤most+1∧(r≤most→r=v.1+((kidsL (x.Kids.drop v.2.toNat)).map (sz e)).sum)∧(most < r→most < v.1+((kidsL (x.Kids.drop v.2.toNat)).map (sz e)).sum)) (fun v=>(most+1 - v.1).toNat) (fun v=>1≤v.1∧v.1≤most+1∧∃ i:Nat,v.2=(i:Int)∧i≤x.Kids.length) ?_ ⟨by omega,by omega,0,rfl,by omega⟩ (by simp only; omega)
  ·obtain ⟨r,e1,g1,g2,g3,g4⟩:=this
   exact ⟨r,e1,g1,g2,fun h=>g3 h,fun h=>g4 h⟩
  rintro rec ⟨many,idx⟩ ⟨g1,g2,i,hi,hil⟩ hrec
  simp only at g1 g2 hi hrec ⊢
  subst hi
  simp only [Int.toNat_natCast]
  unfold g_ref02_Count_l1
  simp only [lenI,zLM,ltI,leI]
  have hS:=sum_nonneg (sz_pos e) (kidsL (x.Kids.drop i))
  by_cases c1:i < x.Kids.length
  rotate_left
  ·rw [dzF zo]
   refine does_some ⟨Int.le_refl _,g2,fun _=>?_,fun _=>by omega⟩
   rw [List.drop_eq_nil_of_le zo]
   simp [kidsL]
  rw [dzT zo]
  by_cases c2:many≤most
  rotate_left
  ·rw [dzF c2]
   exact does_some ⟨Int.le_refl _,g2,fun h=>absurd h c2,fun _=>by omega⟩
  rw [dzT c2]
  obtain ⟨y,hy,hty,hc⟩:=kidL_at hk c1
  simp only [zCT,obs]
  rw [hy,obs,wi_id (x:=most - many) zo zo]
  refine does_bind (ih n e y (most - many) hty zo zo zo zo) ?_
  rintro r ⟨r1,r2,r3,r4⟩
  rw [wi_id (x:=many+r) zo zo,wi_id (x:=(i:Int)+1) zo zo]
  refine does_mono (hrec (many+r,(i:Int)+1) ⟨by simp only; omega,by simp only; omega,i+1,by simp,c1⟩ (by simp only; omega)) ?_
  rintro q ⟨q1,q2,q3,q4⟩
  simp only at q1 q3 q4
  rw [hc]
  have hS2:=sum_nonneg (sz_pos e) (kidsL (x.Kids.drop (i+1)))
  simp only [show ((i:Int)+1).toNat=i+1 by omega,zMC,List.sum_cons] at *
  refine ⟨by omega,q2,fun h=>?_,fun h=>?_⟩
  ·have:=q3 h
   by_cases c:r≤most - many
   ·have:=r3 c; omega
   ·omega
  ·have:=q4 h
   by_cases c:r≤most - many
   ·have:=r3 c; omega
   ·have:=r4 zo; omega
theorem le_t {a b:Int} (h:a≤b):leI a b=true:=dzT h
theorem le_f {a b:Int} (h:¬ a≤b):leI a b=false:=dzF h
theorem le_c {a b c d:Int} (h:a≤b↔c≤d):leI a b=leI c d:=decide_eq_decide.2 h
theorem pt_part2 {n d:Nat} {x:GN} {left:Int} (ht:treeD d x) (hn:9223372036854776000≤n) (h0:0≤left) (h1:left≤1500):Does (g_p_validPart n x left) (fun r=>r.1=(npartB x&&leI (x.Kids.length:Int) left)∧(r.1=true→r.2=left - x.Kids.length)):=by
 by_cases c:(x.Kids.length:Int)≤left
 ·refine does_mono (p_part ht hn ⟨c,h1⟩) ?_
  rintro r ⟨q1,q2⟩
  rw [le_t c,Bool.and_true]
  exact ⟨q1,fun h=>q2 (q1 ▸ h)⟩
 obtain ⟨e,rfl,hl,_,hk⟩:=tree_kids ht
 have hw:wi (left - lenI (List.map idc x.Kids))=left - x.Kids.length:=by
  simp only [lenI,zLM]; exact wi_id zo zo
 rw [le_f c,Bool.and_false]
 have hf:∀ z:Int,Does (some (false,z)) (fun r:Bool × Int=>r.1=false∧(r.1=true→r.2=left - x.Kids.length)):=fun z=>does_some ⟨rfl,fun h=>by cases h⟩
 unfold g_p_validPart
 rw [pt_isAttr,p_isArt,hw,show ltI (left - (x.Kids.length:Int)) 0=true from dzT zo]
 simp only [obs,cond_some,eqI_d,zCT]
 by_cases k3:x.Kind=3
 ·rw [k3]
  cases decide (x.N=0) <;> cases attrB x.Name <;> exact hf _
 ·rw [dzF k3]
  cases decide (x.N=0) <;> cases decide (x.Kind=4) <;> cases artNB x.Name <;> exact hf _
theorem pw_cons (y:GN) (l:List GN):pwL (y :: l)=(y.Kids.length:Int)+pwL l:=rfl
theorem pt_item2 {n d:Nat} {x:GN} {left:Int} (ht:treeD d x) (hn:9223372036854776000≤n) (g0:0≤left) (g15:left≤1500) :
  Does (g_p_validItem n x left) (fun r=>r.1=(itemB x&&leI ((x.Kids.length:Int)+pwL (kidsL x.Kids)) left)∧(r.1=true→r.2=left - (x.Kids.length+pwL (kidsL x.Kids)))):=by
 obtain ⟨e,rfl,hl,hs,hk⟩:=tree_kids ht
 have hw:wi (left - lenI (List.map idc x.Kids))=left - x.Kids.length:=by
  simp only [lenI,zLM]; exact wi_id zo zo
 have hp0:=pw_nonneg (kidsL x.Kids)
 have hloop:0≤left - x.Kids.length→Does (loopN (fun recl8 (v:Bool × Int × Int)=>g_p_validItem_l8 n x recl8 v.1 v.2.1 v.2.2) n (false,0,left - x.Kids.length)) (fun r=>r.1=(parsK (decide (x.N=7)) false (kidsL x.Kids)&&leI (pwL (kidsL x.Kids)) (left - x.Kids.length))∧(r.1=true→r.2=left - x.Kids.length - pwL (kidsL x.Kids))):=by
  intro hl0
  refine does_loop (Q:=fun (v:Bool × Int × Int) (r:Bool × Int)=>r.1=(parsK (decide (x.N=7)) v.1 (kidsL (x.Kids.drop v.2.1.toNat))&&leI (pwL (kidsL (x.Kids.drop v.2.1.toNat))) v.2.2)∧(r.1=true→r.2=v.2.2 - pwL (kidsL (x.Kids.drop v.2.1.toNat)))) (fun v=>x.Kids.length - v.2.1.toNat)
   (fun (v:Bool × Int × Int)=>(∃ i:Nat,v.2.1=(i:Int)∧i≤x.Kids.length)∧0≤v.2.2∧v.2.2≤1500) ?_ ⟨⟨0,rfl,by omega⟩,hl0,by simp only; omega⟩ (by simp only; omega)
  rintro rec ⟨fl,idx,lf⟩ ⟨⟨i,hi,hil⟩,g1,g2⟩ hrec
  simp only at hi hrec g1 g2 ⊢
  subst hi
  simp only [Int.toNat_natCast]
  unfold g_p_validItem_l8
  simp only [lenI,zLM,ltI]
  by_cases c1:i < x.Kids.length
  rotate_left
  ·rw [dzF zo,zCF,kidL_end _ zo]
   unfold g_p_validItem_j6
   rw [eqI_d,show pwL []=0 from rfl,le_t g1,Bool.and_true]
   cases fl
   ·exact does_some ⟨rfl,fun _=>by simp⟩
   ·exact does_some ⟨rfl,fun _=>by simp⟩
  obtain ⟨y,hy,hty,hc⟩:=kidL_at hk c1
  have h0:=pw_nonneg (kidsL (List.drop (i+1) x.Kids))
  rw [hc,pw_cons,dzT zo,zCT,hy,obs]
  have hj10:∀ b:Bool,Does (g_p_validItem_j10 n (i:Int) lf rec y b) fun r=>r.1=((npartB y&&parsK (decide (x.N=7)) b (kidsL (List.drop (i+1) x.Kids)))&&leI ((y.Kids.length:Int)+pwL (kidsL (List.drop (i+1) x.Kids))) lf)∧(r.1=true→r.2=lf - ((y.Kids.length:Int)+pwL (kidsL (List.drop (i+1) x.Kids)))):=by
   intro b
   unfold g_p_validItem_j10
   rw [wi_id (x:=(i:Int)+1) zo zo]
   refine does_bind (pt_part2 hty hn g1 g2) ?_
   rintro ⟨r1,r2⟩ ⟨q1,q2⟩
   simp only at q1 q2 ⊢
   cases hb:npartB y
   ·rw [hb] at q1
    simp only [Bool.false_and] at q1
    subst q1
    exact does_some ⟨rfl,fun h=>by cases h⟩
   rw [hb,Bool.true_and] at q1
   by_cases c2:(y.Kids.length:Int)≤lf
   rotate_left
   ·rw [le_f c2] at q1
    subst q1
    rw [le_f (show ¬ ((y.Kids.length:Int)+pwL (kidsL (List.drop (i+1) x.Kids))≤lf) by omega),Bool.and_false]
    exact does_some ⟨rfl,fun h=>by cases h⟩
   rw [le_t c2] at q1
   have q2:=q2 q1
   subst q1
   simp only [Bool.not_true,zCF,Bool.true_and]
   refine does_mono (hrec (b,(i:Int)+1,r2) ⟨⟨i+1,by simp,c1⟩,by simp only; omega,by simp only; omega⟩ (by simp only; omega)) ?_
   rintro ⟨s1,s2⟩ ⟨t1,t2⟩
   simp only [show ((i:Int)+1).toNat=i+1 by omega] at t1 t2 ⊢
   refine ⟨?_,fun h=>by rw [t2 h]; omega⟩
   rw [t1]
   congr 1
   exact le_c zo
  rw [eqI_d]
  unfold parsK
  cases decide (y.Kind=4)
  ·cases fl
   ·exact hj10 false
   ·exact does_some ⟨rfl,fun h=>by cases h⟩
  ·exact hj10 true
 unfold g_p_validItem
 rw [b_goodName n x.Name zo,hw]
 simp only [obs,cond_some,eqI_d]
 have hb:itemB x=(decide (x.Kind=2)&&(decide (1≤x.N)&&(decide (x.N≤7)&&(nameB x.Name&&parsK (decide (x.N=7)) false (kidsL x.Kids))))):=by
  unfold itemB; rw [pars_item]; simp
 rw [hb]
 have hfalse:∀ (z:Int) (b:Bool),b=false→Does (some (false,z)) (fun r:Bool × Int=>r.1=b∧(r.1=true→r.2=left - (x.Kids.length+pwL (kidsL x.Kids)))):=by
  intro z b h
  subst h
  exact does_some ⟨rfl,fun h=>by cases h⟩
 by_cases c0:x.Kind=2
 rotate_left
 ·rw [dzF c0]; exact hfalse _ _ rfl
 rw [dzT c0]
 by_cases c1:x.N < 1
 ·rw [show ltI x.N 1=true from dzT c1,dzF (show ¬ 1≤x.N by omega)]; exact hfalse _ _ rfl
 rw [show ltI x.N 1=false from dzF c1,dzT (show 1≤x.N by omega)]
 by_cases c2:7 < x.N
 ·rw [show ltI 7 x.N=true from dzT c2,dzF (show ¬ x.N≤7 by omega)]; exact hfalse _ _ rfl
 rw [show ltI 7 x.N=false from dzF c2,dzT (show x.N≤7 by omega)]
 cases nameB x.Name
 ·exact hfalse _ _ rfl
 by_cases c3:(x.Kids.length:Int)≤left
 rotate_left
 ·rw [show ltI (left - (x.Kids.length:Int)) 0=true from dzT zo,le_f (show ¬ ((x.Kids.length:Int)+pwL (kidsL x.Kids)≤left) by omega)]
  exact hfalse _ _ zq
 rw [show ltI (left - (x.Kids.length:Int)) 0=false from dzF zo]
 refine does_mono (hloop zo) ?_
 rintro r ⟨q1,q2⟩
 refine ⟨?_,fun h=>by rw [q2 h]; omega⟩
 rw [q1]
 simp only [Bool.true_and]
 congr 1
 exact le_c zo
def okT (x:GN):Bool:=validB x&&leI (1+((x.Kids.length:Int)+swL (kidsL x.Kids))) 1500
theorem sw_cons (y:GN) (l:List GN):swL (y :: l)=((y.Kids.length:Int)+pwL (kidsL y.Kids))+swL l:=rfl
theorem pt_valid2 {n d:Nat} {x:GN} (ht:treeD d x) (hn:9223372036854776000≤n):g_p_Valid n x=some (okT x):=by
 obtain ⟨e,rfl,hl,_,hk⟩:=tree_kids ht
 have hw:wi (1499 - lenI (List.map idc x.Kids))=1499 - x.Kids.length:=by
  simp only [lenI,zLM]; exact wi_id zo zo
 have hsw:=sw_nonneg (kidsL x.Kids)
 have hloop:0≤1499 - (x.Kids.length:Int)→Does (loopN (fun recl5 (v:Int × Int)=>g_p_Valid_l5 n x recl5 v.1 v.2) n (0,1499 - x.Kids.length)) (fun r=>r=((kidsL x.Kids).all itemB&&leI (swL (kidsL x.Kids)) (1499 - (x.Kids.length:Int)))):=by
  intro h0
  refine does_loop (Q:=fun (v:Int × Int) (r:Bool)=>r=((kidsL (x.Kids.drop v.1.toNat)).all itemB&&leI (swL (kidsL (x.Kids.drop v.1.toNat))) v.2)) (fun v=>x.Kids.length - v.1.toNat) (fun v=>(∃ i:Nat,v.1=(i:Int)∧i≤x.Kids.length)∧0≤v.2∧v.2≤1500) ?_ ⟨⟨0,rfl,by omega⟩,h0,by simp only; omega⟩ (by simp only; omega)
  rintro rec ⟨idx,lf⟩ ⟨⟨i,hi,hil⟩,g1,g2⟩ hrec
  simp only at hi hrec g1 g2 ⊢
  subst hi
  simp only [Int.toNat_natCast]
  unfold g_p_Valid_l5
  simp only [lenI,zLM,ltI]
  by_cases c1:i < x.Kids.length
  rotate_left
  ·rw [dzF zo,zCF,kidL_end _ zo,show swL []=0 from rfl,le_t g1]
   exact does_some rfl
  obtain ⟨y,hy,hty,hc⟩:=kidL_at hk c1
  rw [hc,sw_cons]
  have h0:=sw_nonneg (kidsL (List.drop (i+1) x.Kids))
  have hpw:=pw_nonneg (kidsL y.Kids)
  rw [dzT zo,zCT,hy,obs,List.all_cons,wi_id (x:=(i:Int)+1) zo zo]
  refine does_bind (pt_item2 hty hn g1 g2) ?_
  rintro ⟨r1,r2⟩ ⟨q1,q2⟩
  simp only at q1 q2 ⊢
  cases hb:itemB y
  ·rw [hb,Bool.false_and] at q1
   subst q1
   exact does_some rfl
  rw [hb,Bool.true_and] at q1
  by_cases c2:(y.Kids.length:Int)+pwL (kidsL y.Kids)≤lf
  rotate_left
  ·rw [le_f c2] at q1
   subst q1
   rw [le_f (show ¬ (y.Kids.length:Int)+pwL (kidsL y.Kids)+swL (kidsL (List.drop (i+1) x.Kids))≤lf by omega),Bool.and_false]
   exact does_some rfl
  rw [le_t c2] at q1
  have q2:=q2 q1
  subst q1
  simp only [Bool.not_true,zCF,Bool.true_and]
  refine does_mono (hrec ((i:Int)+1,r2) ⟨⟨i+1,by simp,c1⟩,by simp only; omega,by simp only; omega⟩ (by simp only; omega)) ?_
  intro r hr
  simp only [show ((i:Int)+1).toNat=i+1 by omega] at hr
  rw [hr]
  congr 1
  exact le_c zo
 unfold g_p_Valid okT validB
 rw [hw,eqSn]
 simp only [cond_some,obs,eqI_d]
 by_cases c0:(x.Kids.length:Int)≤1499
 rotate_left
 ·rw [show ltI (1499 - (x.Kids.length:Int)) 0=true from dzT zo,le_f (show ¬ (1+((x.Kids.length:Int)+swL (kidsL x.Kids))≤1500) by omega),Bool.and_false]
  cases decide (x.Kind=1) <;> cases decide (x.Name=[]) <;> cases decide (x.N=0) <;> rfl
 obtain ⟨r,er,hr⟩:=hloop zo
 rw [show ltI (1499 - (x.Kids.length:Int)) 0=false from dzF zo]
 have er':loopN (fun recl5 (x_1:Int × Int)=>match x_1 with | (l5_1,l5_2)=>g_p_Valid_l5 n x recl5 l5_1 l5_2) n (0,1499 - (x.Kids.length:Int))=some r:=er
 rw [er',hr,show leI (swL (kidsL x.Kids)) (1499 - (x.Kids.length:Int))=leI (1+((x.Kids.length:Int)+swL (kidsL x.Kids))) 1500 from le_c zo]
 cases decide (x.Kind=1) <;> cases decide (x.Name=[]) <;> cases decide (x.N=0) <;> simp
def vT (v:GN):List UInt8:=32 :: (if v.Kind=6 then Lib.itoa v.N else v.Name)
def vsT (l:List (List PV)):List UInt8:=(kidsL l).flatMap vT
def aT (k:GN):List UInt8:=if k.Kind=3 then 32 :: (k.Name++vsT k.Kids) else []
def cT (k:GN):List UInt8:=if k.Kind=4 then 32 :: 32 :: (k.Name++(vsT k.Kids++[59,10])) else []
def kindW (k:Int):List UInt8:=(kindsTab[k.toNat]?).getD []
def iT (x:GN):List UInt8:=kindW x.N++(32 :: (x.Name++((kidsL x.Kids).flatMap aT++(if x.N=7 then [32,123,10]++((kidsL x.Kids).flatMap cT++[125,10]) else [59,10]))))
def sT (x:GN):List UInt8:=(kidsL x.Kids).flatMap iT
def shp:Nat→GN→Prop
 | 0,_=>False
 | d+1,x=>x.Kids.length≤10000∧∀ k ∈ x.Kids,∃ y,GN.of k=some y∧shp d y
theorem shp_s (d:Nat) (x:GN):shp (d+1) x=(x.Kids.length≤10000∧∀ k ∈ x.Kids,∃ y,GN.of k=some y∧shp d y):=rfl
theorem treeP_shp:∀ (d:Nat) (x:GN),treeP d x→shp d x
 | 0,_,h=>h.elim
 | d+1,x,h=>by
  obtain ⟨h1,_,h2⟩:=(treeP_s d x ▸ h)
  exact ⟨h1,fun k hk=>by obtain ⟨y,e,t⟩:=h2 k hk; exact ⟨y,e,treeP_shp d y t⟩⟩
def stN:Nat→GN→GN
 | 0,x=>x
 | k+1,x=>⟨x.Kind,x.Name,x.N,0,x.Kids.map (fun c=>match GN.of c with | some y=>GN.cs (stN k y) | none=>c)⟩
def stC (k:Nat) (c:List PV):List PV:=match GN.of c with | some y=>GN.cs (stN k y) | none=>c
theorem stN_s (k:Nat) (x:GN):stN (k+1) x=⟨x.Kind,x.Name,x.N,0,x.Kids.map (stC k)⟩:=rfl
theorem stC_cs (k:Nat) (x:GN):stC k (GN.cs x)=GN.cs (stN k x):=by unfold stC; rw [of_cs1]
theorem stC_of {k:Nat} {c:List PV} {y:GN} (h:GN.of c=some y):stC k c=GN.cs (stN k y):=by unfold stC; rw [h]
theorem shpK_at {d:Nat} {l:List (List PV)} (h:∀ k ∈ l,∃ y,GN.of k=some y∧shp d y) {i:Nat} (hi:i < l.length):∃ y,Option.bind (getI l (i:Int)) GN.of=some y∧shp d y∧GN.of (l[i]'hi)=some y:=by
 obtain ⟨y,e,t⟩:=h (l[i]'hi) (List.getElem_mem hi)
 refine ⟨y,?_,t,e⟩
 rw [getI_nat,List.getElem?_eq_getElem hi]
 exact e
theorem st_treeP:∀ (d:Nat) (x:GN),shp d x→treeP d (stN d x)
 | 0,_,h=>h.elim
 | d+1,x,h=>by
  obtain ⟨hl,hk⟩:=(shp_s d x ▸ h)
  rw [stN_s]
  refine ⟨by simpa using hl,by simp,?_⟩
  intro k hk'
  obtain ⟨c,hc,rfl⟩:=List.mem_map.1 hk'
  obtain ⟨y,e,t⟩:=hk c hc
  exact ⟨stN d y,by rw [stC_of e,of_cs1],st_treeP d y t⟩
theorem kidsL_st {k d:Nat}:∀ {l:List (List PV)},(∀ c ∈ l,∃ y,GN.of c=some y∧shp d y)→kidsL (l.map (stC k))=(kidsL l).map (stN k)
 | [],_=>rfl
 | c :: l,h=>by
  obtain ⟨y,e,_⟩:=h c zq
  have ih:=kidsL_st (k:=k) (l:=l) fun z hz=>h z (by simp [hz])
  unfold kidsL at ih ⊢
  rw [zMC,List.filterMap_cons_some (by rw [stC_of e,of_cs1]),List.filterMap_cons_some e,zMC,ih]
theorem shpL_mem {d:Nat} {l:List (List PV)} (h:∀ c ∈ l,∃ y,GN.of c=some y∧shp d y):∀ y ∈ kidsL l,shp d y:=by
 intro y hy
 obtain ⟨c,hc,e⟩:=List.mem_filterMap.1 hy
 obtain ⟨y',e',t⟩:=h c hc
 obtain rfl:y'=y:=Option.some.inj (e'.symm.trans e)
 exact t
theorem flat_st {k:Nat} {f:GN→List UInt8}:∀ {l:List GN},(∀ y ∈ l,f (stN k y)=f y)→(l.map (stN k)).flatMap f=l.flatMap f
 | [],_=>rfl
 | y :: l,h=>by
  rw [zMC,List.flatMap_cons,List.flatMap_cons,h y zq,flat_st fun z hz=>h z (by simp [hz])]
theorem all_st {k:Nat} {f:GN→Bool}:∀ {l:List GN},(∀ y ∈ l,f (stN k y)=f y)→(l.map (stN k)).all f=l.all f
 | [],_=>rfl
 | y :: l,h=>by
  rw [zMC,List.all_cons,List.all_cons,h y zq,all_st fun z hz=>h z (by simp [hz])]
theorem vT_st (d:Nat) (v:GN):vT (stN (d+1) v)=vT v:=rfl
theorem nval_st (d:Nat) (b:Bool) (v:GN):nvalB b (stN (d+1) v)=nvalB b v:=by
 unfold nvalB
 rw [stN_s]
 simp only [List.map_eq_nil_iff]
theorem vs_st {d:Nat} {l:List (List PV)} (h:∀ c ∈ l,∃ y,GN.of c=some y∧shp (d+1) y):vsT (l.map (stC (d+1)))=vsT l:=by
 unfold vsT
 rw [kidsL_st h]
 exact flat_st fun y _=>vT_st d y
theorem npart_st {d:Nat} {k:GN} (h:shp (d+2) k):npartB (stN (d+2) k)=npartB k∧aT (stN (d+2) k)=aT k∧cT (stN (d+2) k)=cT k:=by
 obtain ⟨_,hk⟩:=(shp_s (d+1) k ▸ h)
 refine ⟨?_,?_,?_⟩
 ·unfold npartB
  rw [stN_s]
  simp only
  rw [kidsL_st hk,all_st fun y _=>nval_st d _ y]
 ·unfold aT
  rw [stN_s]
  simp only
  rw [vs_st hk]
 ·unfold cT
  rw [stN_s]
  simp only
  rw [vs_st hk]
theorem itemK_st {n7:Bool} {d:Nat}:∀ {l:List GN} {p:Bool},(∀ y ∈ l,shp (d+2) y)→itemK n7 p (l.map (stN (d+2)))=itemK n7 p l
 | [],_,_=>rfl
 | y :: l,p,h=>by
  rw [zMC]
  unfold itemK
  rw [(npart_st (h y zq)).1,itemK_st fun z hz=>h z (by simp [hz])]
  rfl
theorem pw_st {d:Nat}:∀ {l:List GN},pwL (l.map (stN (d+1)))=pwL l
 | []=>rfl
 | y :: l=>by
  rw [zMC,pw_cons,pw_cons,pw_st,stN_s]
  simp
theorem item_st {d:Nat} {x:GN} (h:shp (d+3) x):itemB (stN (d+3) x)=itemB x∧iT (stN (d+3) x)=iT x∧((stN (d+3) x).Kids.length:Int)+pwL (kidsL (stN (d+3) x).Kids)=(x.Kids.length:Int)+pwL (kidsL x.Kids):=by
 obtain ⟨_,hk⟩:=(shp_s (d+2) x ▸ h)
 have hm:=shpL_mem hk
 refine ⟨?_,?_,?_⟩
 ·unfold itemB
  rw [stN_s]
  simp only
  rw [kidsL_st hk,itemK_st hm]
 ·unfold iT
  rw [stN_s]
  simp only
  rw [kidsL_st hk,flat_st (f:=aT) fun y hy=>(npart_st (hm y hy)).2.1,flat_st (f:=cT) fun y hy=>(npart_st (hm y hy)).2.2]
 ·rw [stN_s]
  simp only [zLM]
  rw [kidsL_st hk,pw_st]
theorem sw_st {d:Nat}:∀ {l:List GN},(∀ y ∈ l,shp (d+3) y)→swL (l.map (stN (d+3)))=swL l
 | [],_=>rfl
 | y :: l,h=>by
  rw [zMC,sw_cons,sw_cons,sw_st fun z hz=>h z (by simp [hz]),(item_st (h y zq)).2.2]
theorem src_st {d:Nat} {x:GN} (h:shp (d+4) x):okT (stN (d+4) x)=okT x∧sT (stN (d+4) x)=sT x:=by
 obtain ⟨_,hk⟩:=(shp_s (d+3) x ▸ h)
 have hm:=shpL_mem hk
 refine ⟨?_,?_⟩
 ·unfold okT validB
  rw [stN_s]
  simp only [zLM]
  rw [kidsL_st hk,all_st fun y hy=>(item_st (hm y hy)).1,sw_st hm]
 ·unfold sT
  rw [stN_s]
  simp only
  rw [kidsL_st hk,flat_st fun y hy=>(item_st (hm y hy)).2.1]
theorem st_treeD:∀ (k:Nat) {d:Nat} {x:GN},treeD d x→shp k x→treeD k (stN k x)
 | 0,_,_,_,h=>h.elim
 | k+1,d,x,ht,h=>by
  obtain ⟨hl,hk⟩:=(shp_s k x ▸ h)
  cases d with
  | zero=>exact ht.elim
  | succ e =>
  obtain ⟨h1,h2,_,h4,_,h6⟩:=ht
  rw [stN_s]
  refine ⟨h1,h2,by simp,h4,by simp only [zLM,maxLen]; omega,?_⟩
  intro c' hc'
  obtain ⟨c,hc,rfl⟩:=List.mem_map.1 hc'
  obtain ⟨y,e1,t⟩:=hk c hc
  obtain ⟨y',e2,t2⟩:=h6 c hc
  obtain rfl:y'=y:=Option.some.inj (e2.symm.trans e1)
  exact ⟨stN k y',by rw [stC_of e1,of_cs1],st_treeD k t2 t⟩
def shpL (d:Nat) (l:List (List PV)):Prop:=l.length≤10000∧∀ k ∈ l,∃ y,GN.of k=some y∧shp d y
theorem shpL_0 {l:List (List PV)} (h:shpL 0 l):l=[]:=by
 cases l with
 | nil=>rfl
 | cons c r=>obtain ⟨y,_,hy⟩:=h.2 c zq; exact hy.elim
theorem shp_wfB:∀ (k d:Nat) (x:GN),shp d x→d≤k+1→wfB k x=true
 | _,0,_,h,_=>h.elim
 | 0,d+1,x,h,hd=>by
  obtain rfl:d=0:=by omega
  have:=shpL_0 (l:=x.Kids) h
  unfold wfB
  rw [this]
  rfl
 | k+1,d+1,x,h,hd=>by
  unfold wfB
  rw [zAT]
  intro c hc
  obtain ⟨y,e,hy⟩:=h.2 c hc
  rw [e]
  exact shp_wfB k d y hy zo
theorem shp_wfK {d:Nat} {l:List (List PV)} (h:shpL d l) (hd:d≤900):wfK 900 l=true:=by
 unfold wfK
 rw [zAT]
 intro c hc
 obtain ⟨y,e,hy⟩:=h.2 c hc
 rw [e]
 exact shp_wfB 900 d y hy zo
theorem isSt_st:∀ (k d:Nat) (ks:List (List PV)),shpL d ks→d≤k→isSt k ks (ks.map fun c=>match d with | 0=>c | e+1=>stC (e+1) c)=true
 | 0,d,ks,h,hd=>by
  obtain rfl:d=0:=by omega
  rw [shpL_0 h]
  rfl
 | k+1,0,ks,h,hd=>by
  rw [shpL_0 h]
  rfl
 | k+1,e+1,ks,h,hd=>by
  unfold isSt
  simp only [zLM,decide_true,Bool.true_and,zAT]
  intro p hp
  obtain ⟨i,hi,rfl⟩:=List.getElem_of_mem hp
  simp only [List.length_zip,zLM] at hi
  have hi':i < ks.length:=by omega
  simp only [List.getElem_zip,List.getElem_map]
  obtain ⟨y,hy,ty⟩:=h.2 (ks[i]) (List.getElem_mem hi')
  rw [stC_of hy,of_cs1,hy]
  rw [stN_s]
  have:=isSt_st k e y.Kids ty zo
  cases e with
  | zero =>
   have h0:=shpL_0 (l:=y.Kids) ty
   cases k <;> simp [isSt,h0]
  | succ e=>simpa using this
theorem isSt_st1 {d:Nat} {ks:List (List PV)} (h:shpL d ks) (hd:d≤900):isSt 900 ks (ks.map (stC d))=true:=by
 cases d with
 | zero=>rw [shpL_0 h]; rfl
 | succ e=>exact isSt_st 900 (e+1) ks h hd
theorem strip1:∀ (d n:Nat) (x:GN),shp d x→d≤900→20000+d≤n→g_p_Strip_1 n x=some (stN d x)
 | 0,_,_,h,_,_=>h.elim
 | d+1,0,_,_,_,h=>by omega
 | d+1,n+1,x,h,hd,hn=>by
  have hk:shpL d x.Kids:=h
  show g_p_Strip_1_body n (g_p_Strip_1 n) x=_
  have ih:=fun y hy=>strip1 d n y hy zo zo
  generalize g_p_Strip_1 n=A at ih ⊢
  have hw:=shp_wfK hk zo
  have hs:=isSt_st1 hk zo
  have hl:=hk.1
  unfold g_p_Strip_1_body
  simp only [map_idc,lenI,eqI_d]
  cases h0:x.Kids with
  | nil =>
   rw [stN_s,h0]
   rfl
  | cons c r =>
   rw [← h0,dzF (by rw [h0]; simp only [zLC]; omega),zCF,zCF,hw,zCT,show getI x.Kids 0=some c from by rw [h0]; rfl,obs]
   unfold g_p_Strip_1_j3
   rw [Bool.not_false,zCT,map_idc,show makeB 0 (lenI x.Kids) 64=true from dzT (by simp only [lenI]; omega),zCT]
   have:=loop_gen (l:=x.Kids) (fun (acc:List (List PV)) (i:Int)=>(acc,i)) (B:=fun recl4 (v:List (List PV) × Int)=>g_p_Strip_1_l4 x A recl4 v.1 v.2) (F:=fun acc r=>stN (d+1) x) (fun i acc=>acc=(x.Kids.take i).map (stC d)) zo
    (by
     intro rec acc hi
     show g_p_Strip_1_l4 x A rec acc _=_
     rw [List.take_length] at hi
     unfold g_p_Strip_1_l4
     simp only [map_idc,lenI,ltI]
     rw [dzF zo,zCF,hw,zCT,hi,hs,zCT,stN_s])
    (by
     intro rec acc i c r hinv hd hi hlt hw hr
     show g_p_Strip_1_l4 x A rec acc (i:Int)=_
     obtain ⟨y,hy,ty,hof⟩:=shpK_at hk.2 hlt
     unfold g_p_Strip_1_l4
     simp only [map_idc,lenI,ltI]
     have hroom:roomB (List.length (acc++[GN.cs (stN d y)])) 64=true:=by
      rw [hinv]
      simp [roomB,List.length_take]; omega
     rw [dzT zo,zCT,hy,obs,ih y ty,obs,hroom,zCT,hw]
     refine hr _ ?_
     rw [hinv,List.take_succ_eq_append_getElem hlt,List.map_append,List.map_singleton,stC_of hof])
    (n:=n) 0 [] zq (Nat.zero_le _) zo
   exact this
def lvl (d:Nat) (L:List (List (List PV))):Prop:=∀ l ∈ L,shpL d l
theorem deep5 {d:Nat} {l:List (List PV)} {l3:Int} {rec3:List (List (List PV)) × Int→Option Bool} (hl:shpL d l) (hd:d≤900) {acc:List (List (List PV))} (h1:lvl (d - 1) acc) (h2:d≤1→acc=[]) (h3:acc.length+l.length≤1000000000000) {n:Nat} (hn:20000≤n)
  (h:∀ acc',lvl (d - 1) acc'→(d≤1→acc'=[])→acc'.length≤acc.length+l.length→rec3 (acc',wi (l3+1))=some false):loopN (fun recl5 (v:List (List (List PV)) × Int)=>g_p_tooDeep_l5 l3 rec3 l recl5 v.1 v.2) n (acc,0)=some false:=by
 have hll:=hl.1
 exact loop_gen (l:=l) (fun (acc:List (List (List PV))) (i:Int)=>(acc,i)) (B:=fun recl5 (v:List (List (List PV)) × Int)=>g_p_tooDeep_l5 l3 rec3 l recl5 v.1 v.2) (F:=fun _ _=>false) (fun i a=>lvl (d - 1) a∧(d≤1→a=[])∧a.length≤acc.length+i) zo
  (by
   intro rec a ⟨g1,g2,g3⟩
   show g_p_tooDeep_l5 l3 rec3 l rec a _=_
   unfold g_p_tooDeep_l5
   simp only [map_idc,lenI,ltI]
   rw [dzF zo,zCF,h a g1 g2 g3])
  (by
   intro rec a i c r ⟨g1,g2,g3⟩ hd' hi hlt hw hr
   show g_p_tooDeep_l5 l3 rec3 l rec a (i:Int)=_
   obtain ⟨y,hy,ty,hof⟩:=shpK_at hl.2 hlt
   obtain ⟨e,rfl⟩:∃ e,d=e+1:=by
    cases d with
    | zero=>exact ty.elim
    | succ e=>exact ⟨e,rfl⟩
   have hyk:shpL e y.Kids:=ty
   have hwk:=shp_wfK hyk zo
   have hno:rec (a,((i+1:Nat):Int))=some false:=hr a ⟨g1,g2,by omega⟩
   have hyes (he:e ≠ 0):rec (a++[y.Kids],((i+1:Nat):Int))=some false:=by
    refine hr _ ⟨?_,fun h=>by omega,by simp only [zLA,List.length_singleton]; omega⟩
    intro l' hl'
    rcases List.mem_append.1 hl' with h | h
    ·exact g1 l' h
    ·rw [List.mem_singleton.1 h]; exact hyk
   have hroom:roomB (List.length (a++[y.Kids])) 24=true:=by
    simp only [roomB,zLA,List.length_singleton]
    exact dzT zo
   unfold g_p_tooDeep_l5
   simp only [map_idc,lenI,ltI,eqI_d]
   rw [dzT zo,zCT,hy,obs,hw]
   cases h0:y.Kids with
   | nil=>exact hno
   | cons c0 r0 =>
    have he:e ≠ 0:=by
     rintro rfl
     rw [shpL_0 hyk] at h0
     cases h0
    have hyes:=hyes he
    rw [← h0,dzF (by rw [h0]; simp only [zLC]; omega),zCF,show getI y.Kids 0=some c0 from by rw [h0]; rfl,obs,hwk,zCT]
    unfold g_p_tooDeep_j9
    rw [hwk,hroom]
    simp only [zCT,zCF]
    rw [hw,hno,hyes,anyO_self]
    cases decide ((0:Int) < (y.Kids.length:Int)) <;> rfl)
  (n:=n) 0 acc ⟨h1,h2,by omega⟩ (Nat.zero_le _) zo
theorem deep3 {d:Nat} {L:List (List (List PV))} {depth:Int} {rec1:List (List (List PV)) × Int→Option Bool} (hL:lvl d L) (hd:d≤900) (hm:10000 * L.length≤1000000000000) {n:Nat} (hn:2000000000000≤n)
  (h:∀ acc',lvl (d - 1) acc'→(d≤1→acc'=[])→acc'.length≤10000 * L.length→g_p_tooDeep_j2 depth rec1 acc'=some false):loopN (fun recl3 (v:List (List (List PV)) × Int)=>g_p_tooDeep_l3 n L depth rec1 recl3 v.1 v.2) n ([],0)=some false:=by
 exact loop_gen (l:=L) (fun (acc:List (List (List PV))) (i:Int)=>(acc,i)) (B:=fun recl3 (v:List (List (List PV)) × Int)=>g_p_tooDeep_l3 n L depth rec1 recl3 v.1 v.2) (F:=fun _ _=>false) (fun i a=>lvl (d - 1) a∧(d≤1→a=[])∧a.length≤10000 * i) zo
  (by
   intro rec a ⟨g1,g2,g3⟩
   show g_p_tooDeep_l3 n L depth rec1 rec a _=_
   unfold g_p_tooDeep_l3
   simp only [lenI,ltI,zLM]
   rw [dzF zo,zCF,h a g1 g2 g3])
  (by
   intro rec a i c r ⟨g1,g2,g3⟩ hd' hi hlt hw hr
   show g_p_tooDeep_l3 n L depth rec1 rec a (i:Int)=_
   have hc:shpL d c:=hL c (by rw [← Option.some.inj ((List.getElem?_eq_getElem hlt).symm.trans hi)]; exact List.getElem_mem hlt)
   have hcl:=hc.1
   unfold g_p_tooDeep_l3
   simp only [lenI,ltI,zLM]
   rw [dzT zo,zCT,getI_nat,hi,obs]
   refine deep5 hc hd g1 g2 zo zo fun acc' q1 q2 q3=>?_
   rw [hw]
   exact hr acc' ⟨q1,q2,by omega⟩)
  (n:=n) 0 [] ⟨fun l hl=>by (cases hl),fun _=>rfl,by simp⟩ (Nat.zero_le _) zo
theorem deep1 (n:Nat) (hn:2000000000000≤n):∀ (d j depth:Nat) (L:List (List (List PV))),lvl d L→d≤900→depth+d≤900→10000 ^ d * L.length≤1000000000000→10000 * L.length≤1000000000000→d < j→loopN (fun recl1 (v:List (List (List PV)) × Int)=>g_p_tooDeep_l1 n recl1 v.1 v.2) j (L,(depth:Int))=some false
 | _,0,_,_,_,_,_,_,_,h=>absurd h (Nat.not_lt_zero _)
 | d,j+1,depth,L,hL,hd,hdd,hp,hm,hj=>by
  show g_p_tooDeep_l1 n (loopN (fun recl1 (v:List (List (List PV)) × Int)=>g_p_tooDeep_l1 n recl1 v.1 v.2) j) L (depth:Int)=_
  unfold g_p_tooDeep_l1
  rw [show leI (depth:Int) 1000=true from dzT zo,zCT]
  refine deep3 hL hd hm hn fun acc' q1 q2 q3=>?_
  unfold g_p_tooDeep_j2
  simp only [lenI,eqI_d,zLM]
  cases acc' with
  | nil=>rfl
  | cons l0 r0 =>
   rw [dzF (by simp only [zLC]; omega),zCF,wi_id zo zo]
   match d,hL,hd,hdd,hp,hj,q1,q2 with
   | 0,_,_,_,_,_,_,q2=>cases q2 zo
   | 1,_,_,_,_,_,_,q2=>cases q2 zo
   | d+2,hL,hd,hdd,hp,hj,q1,q2 =>
   refine deep1 n hn (d+1) j (depth+1) _ q1 zo zo ?_ ?_ zo
   ·refine Nat.le_trans (Nat.mul_le_mul_left _ q3) ?_
    rw [← Nat.mul_assoc,← Nat.pow_succ]
    exact hp
   ·refine Nat.le_trans (Nat.mul_le_mul_left _ q3) (Nat.le_trans ?_ hp)
    rw [← Nat.mul_assoc]
    refine Nat.mul_le_mul_right _ ?_
    rw [Nat.pow_succ,Nat.pow_succ,Nat.mul_assoc]
    exact Nat.le_mul_of_pos_left _ (Nat.pow_pos zo)
theorem strip_ok {n d:Nat} {x:GN} (h:shp d x) (hd:d≤4) (hn:2000000000000≤n):g_p_Strip n x=some (stN d x):=by
 obtain ⟨e,rfl⟩:∃ e,d=e+1:=by
  cases d with
  | zero=>exact h.elim
  | succ e=>exact ⟨e,rfl⟩
 have h1:g_p_tooDeep n x=some false:=by
  unfold g_p_tooDeep
  refine deep1 n hn e n 0 [x.Kids] ?_ zo zo ?_ zq zo
  ·intro l hl
   rw [List.mem_singleton.1 hl]
   exact h
  ·have:10000 ^ e≤10000 ^ 3:=Nat.pow_le_pow_right zo zo
   simp only [List.length_singleton]
   omega
 unfold g_p_Strip
 rw [h1,obs,zCF,strip1 _ n x h zo zo]
 rfl
theorem rstrip:∀ (d n:Nat) (x:GN),shp d x→20000+d≤n→g_ref02_Strip n x=some (stN d x)
 | 0,_,_,h,_=>h.elim
 | d+1,0,_,_,h=>by omega
 | d+1,n+1,x,h,hn=>by
  have hk:shpL d x.Kids:=h
  show g_ref02_Strip_body n (g_ref02_Strip n) x=_
  have ih:=fun y hy=>rstrip d n y hy zo
  generalize g_ref02_Strip n=A at ih ⊢
  have hl:=hk.1
  unfold g_ref02_Strip_body
  exact loop_gen (l:=x.Kids) (fun (acc:List (List PV)) (i:Int)=>(i,acc)) (B:=fun recl1 (v:Int × List (List PV))=>g_ref02_Strip_l1 x A recl1 v.1 v.2) (F:=fun acc r=>stN (d+1) x) (fun i acc=>acc=(x.Kids.take i).map (stC d)) zo
   (by
    intro rec acc hi
    show g_ref02_Strip_l1 x A rec _ acc=_
    rw [List.take_length] at hi
    unfold g_ref02_Strip_l1
    simp only [map_idc,lenI,ltI]
    rw [dzF zo,zCF,hi,stN_s])
   (by
    intro rec acc i c r hinv hd hi hlt hw hr
    show g_ref02_Strip_l1 x A rec (i:Int) acc=_
    obtain ⟨y,hy,ty,hof⟩:=shpK_at hk.2 hlt
    unfold g_ref02_Strip_l1
    simp only [map_idc,lenI,ltI]
    have hroom:roomB (List.length (acc++[GN.cs (stN d y)])) 64=true:=by
     rw [hinv]
     simp [roomB,List.length_take]; omega
    rw [dzT zo,zCT,hy,obs,ih y ty,obs,hroom,zCT,hw]
    refine hr _ ?_
    rw [hinv,List.take_succ_eq_append_getElem hlt,List.map_append,List.map_singleton,stC_of hof])
   (n:=n) 0 [] zq (Nat.zero_le _) zo
theorem st_shp:∀ (d:Nat) (x:GN),shp d x→shp d (stN d x)
 | 0,_,h=>h.elim
 | d+1,x,h=>by
  obtain ⟨hl,hk⟩:=(shp_s d x ▸ h)
  rw [stN_s]
  refine ⟨by simpa using hl,?_⟩
  intro k hk'
  obtain ⟨c,hc,rfl⟩:=List.mem_map.1 hk'
  obtain ⟨y,e,t⟩:=hk c hc
  exact ⟨stN d y,by rw [stC_of e,of_cs1],st_shp d y t⟩
theorem st_st:∀ (d:Nat) (x:GN),shp d x→stN d (stN d x)=stN d x
 | 0,_,h=>h.elim
 | d+1,x,h=>by
  obtain ⟨hl,hk⟩:=(shp_s d x ▸ h)
  rw [stN_s,stN_s]
  simp only [List.map_map,GN.mk.injEq,true_and]
  refine List.map_congr_left fun c hc=>?_
  obtain ⟨y,e,t⟩:=hk c hc
  rw [Function.comp_apply,stC_of e,stC_cs,st_st d y t]
theorem att_eq (s:List UInt8):attB s=attrB s:=Option.some.inj ((p_isAttr 0 s).symm.trans (pt_isAttr 0 s))
theorem ark_eq (s:List UInt8):arkB s=artNB s:=Option.some.inj ((p_isArticle 0 s).symm.trans (p_isArt 0 s))
theorem wrd_eq (s:List UInt8):wrdB s=wordB s:=Option.some.inj ((p_isWord 0 s).symm.trans (pt_isWord 0 s))
theorem kids_cons {c:List PV} {l:List (List PV)} {y:GN} (e:GN.of c=some y):kidsL (c :: l)=y :: kidsL l:=by
 unfold kidsL
 rw [List.filterMap_cons_some e]
theorem kidsL_app (a b:List (List PV)):kidsL (a++b)=kidsL a++kidsL b:=List.filterMap_append
def wfT (t:GTk):Prop:=t.Text.length≤10000∧(0≤t.N∧t.N≤1000000)∧(0≤t.At∧t.At≤100000)∧(t.Kind=1→t.N=0)∧(t.Kind=2→t.Text=[])∧(t.Kind=3→t.N=0)
theorem tk_wf {t x:List UInt8} {k v:Int} (hw:wholeT t=true) (h:tkOf t=.ok (k,x,v)):x.length≤t.length∧(0≤v∧v≤1000000)∧(k=1→v=0)∧(k=2→x=[])∧(k=3→v=0):=by
 have hv:=tok_text hw h
 cases t with
 | nil=>cases hw
 | cons c r =>
  unfold tkOf at h
  simp only at h
  split at h
  ·split at h
   ·cases h
   ·simp only [Except.ok.injEq,zPJ] at h
    obtain ⟨rfl,rfl,rfl⟩:=h
    exact ⟨zNR _,by omega,fun _=>rfl,fun h=>by omega,fun h=>by omega⟩
  ·split at h
   ·split at h
    ·cases h
    cases hv2:valL 0 (c :: r) with
    | none=>rw [hv2] at h; cases h
    | some u =>
     rw [hv2] at h
     simp only [Except.ok.injEq,zPJ] at h
     obtain ⟨rfl,rfl,rfl⟩:=h
     rcases hv with hv | hv
     ·exact ⟨by simp,hv.2.2,fun h=>by omega,fun _=>rfl,fun h=>by omega⟩
     ·exact absurd rfl hv.1
   ·split at h
    ·simp only [Except.ok.injEq,zPJ] at h
     obtain ⟨rfl,rfl,rfl⟩:=h
     exact ⟨zNR _,by omega,fun h=>by omega,fun h=>by omega,fun _=>rfl⟩
    ·cases h
theorem Lx_wf {p:Nat} {s:List UInt8} {l:List GTk} (h:Lx p s l):p+s.length≤9000→∀ t ∈ l,wfT t:=by
 induction h with
 | nil hg=>intro _ t ht; cases ht
 | @cons p g t r l k v x hg hw ht hst hl ih =>
  intro hp z hz
  simp only [zLA] at hp
  rcases List.mem_cons.1 hz with rfl | hz
  ·obtain ⟨h1,h2,h3,h4,h5⟩:=tk_wf hw ht
   exact ⟨by simp only; omega,h2,by simp only; omega,h3,h4,h5⟩
  ·exact ih zo z hz
theorem kin_word {w:List UInt8} (h:kinB w ≠ 0):kindW (kinB w)=w∧1≤kinB w∧kinB w≤7:=by
 unfold kinB g_p_kindOf at h ⊢
 simp only [eqS] at h ⊢
 by_cases c1:w=[102,101,101,100,101,114]
 ·subst c1; exact ⟨rfl,by decide,by decide⟩
 by_cases c2:w=[99,97,98,108,101]
 ·subst c2; exact ⟨rfl,by decide,by decide⟩
 by_cases c3:w=[111,119,110,101,114]
 ·subst c3; exact ⟨rfl,by decide,by decide⟩
 by_cases c4:w=[99,111,110,116,114,97,99,116]
 ·subst c4; exact ⟨rfl,by decide,by decide⟩
 by_cases c5:w=[99,104,97,114,103,101,114]
 ·subst c5; exact ⟨rfl,by decide,by decide⟩
 by_cases c6:w=[98,97,121]
 ·subst c6; exact ⟨rfl,by decide,by decide⟩
 by_cases c7:w=[116,97,114,105,102,102]
 ·subst c7; exact ⟨rfl,by decide,by decide⟩
 ·refine absurd ?_ h
  rw [beq_false_of_ne c1,beq_false_of_ne c2,beq_false_of_ne c3,beq_false_of_ne c4,beq_false_of_ne c5,beq_false_of_ne c6,beq_false_of_ne c7]
  rfl
theorem mk_D {d:Nat} {k n a:Int} {s:List UInt8} {l:List (List PV)} (hk:0≤k∧k≤10) (hn:0≤n∧n≤1000000) (ha:0≤a∧a≤100000) (hs:s.length≤10000) (hl:l.length≤10000) (h:kidsD d l):treeD (d+1) ⟨k,s,n,a,l⟩ :=
 ⟨⟨by simp only; omega,by simp only; omega⟩,⟨by simp only; omega,by simp only; omega⟩,⟨by simp only; omega,by simp only; omega⟩,by simp only [maxLen]; omega,by simp only [maxLen]; omega,h⟩
theorem kd_cons {d:Nat} {x:GN} {xs:List (List PV)} (h:treeD d x) (h':kidsD d xs):kidsD d (GN.cs x :: xs):=by
 intro k hk
 rcases List.mem_cons.1 hk with rfl | hk
 ·exact ⟨x,of_cs1 x,h⟩
 ·exact h' k hk
theorem kd_app {d:Nat} {xs ys:List (List PV)} (h:kidsD d xs) (h':kidsD d ys):kidsD d (xs++ys):=by
 intro k hk
 rcases List.mem_append.1 hk with hk | hk
 ·exact h k hk
 ·exact h' k hk
theorem vals_D {v:List GTk} (h:∀ t ∈ v,wfT t):kidsD 1 (v.map vcs):=by
 intro k hk
 obtain ⟨t,ht,rfl⟩:=List.mem_map.1 hk
 obtain ⟨h1,h2,h3,_⟩:=h t ht
 refine ⟨vnode t,of_cs1 _,?_⟩
 unfold vnode
 split
 ·exact mk_D zo h2 h3 zq zq fun k hk=>by cases hk
 ·exact mk_D zo zo h3 h1 zq fun k hk=>by cases hk
theorem ArtT_D {a:List GTk} {x:GN} (h:ArtT a x) (hl:a.length≤10000) (hb:∀ t ∈ a,wfT t):treeD 2 x:=by
 cases h with
 | @mk t e v h1 h2 h3 h4 =>
  have ht:=hb t zq
  exact mk_D zo zo ht.2.2.1 ht.1 (by simp at hl; simp; omega) (vals_D fun z hz=>hb z (by simp [hz]))
theorem Atts_D {a:List GTk} {xs:List (List PV)} (h:Atts a xs):a.length≤10000→(∀ t ∈ a,wfT t)→kidsD 2 xs∧xs.length≤a.length:=by
 induction h with
 | nil=>intro _ _; exact ⟨fun k hk=>(by cases hk),zNR _⟩
 | @cons t v r xs h1 h2 h3 h4 ih =>
  intro hl hb
  simp only [zLC,zLA] at hl
  have ht:=hb t zq
  obtain ⟨k1,k2⟩:=ih zo fun z hz=>hb z (by simp [hz])
  exact ⟨kd_cons (mk_D zo zo ht.2.2.1 ht.1 (by simp; omega) (vals_D fun z hz=>hb z (by simp [hz]))) k1,by simp only [zLC,zLA]; omega⟩
theorem Arts_D {a:List GTk} {xs:List (List PV)} (h:Arts a xs):a.length≤10000→(∀ t ∈ a,wfT t)→kidsD 2 xs∧xs.length≤a.length:=by
 induction h with
 | nil=>intro _ _; exact ⟨fun k hk=>(by cases hk),by simp⟩
 | @cons a r x xs h1 h2 ih =>
  intro hl hb
  simp only [zLA] at hl
  have ha:1≤a.length:=by cases h1; simp
  obtain ⟨k1,k2⟩:=ih zo fun z hz=>hb z (by simp [hz])
  exact ⟨kd_cons (ArtT_D h1 zo fun z hz=>hb z (by simp [hz])) k1,by simp only [zLC,zLA]; omega⟩
theorem ItemT_D {a:List GTk} {x:GN} (h:ItemT a x) (hl:a.length≤10000) (hb:∀ t ∈ a,wfT t):treeD 3 x:=by
 cases h with
 | @plain t m e a xs h1 h2 h3 h4 h5 h6 h7 =>
  simp only [zLC,zLA,List.length_nil] at hl
  obtain ⟨k1,k2⟩:=Atts_D h6 zo fun z hz=>hb z (by simp [hz])
  have:=kin_word h2
  exact mk_D zo zo (hb t zq).2.2.1 (hb m zq).1 zo k1
 | @tariff t m e a b xs ys h1 h2 h4 h5 h6 h7 h8 =>
  simp only [zLC,zLA] at hl
  obtain ⟨k1,k2⟩:=Atts_D h6 zo fun z hz=>hb z (by simp [hz])
  obtain ⟨k3,k4⟩:=Arts_D h8 zo fun z hz=>hb z (by simp [hz])
  exact mk_D zo zo (hb t zq).2.2.1 (hb m zq).1 (by simp only [zLA]; omega) (kd_app k1 k3)
theorem Items_D {a:List GTk} {xs:List (List PV)} (h:Items a xs):a.length≤10000→(∀ t ∈ a,wfT t)→kidsD 3 xs∧xs.length≤a.length:=by
 induction h with
 | nil=>intro _ _; exact ⟨fun k hk=>(by cases hk),by simp⟩
 | @cons a r x xs h1 h2 ih =>
  intro hl hb
  simp only [zLA] at hl
  have ha:1≤a.length:=by cases h1 <;> simp
  obtain ⟨k1,k2⟩:=ih zo fun z hz=>hb z (by simp [hz])
  exact ⟨kd_cons (ItemT_D h1 zo fun z hz=>hb z (by simp [hz])) k1,by simp only [zLC,zLA]; omega⟩
theorem src_D {s:List UInt8} {T:List GTk} {xs:List (List PV)} (hs:s.length≤8000) (hT:T.length≤10000) (h:Lx 0 s T) (hI:Items T xs):treeD 4 (srcN xs):=by
 obtain ⟨h1,h2⟩:=Items_D hI hT (Lx_wf h zo)
 exact mk_D zo zo zo zq zo h1
theorem kidsL_vals:∀ v:List GTk,kidsL (v.map vcs)=v.map vnode
 | []=>rfl
 | t :: v=>by rw [zMC,kids_cons (c:=vcs t) (of_cs1 (vnode t)),kidsL_vals v]; rfl
def rs (r:Int × GTr):Int × GAr × List (List PV) × Bool:=(r.1,r.2.article,r.2.values.map (stC 1),r.2.good)
theorem good_D {n:Nat} {s:List UInt8} {T:List GTk} {xs:List (List PV)} (hG:Good n s T xs):treeD 4 (srcN xs)∧shp 4 (srcN xs):=by
 have hLT:=(lexS_iff s T).1 hG.1
 exact ⟨src_D hLT.1 zo hLT.2.1 hG.2.1,treeP_shp 4 _ (src_tree hG.1 hG.2.1)⟩
def nmT (s:List UInt8):Prop:=(1≤s.length∧s.length≤12)∧(∀ x ∈ s.head?,97≤b2i x∧b2i x≤122)∧s.all chrB=true
theorem isN_chr {c:UInt8} (h:isN c=true):chrB c=true:=by
 unfold isN isL isD at h
 simp only [Bool.or_eq_true,zDT] at h
 refine dzT ?_
 rcases h with (h | h) | h
 ·exact .inl h
 ·exact .inr (.inl h)
 ·exact .inr (.inr h)
theorem tk_nm {t x:List UInt8} {k v:Int} (hw:wholeT t=true) (h:tkOf t=.ok (k,x,v)) (h1:k=1):nmT x:=by
 cases t with
 | nil=>cases hw
 | cons c r =>
  unfold tkOf at h
  unfold wholeT at hw
  simp only at h hw
  by_cases hL:isL c=true
  ·rw [if_pos hL] at h hw
   split at h
   ·cases h
   ·rename_i hlen
    simp only [Except.ok.injEq,zPJ] at h
    obtain ⟨_,rfl,_⟩:=h
    refine ⟨⟨by simp,by omega⟩,fun y hy=>?_,?_⟩
    ·simp only [List.head?_cons,Option.mem_def,sie] at hy
     subst hy
     exact of_decide_eq_true hL
    ·rw [zAT] at hw ⊢
     exact fun y hy=>isN_chr (hw y hy)
  ·rw [if_neg hL] at h
   split at h
   ·split at h
    ·cases h
    cases hv:valL 0 (c :: r) with
    | none=>rw [hv] at h; cases h
    | some u =>
     rw [hv] at h
     simp only [Except.ok.injEq,zPJ] at h
     omega
   ·split at h
    ·simp only [Except.ok.injEq,zPJ] at h
     omega
    ·cases h
def wfN (t:GTk):Prop:=wfT t∧(t.Kind=1→nmT t.Text)
theorem Lx_nm {p:Nat} {s:List UInt8} {l:List GTk} (h:Lx p s l):∀ t ∈ l,t.Kind=1→nmT t.Text:=by
 induction h with
 | nil hg=>intro t ht; cases ht
 | @cons p g t r l k v x hg hw ht hst hl ih =>
  intro z hz
  rcases List.mem_cons.1 hz with rfl | hz
  ·exact fun h=>tk_nm hw ht h
  ·exact ih z hz
theorem nm_B {s:List UInt8} (h:nmT s) (hk:keyB s=false):nameB s=true:=by
 obtain ⟨h1,h2,h3⟩:=h
 unfold nameB
 rw [hk,h3,dzT h1,dzT h2]
 rfl
theorem val_B {w:Bool} {t:GTk} (h:okV w t=true) (hb:wfN t):nvalB w (vnode t)=true:=by
 unfold okV at h
 unfold vnode nvalB
 by_cases c:t.Kind=2
 ·rw [if_pos c]
  simp [hb.1.2.1.1,hb.1.2.1.2]
 ·rw [if_neg c]
  rw [dzF c,Bool.false_or,bae] at h
  have h1:=of_decide_eq_true h.1
  cases hk:keyB t.Text
  ·have:=nm_B (hb.2 h1) hk
   simp [this]
  ·have h2:=h.2
   rw [hk] at h2
   simp only [Bool.not_true,Bool.false_or,bae] at h2
   rw [wrd_eq] at h2
   simp [h2.1,h2.2]
theorem vals_B {w:Bool} {v:List GTk} (h:∀ x ∈ v,okV w x=true) (hb:∀ t ∈ v,wfN t):(kidsL (v.map vcs)).all (nvalB w)=true:=by
 rw [kidsL_vals,List.all_map,zAT]
 exact fun t ht=>val_B (h t ht) (hb t ht)
theorem kids_c (x:GN) (xs:List (List PV)):kidsL (GN.cs x :: xs)=x :: kidsL xs:=kids_cons (of_cs1 x)
theorem Atts_B {n7:Bool} {a:List GTk} {xs:List (List PV)} (h:Atts a xs):(∀ t ∈ a,wfN t)→∀ r:List GN,itemK n7 false (kidsL xs++r)=itemK n7 false r:=by
 induction h with
 | nil=>intro _ r; rfl
 | @cons t v q xs h1 h2 h3 h4 ih =>
  intro hb r
  have hp:npartB (⟨3,t.Text,0,t.At,v.map vcs⟩:GN)=true:=by
   unfold npartB
   simp only
   rw [← att_eq,h2,show decide ((3:Int)=4)=false from rfl,vals_B h3 fun z hz=>hb z (by simp [hz])]
   rfl
  rw [kids_c,List.cons_append,itemK,hp,← ih (fun z hz=>hb z (by simp [hz])) r]
  simp
theorem ArtT_B {a:List GTk} {x:GN} (h:ArtT a x) (hb:∀ t ∈ a,wfN t):npartB x=true∧x.Kind=4:=by
 cases h with
 | @mk t e v h1 h2 h3 h4 =>
  refine ⟨?_,rfl⟩
  have hv:=vals_B h3 fun z hz=>hb z (by simp [hz])
  unfold npartB
  simp only
  rw [← ark_eq,h2]
  simp [hv]
theorem Arts_B {a:List GTk} {xs:List (List PV)} (h:Arts a xs):(∀ t ∈ a,wfN t)→∀ p,itemK true p (kidsL xs)=true:=by
 induction h with
 | nil=>intro _ p; rfl
 | @cons a r x xs h1 h2 ih =>
  intro hb p
  obtain ⟨k1,k2⟩:=ArtT_B h1 fun z hz=>hb z (by simp [hz])
  rw [kids_c,itemK,k1,k2,ih (fun z hz=>hb z (by simp [hz])) _]
  rfl
theorem ItemT_B {a:List GTk} {x:GN} (h:ItemT a x) (hb:∀ t ∈ a,wfN t):itemB x=true:=by
 cases h with
 | @plain t m e a xs h1 h2 h3 h4 h5 h6 h7 =>
  have hk:=kin_word h2
  have hn:=nm_B ((hb m zq).2 h4) h5
  have hA:=Atts_B (n7:=decide (kinB t.Text=7)) h6 (fun z hz=>hb z (by simp [hz])) []
  rw [List.append_nil] at hA
  unfold itemB
  simp only
  rw [hn,hA,dzT hk.2.1,dzT hk.2.2]
  rfl
 | @tariff t m e a b xs ys h1 h2 h4 h5 h6 h7 h8 =>
  have hn:=nm_B ((hb m zq).2 h4) h5
  have hA:=Atts_B (n7:=true) h6 (fun z hz=>hb z (by simp [hz])) (kidsL ys)
  have hR:=Arts_B h8 (fun z hz=>hb z (by simp [hz])) false
  unfold itemB
  simp only
  rw [hn,kidsL_app]
  simp [hA,hR]
theorem Items_B {a:List GTk} {xs:List (List PV)} (h:Items a xs):(∀ t ∈ a,wfN t)→(kidsL xs).all itemB=true:=by
 induction h with
 | nil=>intro _; rfl
 | @cons a r x xs h1 h2 ih =>
  intro hb
  rw [kids_c,List.all_cons,ItemT_B h1 (fun z hz=>hb z (by simp [hz])),ih (fun z hz=>hb z (by simp [hz]))]
  rfl
theorem sz_top:∀ (d:Nat) (x:GN),treeD (d+1) x→sz (d+1) x=sz d x
 | 0,x,h=>by
  obtain ⟨e,he,_,_,hk⟩:=tree_kids h
  have:kidsL x.Kids=[]:=by
   cases hl:kidsL x.Kids with
   | nil=>rfl
   | cons y r =>
    have:=kidsL_mem hk y (by rw [hl]; simp)
    rw [show e=0 by omega] at this
    exact this.elim
  unfold sz
  rw [this]
  rfl
 | d+1,x,h=>by
  obtain ⟨e,he,_,_,hk⟩:=tree_kids h
  have hm:=kidsL_mem hk
  rw [show e=d+1 by omega] at hm
  rw [sz,sz]
  have:(kidsL x.Kids).map (sz (d+1))=(kidsL x.Kids).map (sz d):=List.map_congr_left fun y hy=>sz_top d y (hm y hy)
  rw [this]
theorem good_ok {n:Nat} {s:List UInt8} {T:List GTk} {xs:List (List PV)} (hn:9223372036854776000≤n) (hG:Good n s T xs):okT (srcN xs)=true:=by
 have hLT:=(lexS_iff s T).1 hG.1
 have hD:=(good_D hG).1
 have hwf:=Lx_wf hLT.2.1 zo
 have hnm:=Lx_nm hLT.2.1
 have hall:=Items_B hG.2.1 fun t ht=>⟨hwf t ht,hnm t ht⟩
 obtain ⟨c,e,c15⟩:=hG.2.2
 obtain ⟨r,e',_,_,g3,_⟩:=count_gt 1500 n 4 (srcN xs) 1500 hD zo zo zo zo
 obtain rfl:c=r:=by rw [e] at e'; exact Option.some.inj e'
 have h4:=g3 c15
 rw [sz_top 3 _ hD,sz3 hD] at h4
 unfold okT validB
 rw [show (srcN xs).Kind=1 from rfl,show (srcN xs).Name=[] from rfl,show (srcN xs).N=0 from rfl,show (kidsL (srcN xs).Kids).all itemB=true from hall]
 simp only [leI]
 rw [dzT (show 1+(((srcN xs).Kids.length:Int)+swL (kidsL (srcN xs).Kids))≤1500 by omega)]
 rfl
def atW (s:List UInt8) (p:Int) (w:List UInt8):Prop:=∃ s1 s2,s=s1++(w++s2)∧p=(s1.length:Int)
def stW (s:List UInt8) (x:GN):Prop:=(x.Kind=2→1≤x.N∧x.N≤7∧atW s x.At (kindW x.N))∧(x.Kind=6→(0≤x.N∧x.N≤1000000)∧atW s x.At (Lib.itoa x.N))∧(x.Kind ≠ 2→x.Kind ≠ 6→atW s x.At x.Name)
def eLs (e:GN→Int):Int→List (List PV)→Int
 | l,[]=>l
 | l,c :: r=>eLs e (match GN.of c with | some y=>e y | none=>l) r
def eN:Nat→GN→Int
 | 0,x=>x.At
 | k+1,x=>eLs (eN k) x.At x.Kids
def okL (P:Int→GN→Prop) (e:GN→Int):Int→List (List PV)→Prop
 | _,[]=>True
 | l,c :: r=>∃ y,GN.of c=some y∧P l y∧okL P e (e y) r
def okW:Nat→List UInt8→Int→GN→Prop
 | 0,_,_,_=>False
 | k+1,s,last,x=>last < x.At∧stW s x∧x.Kids.length≤10000∧okL (okW k s) (eN k) x.At x.Kids
theorem okW_s (k:Nat) (s:List UInt8) (last:Int) (x:GN):okW (k+1) s last x=(last < x.At∧stW s x∧x.Kids.length≤10000∧okL (okW k s) (eN k) x.At x.Kids):=rfl
theorem eN_s (k:Nat) (x:GN):eN (k+1) x=eLs (eN k) x.At x.Kids:=rfl
theorem eqS_s (s:List UInt8):eqS s s=true:=by simp [eqS]
theorem walk_ok {s:List UInt8} (hs:s.length≤8010):∀ (k n:Nat) (last:Int) (x:GN),okW k s last x→20000+k≤n→g_law02_walk n s x last=some (eN k x,true)
 | 0,_,_,_,h,_=>h.elim
 | k+1,0,_,_,_,h=>by omega
 | k+1,n+1,last,x,h,hn=>by
  obtain ⟨h1,h2,h3,h4⟩:=okW_s k s last x ▸ h
  show g_law02_walk_body n (g_law02_walk n) s x last=_
  have ih:=fun l y hy=>walk_ok hs k n l y hy zo
  generalize g_law02_walk n=A at ih ⊢
  have key:∀ w,atW s x.At w→g_law02_walk_j1 n s x last A w=some (eN (k+1) x,true):=by
   rintro w ⟨s1,s2,rfl,hp⟩
   simp only [zLA] at hs
   have hw:wi (x.At+(w.length:Int))=((s1.length+w.length:Nat):Int):=by rw [wi_id zo zo,hp]; omega
   unfold g_law02_walk_j1
   simp only [lenI,leI,ltI]
   rw [hw,dzF (show ¬ x.At≤last by omega),zCF,dzF (by simp only [zLA]; omega),zCF,show sliceB x.At ((s1.length+w.length:Nat):Int) (s1++(w++s2)).length=true from dzT (by simp only [zLA]; omega),zCT]
   have e1:List.drop x.At.toNat (List.take ((s1.length+w.length:Nat):Int).toNat (s1++(w++s2)))=w:=by
    rw [hp,Int.toNat_natCast,Int.toNat_natCast,show s1++(w++s2)=(s1++w)++s2 from by simp,List.take_left' zq,List.drop_left' zq]
   rw [e1,eqS_s]
   simp only [Bool.not_true,obs,zCF]
   have:=loop_gen (l:=x.Kids) (fun (l:Int) (i:Int)=>(l,i)) (B:=fun recl5 (v:Int × Int)=>g_law02_walk_l5 (s1++(w++s2)) x A recl5 v.1 v.2) (F:=fun l r=>(eLs (eN k) l r,true)) (fun i l=>okL (okW k (s1++(w++s2))) (eN k) l (x.Kids.drop i)) zo
    (by
     intro rec l hi
     show g_law02_walk_l5 (s1++(w++s2)) x A rec l _=_
     unfold g_law02_walk_l5
     simp only [map_idc,lenI,ltI]
     rw [dzF zo,zCF]
     rfl)
    (by
     intro rec l i c r hinv hd hi hlt hw hr
     show g_law02_walk_l5 (s1++(w++s2)) x A rec l (i:Int)=_
     rw [hd] at hinv
     obtain ⟨y,e,hP,hR⟩:=hinv
     have hd2:x.Kids.drop (i+1)=r:=by
      rw [List.drop_eq_getElem_cons hlt] at hd
      exact (List.cons.inj hd).2
     unfold g_law02_walk_l5
     simp only [map_idc,lenI,ltI]
     rw [dzT zo,zCT,getI_nat,hi,obs,e,obs,ih l y hP,obs]
     simp only [Bool.not_true,zCF]
     rw [hw,hr _ (by rw [hd2]; exact hR)]
     show _=some (eLs (eN k) (match GN.of c with | some y=>eN k y | none=>l) r,true)
     rw [e])
    (n:=n) 0 x.At (by rw [List.drop_zero]; exact h4) (Nat.zero_le _) zo
   rw [List.drop_zero] at this
   exact this
  obtain ⟨g1,g2,g3⟩:=h2
  unfold g_law02_walk_body
  simp only [eqI_d]
  by_cases c2:x.Kind=2
  ·obtain ⟨q1,q2,q3⟩:=g1 c2
   rw [dzT c2,zCT,show ltI x.N 1=false from dzF zo,zCF]
   have hk:g_ref02_Kinds n=some [[102,101,101,100,101,114],[99,97,98,108,101],[111,119,110,101,114],[99,111,110,116,114,97,99,116],[99,104,97,114,103,101,114],[98,97,121],[116,97,114,105,102,102]]:=rfl
   rw [hk,obs,obs]
   have hx:∀ v:Int,1≤v→v≤7→(ltI (lenI (List.map cstr [[102,101,101,100,101,114],[99,97,98,108,101],[111,119,110,101,114],[99,111,110,116,114,97,99,116],[99,104,97,114,103,101,114],[98,97,121],[116,97,114,105,102,102]])) v=false)∧getI [[102,101,101,100,101,114],[99,97,98,108,101],[111,119,110,101,114],[99,111,110,116,114,97,99,116],[99,104,97,114,103,101,114],[98,97,121],[116,97,114,105,102,102]] (wi (v - 1))=some (kindW v):=by
    intro v h1 h7
    obtain rfl | rfl | rfl | rfl | rfl | rfl | rfl:v=1∨v=2∨v=3∨v=4∨v=5∨v=6∨v=7:=by omega
    all_goals exact ⟨by decide,by decide⟩
   obtain ⟨x1,x2⟩:=hx x.N q1 q2
   rw [x1,obs,zCF,x2,obs]
   exact key _ q3
  rw [dzF c2,zCF]
  by_cases c6:x.Kind=6
  ·obtain ⟨⟨q1,q2⟩,q3⟩:=g2 c6
   rw [dzT c6,zCT]
   have:g_strconv_Itoa n x.N=some (Lib.itoa x.N):=by
    unfold g_strconv_Itoa leI
    rw [dzT zo,dzT zo]
    rfl
   rw [this,obs]
   exact key _ q3
  ·rw [dzF c6,zCF]
   exact key _ (g3 c2 c6)
def tokW (s:List UInt8) (t:GTk):Prop:=(t.Kind=2→(0≤t.N∧t.N≤1000000)∧atW s t.At (Lib.itoa t.N))∧(t.Kind ≠ 2→atW s t.At t.Text)
theorem lex_tokW {s:List UInt8} {T:List GTk} (h:Lx 0 s T):∀ t ∈ T,tokW s t:=by
 intro t ht
 obtain ⟨i,hi,rfl⟩:=List.getElem_of_mem ht
 obtain ⟨s1,x,s2,e1,e2,e3,e4,_⟩:=Lx_take h i hi
 rw [Nat.zero_add] at e2
 rcases tok_text e3 e4 with ⟨k2,rfl,b⟩ | ⟨k2,rfl⟩
 ·exact ⟨fun _=>⟨b,s1,s2,e1,e2⟩,fun h=>absurd k2 h⟩
 ·exact ⟨fun h=>absurd h k2,fun _=>⟨s1,s2,e1,e2⟩⟩
theorem eLs_app (e:GN→Int):∀ (l:Int) (a b:List (List PV)),eLs e l (a++b)=eLs e (eLs e l a) b
 | _,[],_=>rfl
 | l,c :: a,b=>eLs_app e _ a b
theorem okL_app {P:Int→GN→Prop} {e:GN→Int}:∀ {l:Int} {a b:List (List PV)},okL P e l a→okL P e (eLs e l a) b→okL P e l (a++b)
 | _,[],_,_,h=>h
 | l,c :: a,b,⟨y,h1,h2,h3⟩,h=>by
  refine ⟨y,h1,h2,okL_app h3 ?_⟩
  have:eLs e l (c :: a)=eLs e (match GN.of c with | some y=>e y | none=>l) a:=rfl
  rw [this,h1] at h
  exact h
def lastA (l:Int) (a:List GTk) (u:Int):Prop:=u=l∨∃ t ∈ a,u=t.At
theorem vals_W {s:List UInt8} {w:Bool}:∀ {v:List GTk} {l:Int},(∀ x ∈ v,okV w x=true)→(∀ x ∈ v,tokW s x)→v.Pairwise (fun a b=>a.At < b.At)→(∀ x ∈ v,l < x.At)→okL (okW 1 s) (eN 1) l (v.map vcs)∧lastA l v (eLs (eN 1) l (v.map vcs))
 | [],l,_,_,_,_=>⟨trivial, .inl rfl⟩
 | t :: v,l,hv,hw,hp,hl=>by
  have e1:GN.of (vcs t)=some (vnode t):=of_cs1 _
  have e2:eN 1 (vnode t)=t.At:=by unfold vnode; split <;> rfl
  rw [List.pairwise_cons] at hp
  obtain ⟨g1,g2⟩:=vals_W (l:=t.At) (fun x hx=>hv x (by simp [hx])) (fun x hx=>hw x (by simp [hx])) hp.2 hp.1
  have hlt:=hl t zq
  obtain ⟨w1,w2⟩:=hw t zq
  refine ⟨⟨vnode t,e1,?_,by rw [e2]; exact g1⟩,?_⟩
  ·rw [okW_s]
   unfold vnode
   by_cases c:t.Kind=2
   ·rw [if_pos c]
    exact ⟨hlt,⟨fun h=>by (simp only at h; omega),fun _=>w1 c,fun _ h=>absurd rfl h⟩,Nat.zero_le _,trivial⟩
   ·rw [if_neg c]
    exact ⟨hlt,⟨fun h=>by (simp only at h; omega),fun h=>by (simp only at h; omega),fun _ _=>w2 c⟩,Nat.zero_le _,trivial⟩
  ·show lastA l (t :: v) (eLs (eN 1) (match GN.of (vcs t) with | some y=>eN 1 y | none=>l) (v.map vcs))
   rw [e1]
   simp only
   rw [e2]
   rcases g2 with h | ⟨u,hu,h⟩
   ·exact .inr ⟨t,by simp,h⟩
   ·exact .inr ⟨u,by simp [hu],h⟩
theorem part_W {s:List UInt8} {w:Bool} {t:GTk} {v:List GTk} {k l:Int} (hk:k=3∨k=4) (ht:t.Kind=1) (hv:∀ x ∈ v,okV w x=true) (hw:∀ x ∈ t :: v,tokW s x) (hp:(t :: v).Pairwise (fun a b=>a.At < b.At)) (hl:∀ x ∈ t :: v,l < x.At) (hlen:v.length≤10000) :
  okW 2 s l ⟨k,t.Text,0,t.At,v.map vcs⟩∧∃ u ∈ t :: v,eN 2 ⟨k,t.Text,0,t.At,v.map vcs⟩=u.At:=by
 rw [List.pairwise_cons] at hp
 obtain ⟨g1,g2⟩:=vals_W (s:=s) (w:=w) (l:=t.At) hv (fun x hx=>hw x (by simp [hx])) hp.2 hp.1
 refine ⟨?_,?_⟩
 ·rw [okW_s]
  exact ⟨hl t zq,⟨fun h=>by (simp only at h; omega),fun h=>by (simp only at h; omega),fun _ _=>(hw t zq).2 zo⟩,by simpa using hlen,g1⟩
 ·rw [eN_s]
  rcases g2 with h | ⟨u,hu,h⟩
  ·exact ⟨t,by simp,h⟩
  ·exact ⟨u,by simp [hu],h⟩
theorem last_lt {l u m:Int} {a:List GTk} (h:lastA l a u) (h1:l < m) (h2:∀ x ∈ a,x.At < m):u < m:=by
 rcases h with rfl | ⟨t,ht,rfl⟩
 ·exact h1
 ·exact h2 t ht
theorem last_mono {l u v:Int} {a b:List GTk} (h:lastA l a u) (h':lastA u b v):lastA l (a++b) v:=by
 rcases h' with rfl | ⟨t,ht,rfl⟩
 ·rcases h with rfl | ⟨t,ht,rfl⟩
  ·exact .inl rfl
  ·exact .inr ⟨t,by simp [ht],rfl⟩
 ·exact .inr ⟨t,by simp [ht],rfl⟩
theorem okL_cons {P:Int→GN→Prop} {e:GN→Int} {l:Int} {x:GN} {r:List (List PV)} (h:P l x) (h':okL P e (e x) r):okL P e l (GN.cs x :: r):=⟨x,of_cs1 x,h,h'⟩
theorem eLs_cons (e:GN→Int) (l:Int) (x:GN) (r:List (List PV)):eLs e l (GN.cs x :: r)=eLs e (e x) r:=by
 show eLs e (match GN.of (GN.cs x) with | some y=>e y | none=>l) r=_
 rw [of_cs1]
theorem Atts_W {s:List UInt8} {a:List GTk} {xs:List (List PV)} (h:Atts a xs):∀ {l:Int},(∀ x ∈ a,tokW s x)→a.Pairwise (fun a b=>a.At < b.At)→(∀ x ∈ a,l < x.At)→a.length≤10000→okL (okW 2 s) (eN 2) l xs∧lastA l a (eLs (eN 2) l xs):=by
 induction h with
 | nil=>intro l _ _ _ _; exact ⟨trivial, .inl rfl⟩
 | @cons t v r xs h1 h2 h3 h4 ih =>
  intro l hw hp hl hlen
  rw [← List.cons_append] at hw hp hl hlen ⊢
  rw [List.pairwise_append] at hp
  simp only [zLA,zLC] at hlen
  obtain ⟨p1,p2,p3⟩:=hp
  obtain ⟨g1,u,hu,g2⟩:=part_W (s:=s) (l:=l) (k:=3) (.inl rfl) h1 h3 (fun x hx=>hw x (List.mem_append_left _ hx)) p1 (fun x hx=>hl x (List.mem_append_left _ hx)) zo
  obtain ⟨q1,q2⟩:=ih (l:=u.At) (fun x hx=>hw x (List.mem_append_right _ hx)) p2 (fun x hx=>p3 u hu x hx) zo
  refine ⟨okL_cons g1 (by rw [g2]; exact q1),?_⟩
  rw [eLs_cons,g2]
  exact last_mono (.inr ⟨u,hu,rfl⟩) q2
theorem Arts_W {s:List UInt8} {a:List GTk} {xs:List (List PV)} (h:Arts a xs):∀ {l:Int},(∀ x ∈ a,tokW s x)→a.Pairwise (fun a b=>a.At < b.At)→(∀ x ∈ a,l < x.At)→a.length≤10000→okL (okW 2 s) (eN 2) l xs∧lastA l a (eLs (eN 2) l xs):=by
 induction h with
 | nil _=>intro l _ _ _ _; exact ⟨trivial, .inl rfl⟩
 | @cons b r x xs h1 h4 ih =>
  intro l hw hp hl hlen
  cases h1 with
  | @mk t e v k1 k2 k3 k4 =>
  rw [← List.cons_append] at hw hp hl hlen ⊢
  rw [List.pairwise_append] at hp
  simp only [zLA,zLC] at hlen
  obtain ⟨p1,p2,p3⟩:=hp
  have p4:=(List.pairwise_append.1 p1).1
  have m1:∀ x ∈ t :: v,x ∈ t :: v++[e]:=fun x hx=>List.mem_append_left _ hx
  obtain ⟨g1,u,hu,g2⟩:=part_W (s:=s) (l:=l) (k:=4) (.inr rfl) k1 k3 (fun x hx=>hw x (List.mem_append_left _ (m1 x hx))) p4 (fun x hx=>hl x (List.mem_append_left _ (m1 x hx))) zo
  obtain ⟨q1,q2⟩:=ih (l:=u.At) (fun x hx=>hw x (List.mem_append_right _ hx)) p2 (fun x hx=>p3 u (m1 u hu) x hx) zo
  refine ⟨okL_cons g1 (by rw [g2]; exact q1),?_⟩
  rw [eLs_cons,g2]
  exact last_mono (.inr ⟨u,m1 u hu,rfl⟩) q2
theorem ItemT_W {s:List UInt8} {a:List GTk} {x:GN} (h:ItemT a x) {l:Int} (hw:∀ t ∈ a,tokW s t) (hp:a.Pairwise (fun a b=>a.At < b.At)) (hl:∀ t ∈ a,l < t.At) (hlen:a.length≤10000) (hk:x.Kids.length≤10000):okW 3 s l x∧∃ u ∈ a,eN 3 x=u.At:=by
 have one:∀ (t m:GTk) (b:List GTk) (y:GN),a=t :: m :: b→y.At=t.At→kinB t.Text ≠ 0→t.Kind=1→y.Kind=2→y.N=kinB t.Text→y.Kids.length≤10000→(okL (okW 2 s) (eN 2) t.At y.Kids∧lastA t.At b (eLs (eN 2) t.At y.Kids))→okW 3 s l y∧∃ u ∈ a,eN 3 y=u.At:=by
  rintro t m b y rfl e1 e2 e3 e4 e5 e6 ⟨e7,e8⟩
  obtain ⟨k1,k2,k3⟩:=kin_word e2
  have hat:=(hw t zq).2 zo
  refine ⟨?_,?_⟩
  ·rw [okW_s,e1]
   exact ⟨hl t zq,⟨fun _=>by rw [e5]; exact ⟨k2,k3,by rw [k1,e1]; exact hat⟩,fun h=>by omega,fun h=>absurd e4 h⟩,e6,e7⟩
  ·rw [eN_s,e1]
   rcases e8 with h | ⟨u,hu,h⟩
   ·exact ⟨t,by simp,h⟩
   ·exact ⟨u,by simp [hu],h⟩
 cases h with
 | @plain t m e b xs h1 h2 h3 h4 h5 h6 h7 =>
  rw [List.pairwise_cons,List.pairwise_cons,List.pairwise_append] at hp
  obtain ⟨p1,p2,p3,p4,p5⟩:=hp
  simp only [zLA,zLC] at hlen
  obtain ⟨q1,q2⟩:=Atts_W h6 (s:=s) (l:=t.At) (fun x hx=>hw x (by simp [hx])) p3 (fun x hx=>p1 x (by simp [hx])) zo
  refine one t m (b++[e]) _ rfl rfl h2 h1 rfl rfl hk ⟨q1,?_⟩
  rcases q2 with h | ⟨u,hu,h⟩
  ·exact .inl h
  ·exact .inr ⟨u,by simp [hu],h⟩
 | @tariff t m e b c xs ys h1 h2 h4 h5 h6 h7 h8 =>
  rw [List.pairwise_cons,List.pairwise_cons,List.pairwise_append,List.pairwise_cons] at hp
  obtain ⟨p1,p2,p3,⟨p4,p5⟩,p6⟩:=hp
  simp only [zLA,zLC] at hlen
  obtain ⟨q1,q2⟩:=Atts_W h6 (s:=s) (l:=t.At) (fun x hx=>hw x (by simp [hx])) p3 (fun x hx=>p1 x (by simp [hx])) zo
  have hlt:∀ x ∈ c,eLs (eN 2) t.At xs < x.At:=fun x hx=>last_lt q2 (p1 x (by simp [hx])) fun y hy=>p6 y hy x (by simp [hx])
  obtain ⟨r1,r2⟩:=Arts_W h8 (s:=s) (l:=eLs (eN 2) t.At xs) (fun x hx=>hw x (by simp [hx])) p5 hlt zo
  refine one t m (b++e :: c) _ rfl rfl zo h1 rfl h2.symm hk ⟨okL_app q1 r1,?_⟩
  simp only
  rw [eLs_app]
  have:=last_mono q2 r2
  rcases this with h | ⟨u,hu,h⟩
  ·exact .inl h
  ·refine .inr ⟨u,?_,h⟩
   rcases List.mem_append.1 hu with h | h
   ·simp [h]
   ·simp [h]
theorem Items_W {s:List UInt8} {a:List GTk} {xs:List (List PV)} (h:Items a xs):∀ {l:Int},(∀ x ∈ a,tokW s x)→a.Pairwise (fun a b=>a.At < b.At)→(∀ x ∈ a,l < x.At)→a.length≤10000→atB a→okL (okW 3 s) (eN 3) l xs:=by
 induction h with
 | nil=>intro l _ _ _ _ _; exact trivial
 | @cons b r x xs h1 h2 ih =>
  intro l hw hp hl hlen hb
  rw [List.pairwise_append] at hp
  obtain ⟨p1,p2,p3⟩:=hp
  simp only [zLA] at hlen
  have hk:=(treeP_s 2 x ▸ (ItemT_good h1 zo (atB_app.1 hb).1)).1
  obtain ⟨g1,u,hu,g2⟩:=ItemT_W h1 (s:=s) (l:=l) (fun x hx=>hw x (List.mem_append_left _ hx)) p1 (fun x hx=>hl x (List.mem_append_left _ hx)) zo hk
  exact okL_cons g1 (by rw [g2]; exact ih (fun x hx=>hw x (List.mem_append_right _ hx)) p2 (fun x hx=>p3 u hu x hx) zo (atB_app.1 hb).2)
theorem trees (n:Nat) (hn:9223372036854776000≤n) (hh:g_law02_head n=some true) (s:List UInt8):g_law02_ParserTrees n s=some true:=by
 unfold g_law02_ParserTrees
 rw [hh,obs]
 simp only [lenI,ltI]
 by_cases hs:(8010:Int) < (s.length:Int)
 ·rw [dzT hs]; rfl
 rw [dzF hs,zCF]
 obtain ⟨r,hr,hrc⟩:=parse_cases n s zo
 have hd:=parse_few hr hrc
 rw [hr,obs]
 simp only [zLM]
 rcases hrc with ⟨e,T,xs,hG,e1⟩ | ⟨e,h0,_⟩
 rotate_left
 ·have hpos:0 < r.2.length:=List.length_pos_iff.2 h0
  have hsm:=same_refl 1 n nz ⟨by decide,by decide,fun k hk=>by (cases hk)⟩ zo
  have hsm':g_ref02_Same n nz (⟨0,[],0,0,[]⟩:GN)=some true:=hsm
  rw [dzT zo,zCT,zCT,e,hsm',obs,zCT,show leI (r.2.length:Int) 20=true from dzT zo]
  rfl
 rw [dzF (by rw [e]; decide),zCF]
 have hA:=lexS_at hG.1
 have hLT:=(lexS_iff s T).1 hG.1
 have hD:=good_D hG
 have hok:=good_ok hn hG
 have ht:=src_tree hG.1 hG.2.1
 have hxl:xs.length≤10000:=(treeP_s 3 _ ▸ ht).1
 have hst:=st_treeP 4 _ hD.2
 have hw:=Items_W hG.2.1 (s:=s) (l:=-1) (lex_tokW hLT.2.1) hA.2.1 (fun t ht=>by have:=hA.1 t ht; omega) zo hA.2.2.1
 have j7:g_law02_ParserTrees_j7 n true r=some true:=by
  unfold g_law02_ParserTrees_j7
  rw [e1,strip_ok hD.2 zo zo,obs,zCT,show eqI (srcN xs).Kind 1=true from rfl,zCT,show eqI (srcN xs).At 0=true from rfl,zCT,pt_valid2 hD.1 hn,hok,obs,zCT,pt_valid2 (st_treeD 4 hD.1 hD.2) hn,(src_st (d:=0) hD.2).1,hok,obs,zCT,rstrip 4 n _ hD.2 zo,obs,same_refl 4 n _ hst zo,obs,zCT,strip_ok (st_shp 4 _ hD.2) zo zo,obs,st_st 4 _ hD.2,same_refl 4 n _ hst zo]
  rfl
 have hkx:r.1.Kids=xs:=by rw [e1]; rfl
 refine loop_gen (l:=xs) (fun (l:Int) (i:Int)=>(l,i)) (B:=fun recl22 (v:Int × Int)=>g_law02_ParserTrees_l22 n s true r recl22 v.1 v.2) (F:=fun l r=>true) (fun i l=>okL (okW 3 s) (eN 3) l (xs.drop i)) zo ?_ ?_ (n:=n) 0 (-1) (by rw [List.drop_zero]; exact hw) (Nat.zero_le _) zo
 ·intro rec l hi
  show g_law02_ParserTrees_l22 n s true r rec l _=_
  unfold g_law02_ParserTrees_l22
  simp only [map_idc,lenI,ltI,hkx]
  rw [dzF zo,zCF,j7]
 ·intro rec l i c q hinv hd hi hlt hw hr
  show g_law02_ParserTrees_l22 n s true r rec l (i:Int)=_
  rw [hd] at hinv
  obtain ⟨y,e,hP,hR⟩:=hinv
  have hd2:xs.drop (i+1)=q:=by
   rw [List.drop_eq_getElem_cons hlt] at hd
   exact (List.cons.inj hd).2
  unfold g_law02_ParserTrees_l22
  simp only [map_idc,lenI,ltI,hkx]
  rw [dzT zo,zCT,getI_nat,hi,obs,e,obs,walk_ok zo 3 n l y hP zo,obs]
  simp only [Bool.not_true,zCF]
  rw [hw,hr _ (by rw [hd2]; exact hR)]
theorem fuel_02t:9223372036854776000≤36893488147419103232:=by decide
theorem trees_plain (s:List UInt8):∃ n,g_law02_ParserTrees n s=some true:=⟨_,trees _ fuel_02t head_02 s⟩
end Go.Proofs
namespace Go.Proofs.YtniaojaeacgpoaaDoor
open Go Go.Abs Go.Proofs
theorem parserTrees_card_holds:Rows.ParserTreesCardSaid :=
 parserTrees_card (fun s _=>trees_plain s)
end Go.Proofs.YtniaojaeacgpoaaDoor
