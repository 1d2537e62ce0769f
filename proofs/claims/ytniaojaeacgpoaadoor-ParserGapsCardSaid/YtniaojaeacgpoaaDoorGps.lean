/-
  A part of the proof of a statement of the seat YtniaojaeacgpoaaDoor.
-/
import Derived.Test.YtniaojaeacgpoaaDoorGps04
set_option linter.unusedVariables false
namespace Go.Proofs
open Go Go.Abs
set_option maxRecDepth 100000
theorem rl_loop (n:Nat) (s:List UInt8) (hs:s.length≤8100) (hn:10000≤n):∀ (m j i:Nat) (acc:List GTk),s.length - i≤m→m < j→i≤s.length→acc.length≤2000 →
  loopN (fun recl2 (v:List GTk × Int)=>g_ref01_Lex_l2 n s recl2 v.1 v.2) j (acc,((i+gapN false (s.drop i):Nat):Int))=some (resL acc (lexF (s.length+1) i (s.drop i) acc.length)):=by
 intro m
 induction m with
 | zero =>
  intro j i acc h1 h2 h3 h4
  obtain ⟨j,rfl⟩:∃ j',j=j'+1:=⟨j - 1,by omega⟩
  rw [List.drop_eq_nil_of_le zo]
  unfold loopN
  show g_ref01_Lex_l2 n s _ acc ((i+gapN false []:Nat):Int)=_
  unfold g_ref01_Lex_l2
  have hlt:ltI ((i+gapN false []:Nat):Int) (lenI s)=false:=by
   simp only [ltI,lenI,gapN]
   exact dzF zo
  rw [hlt,zCF]
  simp [lexF,gapN,resL]
 | succ m ih =>
  intro j i acc h1 h2 h3 h4
  obtain ⟨j,rfl⟩:∃ j',j=j'+1:=⟨j - 1,by omega⟩
  have ih':=fun i acc a b c=>ih j i acc a zo b c
  have hgl:=gap_le (s.drop i) false
  rw [zLD] at hgl
  unfold loopN
  generalize loopN (fun recl2 (v:List GTk × Int)=>g_ref01_Lex_l2 n s recl2 v.1 v.2) j=L at ih' ⊢
  show g_ref01_Lex_l2 n s L acc ((i+gapN false (s.drop i):Nat):Int)=_
  unfold g_ref01_Lex_l2
  simp only [ltI,lenI]
  cases hd:(s.drop i).drop (gapN false (s.drop i)) with
  | nil =>
   have:s.length≤i+gapN false (s.drop i):=by
    have:=congrArg List.length hd
    simp only [zLD,List.length_nil] at this
    omega
   rw [dzF zo,zCF,lex_end _ _ _ _ hd]
   simp [resL]
  | cons c r =>
   have hlt:i+gapN false (s.drop i) < s.length:=by
    have:=congrArg List.length hd
    simp only [zLD,zLC] at this
    omega
   rw [lex_step _ _ _ _ c r hd]
   have hd':s.drop (i+gapN false (s.drop i))=c :: r:=by rw [← List.drop_drop]; exact hd
   generalize hqi:i+gapN false (s.drop i)=q at hd' hlt ⊢
   rw [dzT zo,zCT,eqI_d,zLM]
   by_cases k3:acc.length=2000
   ·rw [dzT zo,zCT,if_pos k3]
    rfl
   rw [dzF zo,zCF,if_neg k3,rl_End n s q c r hs hn hd',obs,eqI_d]
   have hlen:(c :: r).length=s.length - q:=by rw [← hd']; simp
   have hle:=tkT_le (c :: r)
   by_cases h0:tkT (c :: r)=[]
   ·rw [h0,dzT zq,zCT,tkOf_nil]
    rfl
   have hpos:=List.length_pos_iff.2 h0
   rw [dzF zo,zCF]
   have hsl:sliceB (q:Int) ((q+(tkT (c :: r)).length:Nat):Int) s.length=true:=by simp only [sliceB]; rw [dzT]; omega
   have hsub:List.drop (Int.toNat (q:Int)) (List.take (Int.toNat ((q+(tkT (c :: r)).length:Nat):Int)) s)=tkT (c :: r):=by
    rw [Int.toNat_natCast,Int.toNat_natCast,List.drop_take,hd',show q+(tkT (c :: r)).length - q=(tkT (c :: r)).length from by omega]
    have hpre:tkT (c :: r) <+: c :: r:=by
     show (if isL c=true then (c :: r).takeWhile isN else if isD c=true then (c :: r).takeWhile isD else if isP c=true then [c] else []) <+: c :: r
     split
     ·exact List.takeWhile_prefix _
     ·split
      ·exact List.takeWhile_prefix _
      ·split
       ·exact ⟨r,rfl⟩
       ·exact List.nil_prefix
    exact (List.prefix_iff_eq_take.1 hpre).symm
   rw [hsl,zCT,hsub]
   obtain ⟨x,e1,e2⟩:=rl_Token n c r zo hn h0
   rw [e1,obs,eqI_d]
   cases ht:tkOf (tkT (c :: r)) with
   | error e =>
    rw [ht] at e2
    simp only at e2
    rw [dzF (show ¬ x.2=0 from by rw [e2.1]; exact e2.2),Bool.not_false,zCT,e2.1]
    rfl
   | ok y =>
    obtain ⟨kk,t,v⟩:=y
    rw [ht] at e2
    simp only at e2
    subst e2
    rw [dzT rfl,Bool.not_true,zCF]
    have hroom:roomB (List.length (acc++[(⟨kk,t,v,q⟩:GTk)])) 40=true:=by simp [roomB]; omega
    simp only [hroom,zCT]
    rw [rl_Gap n s _ hs hn zo,obs,ih' _ _ zo zo (by simp; omega)]
    have hd2:s.drop (q+(tkT (c :: r)).length)=(c :: r).drop (tkT (c :: r)).length:=by rw [← List.drop_drop,hd']
    rw [hd2,lex_fuel (s.length+1) s.length _ _ _ (by rw [zLD]; omega) (by rw [zLD]; omega)]
    simp only [zLA,zLC,List.length_nil]
    cases lexF s.length (q+(tkT (c :: r)).length) ((c :: r).drop (tkT (c :: r)).length) (acc.length+(0+1)) with
    | error e=>rfl
    | ok l=>simp [resL]
theorem rl_Lex (n:Nat) (s:List UInt8) (hn:10000≤n):g_ref01_Lex n s=some (resL [] (lexS s)):=by
 unfold g_ref01_Lex lexS
 simp only [ltI,lenI]
 by_cases h:8000 < s.length
 ·rw [dzT zo,zCT,if_pos h]; rfl
 ·rw [dzF zo,zCF,if_neg h]
  have hg:=rl_Gap n s 0 zo hn zo
  rw [show ((0:Nat):Int)=0 from rfl] at hg
  rw [hg,obs]
  exact rl_loop n s zo hn s.length n 0 [] zo zo zo zq
def gapE:Bool→List UInt8→Option Bool
 | b,[]=>some b
 | true,c :: r=>if b2i c=10 then gapE false r else gapE true r
 | false,c :: r=>if b2i c=35 then gapE true r else if isG c then gapE false r else none
def stopT (t r:List UInt8):Bool:=match t,r with
 | c :: _,d :: _=>if isL c then !isN d else if isD c then !isD d else true
 | _,_=>true
def wholeT (t:List UInt8):Bool:=match t with
 | []=>false
 | c :: r=>if isL c then (c :: r).all isN else if isD c then (c :: r).all isD else isP c&&r.isEmpty
inductive Lx:Nat→List UInt8→List GTk→Prop
 | nil {p:Nat} {g:List UInt8} {b:Bool}:gapE false g=some b→Lx p g []
 | cons {p:Nat} {g t r:List UInt8} {l:List GTk} {k v:Int} {x:List UInt8}:gapE false g=some false→wholeT t=true→tkOf t=.ok (k,x,v)→stopT t r=true→Lx (p+g.length+t.length) r l →
   Lx p (g++(t++r)) (⟨k,x,v,(p+g.length:Nat)⟩ :: l)
theorem gapE_N:∀ (g:List UInt8) (b b':Bool),gapE b g=some b'→gapN b g=g.length
 | [],b,b',h=>by cases b <;> simp [gapN]
 | c :: r,true,b',h=>by
  unfold gapE at h
  unfold gapN
  split at h
  ·rename_i hc; rw [if_pos hc,gapE_N r false b' h]; simp; omega
  ·rename_i hc; rw [if_neg hc,gapE_N r true b' h]; simp; omega
 | c :: r,false,b',h=>by
  unfold gapE at h
  unfold gapN
  split at h
  ·rename_i hc; rw [if_pos hc,gapE_N r true b' h]; simp; omega
  ·rename_i hc
   split at h
   ·rename_i hg; rw [if_neg hc,if_pos hg,gapE_N r false b' h]; simp; omega
   ·cases h
theorem gapE_t (c:UInt8) (r:List UInt8):gapE true (c :: r)=if b2i c=10 then gapE false r else gapE true r:=rfl
theorem gapE_f (c:UInt8) (r:List UInt8):gapE false (c :: r)=if b2i c=35 then gapE true r else if isG c then gapE false r else none:=rfl
theorem gapE_app:∀ (g r:List UInt8) (b b':Bool),gapE b g=some b'→gapE b (g++r)=gapE b' r
 | [],r,b,b',h=>by simp [gapE] at h; subst h; rfl
 | c :: g,r,true,b',h=>by
  rw [List.cons_append,gapE_t]
  rw [gapE_t] at h
  split at h
  ·rename_i hc; rw [if_pos hc]; exact gapE_app g r false b' h
  ·rename_i hc; rw [if_neg hc]; exact gapE_app g r true b' h
 | c :: g,r,false,b',h=>by
  rw [List.cons_append,gapE_f]
  rw [gapE_f] at h
  split at h
  ·rename_i hc; rw [if_pos hc]; exact gapE_app g r true b' h
  ·rename_i hc
   rw [if_neg hc]
   split at h
   ·rename_i hg; rw [if_pos hg]; exact gapE_app g r false b' h
   ·cases h
theorem gapN_app:∀ (g r:List UInt8) (b b':Bool),gapE b g=some b'→gapN b (g++r)=g.length+gapN b' r
 | [],r,b,b',h=>by simp [gapE] at h; subst h; simp
 | c :: g,r,true,b',h=>by
  simp only [List.cons_append,zLC]
  unfold gapE at h
  conv=>lhs; unfold gapN
  split at h
  ·rename_i hc; rw [if_pos hc,gapN_app g r false b' h]; omega
  ·rename_i hc; rw [if_neg hc,gapN_app g r true b' h]; omega
 | c :: g,r,false,b',h=>by
  simp only [List.cons_append,zLC]
  unfold gapE at h
  conv=>lhs; unfold gapN
  split at h
  ·rename_i hc; rw [if_pos hc,gapN_app g r true b' h]; omega
  ·rename_i hc
   rw [if_neg hc]
   split at h
   ·rename_i hg; rw [if_pos hg,gapN_app g r false b' h]; omega
   ·cases h
theorem gapN_split:∀ (s:List UInt8) (b:Bool),∃ b',gapE b (s.take (gapN b s))=some b'∧(s.drop (gapN b s) ≠ []→b'=false)
 | [],b=>⟨b,by cases b <;> simp [gapN,gapE],fun h=>absurd zq h⟩
 | c :: r,true=>by
  unfold gapN
  by_cases hc:b2i c=10
  ·obtain ⟨b',h1,h2⟩:=gapN_split r false
   rw [if_pos hc]
   refine ⟨b',?_,?_⟩
   ·rw [Nat.add_comm,List.take_succ_cons]
    unfold gapE
    rw [if_pos hc]; exact h1
   ·rw [Nat.add_comm,List.drop_succ_cons]; exact h2
  ·obtain ⟨b',h1,h2⟩:=gapN_split r true
   rw [if_neg hc]
   refine ⟨b',?_,?_⟩
   ·rw [Nat.add_comm,List.take_succ_cons]
    unfold gapE
    rw [if_neg hc]; exact h1
   ·rw [Nat.add_comm,List.drop_succ_cons]; exact h2
 | c :: r,false=>by
  unfold gapN
  by_cases hc:b2i c=35
  ·obtain ⟨b',h1,h2⟩:=gapN_split r true
   rw [if_pos hc]
   refine ⟨b',?_,?_⟩
   ·rw [Nat.add_comm,List.take_succ_cons]
    unfold gapE
    rw [if_pos hc]; exact h1
   ·rw [Nat.add_comm,List.drop_succ_cons]; exact h2
  ·rw [if_neg hc]
   by_cases hg:isG c=true
   ·obtain ⟨b',h1,h2⟩:=gapN_split r false
    rw [if_pos hg]
    refine ⟨b',?_,?_⟩
    ·rw [Nat.add_comm,List.take_succ_cons]
     unfold gapE
     rw [if_neg hc,if_pos hg]; exact h1
    ·rw [Nat.add_comm,List.drop_succ_cons]; exact h2
   ·rw [if_neg hg]
    exact ⟨false,rfl,fun _=>rfl⟩
theorem isL_ne {c:UInt8} (h:isL c=true):b2i c ≠ 35∧isG c=false∧isD c=false∧isP c=false:=by
 have h:=of_decide_eq_true (show decide (97≤b2i c∧b2i c≤122)=true from h)
 exact ⟨by omega,dzF zo,dzF zo,dzF zo⟩
theorem isD_ne {c:UInt8} (h:isD c=true):b2i c ≠ 35∧isG c=false∧isL c=false∧isP c=false:=by
 have h:=of_decide_eq_true (show decide (48≤b2i c∧b2i c≤57)=true from h)
 exact ⟨by omega,dzF zo,dzF zo,dzF zo⟩
theorem isP_ne {c:UInt8} (h:isP c=true):b2i c ≠ 35∧isG c=false∧isL c=false∧isD c=false:=by
 have h:=of_decide_eq_true (show decide (b2i c=59∨b2i c=123∨b2i c=125)=true from h)
 exact ⟨by omega,dzF zo,dzF zo,dzF zo⟩
theorem whole_head {t:List UInt8} (h:wholeT t=true):∃ c q,t=c :: q∧b2i c ≠ 35∧isG c=false:=by
 cases t with
 | nil=>cases h
 | cons c q =>
  refine ⟨c,q,rfl,?_⟩
  unfold wholeT at h
  simp only at h
  split at h
  ·rename_i hL; exact ⟨(isL_ne hL).1,(isL_ne hL).2.1⟩
  ·split at h
   ·rename_i hD; exact ⟨(isD_ne hD).1,(isD_ne hD).2.1⟩
   ·simp only [bae] at h
    exact ⟨(isP_ne h.1).1,(isP_ne h.1).2.1⟩
theorem whole_gap {t:List UInt8} (h:wholeT t=true) (r:List UInt8):gapN false (t++r)=0:=by
 obtain ⟨c,q,rfl,h1,h2⟩:=whole_head h
 simp only [List.cons_append,gapN]
 rw [if_neg h1,if_neg (by rw [h2]; decide)]
theorem while_app {p:UInt8→Bool}:∀ (a r:List UInt8),a.all p=true→(∀ d ∈ r.head?,p d=false)→(a++r).takeWhile p=a
 | [],r,_,hr=>by
  cases r with
  | nil=>rfl
  | cons d r=>simp [hr d rfl]
 | c :: a,r,h,hr=>by
  simp only [List.all_cons,bae] at h
  simp [h.1,while_app a r h.2 hr]
theorem whole_tk {t r:List UInt8} (h:wholeT t=true) (hs:stopT t r=true):tkT (t++r)=t:=by
 cases t with
 | nil=>cases h
 | cons c q =>
  unfold wholeT at h
  simp only at h
  have e:tkT (c :: q++r)=if isL c=true then (c :: q++r).takeWhile isN else if isD c=true then (c :: q++r).takeWhile isD else if isP c=true then [c] else []:=rfl
  rw [e]
  split at h
  ·rename_i hL
   rw [if_pos hL]
   refine while_app _ _ h fun d hd=>?_
   cases r with
   | nil=>cases hd
   | cons d' r =>
    simp only [List.head?_cons,Option.mem_def,sie] at hd
    subst hd
    simpa [stopT,hL] using hs
  ·rename_i hL
   rw [if_neg hL]
   split at h
   ·rename_i hD
    rw [if_pos hD]
    refine while_app _ _ h fun d hd=>?_
    cases r with
    | nil=>cases hd
    | cons d' r =>
     simp only [List.head?_cons,Option.mem_def,sie] at hd
     subst hd
     simpa [stopT,hL,hD] using hs
   ·rename_i hD
    simp only [bae,List.isEmpty_iff] at h
    rw [if_neg hD,if_pos h.1,h.2]
theorem tk_whole {s:List UInt8} (h:tkT s ≠ []):wholeT (tkT s)=true∧stopT (tkT s) (s.drop (tkT s).length)=true∧s=tkT s++s.drop (tkT s).length:=by
 cases s with
 | nil=>exact absurd rfl h
 | cons c r =>
  have e:tkT (c :: r)=if isL c=true then (c :: r).takeWhile isN else if isD c=true then (c :: r).takeWhile isD else if isP c=true then [c] else []:=rfl
  rw [e] at h ⊢
  have hw:∀ (p:UInt8→Bool) (l:List UInt8),l.drop (l.takeWhile p).length=l.dropWhile p:=by
   intro p l
   have:=drop_while_drop l 0 p
   simpa using this
  by_cases hL:isL c=true
  ·have hN:isN c=true:=by simp [isN,hL]
   have hc:(c :: r).takeWhile isN=c :: r.takeWhile isN:=by simp [hN]
   rw [if_pos hL] at h ⊢
   rw [hw]
   have h1:=all_while (c :: r) isN
   have h2:=drop_while_head (c :: r) isN
   refine ⟨?_,?_,while_split _ _⟩
   ·rw [hc] at h1 ⊢
    unfold wholeT
    simp only [hL,if_true]
    exact h1
   ·rw [hc]
    cases hq:(c :: r).dropWhile isN with
    | nil=>rfl
    | cons d q =>
     rw [hq] at h2
     have:=h2 d rfl
     simp [stopT,hL,this]
  ·rw [if_neg hL] at h ⊢
   by_cases hD:isD c=true
   ·have hc:(c :: r).takeWhile isD=c :: r.takeWhile isD:=by simp [hD]
    rw [if_pos hD] at h ⊢
    rw [hw]
    have h1:=all_while (c :: r) isD
    have h2:=drop_while_head (c :: r) isD
    refine ⟨?_,?_,while_split _ _⟩
    ·rw [hc] at h1 ⊢
     unfold wholeT
     simp only [hL,hD,if_true,Bool.false_eq_true,if_false]
     exact h1
    ·rw [hc]
     cases hq:(c :: r).dropWhile isD with
     | nil=>rfl
     | cons d q =>
      rw [hq] at h2
      have:=h2 d rfl
      simp [stopT,hL,hD,this]
   ·rw [if_neg hD] at h ⊢
    by_cases hP:isP c=true
    ·rw [if_pos hP]
     refine ⟨by simp [wholeT,hL,hD,hP],?_,rfl⟩
     cases r with
     | nil=>rfl
     | cons d q=>simp [stopT,hL,hD]
    ·rw [if_neg hP] at h
     exact absurd rfl h
theorem lexF_ok:∀ (f p k:Nat) (s:List UInt8) (l:List GTk),lexF f p s k=.ok l→k≤2000→Lx p s l∧k+l.length≤2000
 | 0,_,_,_,_,h,_=>by cases h
 | f+1,p,k,s,l,h,hk=>by
  obtain ⟨b,g1,g2⟩:=gapN_split s false
  cases hd:s.drop (gapN false s) with
  | nil =>
   rw [lex_end _ _ _ _ hd] at h
   cases h
   have:s.take (gapN false s)=s:=by
    have:=List.take_append_drop (gapN false s) s
    rw [hd,List.append_nil] at this
    exact this
   rw [this] at g1
   exact ⟨.nil g1,by simp; exact hk⟩
  | cons c r =>
   have hb:=g2 (by rw [hd]; simp)
   subst hb
   rw [lex_step _ _ _ _ c r hd] at h
   split at h
   ·cases h
   rename_i hk2
   cases ht:tkOf (tkT (c :: r)) with
   | error e=>rw [ht] at h; cases h
   | ok y =>
    obtain ⟨kk,x,v⟩:=y
    rw [ht] at h
    simp only at h
    cases hl:lexF f (p+gapN false s+(tkT (c :: r)).length) ((c :: r).drop (tkT (c :: r)).length) (k+1) with
    | error e=>rw [hl] at h; cases h
    | ok l' =>
     rw [hl] at h
     simp only [Except.ok.injEq] at h
     subst h
     obtain ⟨h1,h2⟩:=lexF_ok f _ _ _ _ hl zo
     have hne:tkT (c :: r) ≠ []:=fun e=>by rw [e] at ht; cases ht
     obtain ⟨w1,w2,w3⟩:=tk_whole hne
     have hlen:(s.take (gapN false s)).length=gapN false s:=by
      rw [List.length_take]
      have:=gap_le s false
      omega
     have hs:s=s.take (gapN false s)++(tkT (c :: r)++(c :: r).drop (tkT (c :: r)).length):=by
      rw [← w3,← hd,List.take_append_drop]
     refine ⟨?_,by simp only [zLC]; omega⟩
     have:=Lx.cons (p:=p) (g:=s.take (gapN false s)) (l:=l') g1 w1 ht w2 (by rw [hlen]; exact h1)
     rw [← hs,hlen] at this
     exact this
theorem Lx_lexF:∀ {p:Nat} {s:List UInt8} {l:List GTk},Lx p s l→∀ (f k:Nat),(k+l.length≤2000∨2000 < k)→s.length < f→lexF f p s k=.ok l:=by
 intro p s l h
 induction h with
 | nil hg =>
  intro f k _ hf
  obtain ⟨f,rfl⟩:∃ f',f=f'+1:=⟨f - 1,by omega⟩
  refine lex_end _ _ _ _ ?_
  rw [gapE_N _ _ _ hg,List.drop_length]
 | @cons p g t r l k v x hg hw ht hst hl ih =>
  intro f k' hk hf
  obtain ⟨f,rfl⟩:∃ f',f=f'+1:=⟨f - 1,by omega⟩
  have hN:gapN false (g++(t++r))=g.length:=by rw [gapN_app g _ _ _ hg,whole_gap hw]; rfl
  obtain ⟨c,q,rfl,_⟩:=whole_head hw
  have hd:(g++(c :: q++r)).drop (gapN false (g++(c :: q++r)))=c :: (q++r):=by rw [hN,List.drop_left]; rfl
  have htk:tkT (c :: (q++r))=c :: q:=whole_tk hw hst
  rw [lex_step _ _ _ _ _ _ hd,hN,htk,ht]
  have hdr:(c :: (q++r)).drop (c :: q).length=r:=List.drop_left (l₁:=c :: q)
  simp only [zLA,zLC] at hf hk
  rw [hdr,if_neg zo,ih f (k'+1) zo zo]
theorem lexS_iff (s:List UInt8) (l:List GTk):lexS s=.ok l↔s.length≤8000∧Lx 0 s l∧l.length≤2000:=by
 unfold lexS
 constructor
 ·intro h
  split at h
  ·cases h
  ·rename_i hl
   obtain ⟨h1,h2⟩:=lexF_ok _ _ _ _ _ h zo
   exact ⟨by omega,h1,by omega⟩
 ·rintro ⟨h1,h2,h3⟩
  rw [if_neg zo]
  exact Lx_lexF h2 _ _ (.inl zo) zo
theorem Lx_gap {p:Nat} {g r:List UInt8} {l:List GTk} (hg:gapE false g=some false) (h:Lx (p+g.length) r l):Lx p (g++r) l:=by
 cases h with
 | @nil _ _ b h1=>exact .nil (b:=b) (by rw [gapE_app g r _ _ hg]; exact h1)
 | @cons _ g' t r' l k v x h1 h2 h3 h4 h5 =>
  rw [← List.append_assoc]
  have:=Lx.cons (p:=p) (g:=g++g') (t:=t) (r:=r') (l:=l) (by rw [gapE_app g g' _ _ hg]; exact h1) h2 h3 h4 (by rw [zLA,← Nat.add_assoc]; exact h5)
  rw [zLA,← Nat.add_assoc] at this
  exact this
theorem Lx_at {p:Nat} {s:List UInt8} {l:List GTk} (h:Lx p s l):(∀ t ∈ l,(p:Int)≤t.At∧t.At < ((p+s.length:Nat):Int))∧l.Pairwise (fun a b=>a.At < b.At):=by
 induction h with
 | nil hg=>exact ⟨fun t ht=>(by cases ht),List.Pairwise.nil⟩
 | @cons p g t r l k v y hg hw ht hst hl ih =>
  obtain ⟨c,q,hc,_⟩:=whole_head hw
  have hpos:0 < t.length:=by rw [hc]; simp
  simp only [zLA]
  refine ⟨fun x hx=>?_,List.Pairwise.cons (fun x hx=>?_) ih.2⟩
  ·rcases List.mem_cons.1 hx with rfl | hx
   ·simp only; omega
   ·have:=ih.1 x hx; omega
  ·have:=ih.1 x hx
   simp only; omega
def attB (w:List UInt8):Bool:=(g_p_isAttr 0 w).getD false
def arkB (w:List UInt8):Bool:=(g_p_isArticle 0 w).getD false
def wrdB (w:List UInt8):Bool:=(g_p_isWord 0 w).getD false
def kinB (w:List UInt8):Int:=(g_p_kindOf 0 w).getD 0
theorem p_isAttr (n:Nat) (w:List UInt8):g_p_isAttr n w=some (attB w):=by
 unfold attB g_p_isAttr
 simp only [cond_some,obs,Option.getD_some]
theorem p_isArticle (n:Nat) (w:List UInt8):g_p_isArticle n w=some (arkB w):=by
 unfold arkB g_p_isArticle
 simp only [cond_some,obs,Option.getD_some]
theorem p_isWord (n:Nat) (w:List UInt8):g_p_isWord n w=some (wrdB w):=by
 unfold wrdB g_p_isWord
 simp only [cond_some,obs,Option.getD_some]
theorem p_kindOf (n:Nat) (w:List UInt8):g_p_kindOf n w=some (kinB w):=by
 unfold kinB g_p_kindOf
 simp only [cond_some,Option.getD_some]
theorem p_notKey (n:Nat) (w:List UInt8):g_p_notKey n w=some (!keyB w):=by
 unfold g_p_notKey
 rw [b_isKey,obs]
def zTok (len:Int):GTk:=⟨0,[],0,len⟩
def pk (len:Int) (r:List GTk):GTk:=r.head?.getD (zTok len)
theorem pk_eq {T:List GTk} {i:Nat} (len:Int):pk len (T.drop i)=(T[i]?).getD (zTok len):=by
 unfold pk
 rw [List.head?_drop]
theorem p_peek (n:Nat) (T:List GTk) (i:Nat) (len:Int) (d:List GDg):g_r_peek n (⟨T,(i:Int),len,d⟩:GPr)=some (pk len (T.drop i)):=by
 unfold g_r_peek
 rw [pk_eq]
 simp only [ltI,lenI,zLM]
 by_cases h:i < T.length
 ·rw [dzT zo,zCT,getI_nat,List.getElem?_eq_getElem h]; rfl
 ·rw [dzF zo,zCF,List.getElem?_eq_none zo]; rfl
theorem p_peek2 (n:Nat) (T:List GTk) (i:Nat) (len:Int) (d:List GDg):g_r_peek_2 n (⟨T,(i:Int),len,d⟩:GPr)=some (pk len (T.drop i)):=by
 unfold g_r_peek_2
 rw [pk_eq]
 simp only [ltI,lenI,zLM]
 by_cases h:i < T.length
 ·rw [dzT zo,zCT,getI_nat,List.getElem?_eq_getElem h]; rfl
 ·rw [dzF zo,zCF,List.getElem?_eq_none zo]; rfl
theorem p_fail (n:Nat) (T:List GTk) (i:Nat) (len:Int) (d:List GDg):g_r_fail n (⟨T,(i:Int),len,d⟩:GPr)=some (.error (pk len (T.drop i)).At):=by
 unfold g_r_fail
 rw [p_peek,obs]
theorem p_fail2 (n:Nat) (T:List GTk) (i:Nat) (len:Int) (d:List GDg):g_r_fail_2 n (⟨T,(i:Int),len,d⟩:GPr)=some (.error (pk len (T.drop i)).At):=by
 unfold g_r_fail_2
 rw [p_peek2,obs]
def okV (w:Bool) (t:GTk):Bool:=decide (t.Kind=2)||(decide (t.Kind=1)&&(!keyB t.Text||w&&wrdB t.Text))
def vnode (t:GTk):GN:=if t.Kind=2 then ⟨6,[],t.N,t.At,[]⟩ else ⟨5,t.Text,0,t.At,[]⟩
def vcs (t:GTk):List PV:=GN.cs (vnode t)
theorem okV_z (w:Bool) (len:Int):okV w (zTok len)=false:=by simp [okV,zTok]
theorem values_gen (w:Bool) (T:List GTk) (len:Int) (B:(List (List PV) × Int→Option (List (List PV) × GPr))→List (List PV) × Int→Option (List (List PV) × GPr)) (hT:T.length≤2100)
  (hB:∀ rec acc (i:Nat),acc.length≤2100→B rec (acc,(i:Int))=if okV w (pk len (T.drop i)) then rec (acc++[vcs (pk len (T.drop i))],wi ((i:Int)+1)) else some (acc,(⟨T,(i:Int),len,[]⟩:GPr))) :
  ∀ (m j i:Nat) (acc:List (List PV)),T.length - i≤m→m < j→i≤T.length→acc.length≤i →
   loopN B j (acc,(i:Int))=some (acc++((T.drop i).takeWhile (okV w)).map vcs,(⟨T,((i+((T.drop i).takeWhile (okV w)).length:Nat):Int),len,[]⟩:GPr)):=by
 intro m
 induction m with
 | zero =>
  intro j i acc h1 h2 h3 h4
  obtain ⟨j,rfl⟩:∃ j',j=j'+1:=⟨j - 1,by omega⟩
  unfold loopN
  have hd:T.drop i=[]:=List.drop_eq_nil_of_le zo
  rw [hB _ _ _ zo,hd]
  have:okV w (pk len [])=false:=okV_z w len
  rw [this]
  simp
 | succ m ih =>
  intro j i acc h1 h2 h3 h4
  obtain ⟨j,rfl⟩:∃ j',j=j'+1:=⟨j - 1,by omega⟩
  by_cases hi:i=T.length
  ·exact ih (j+1) i acc zo zo h3 h4
  unfold loopN
  have hdr:=List.drop_eq_getElem_cons (show i < T.length by omega)
  generalize T[i]'zo=t at hdr
  generalize hr:T.drop (i+1)=r at hdr
  rw [hB _ _ _ zo,hdr]
  have hpk:pk len (t :: r)=t:=rfl
  rw [hpk]
  by_cases ho:okV w t=true
  ·rw [if_pos ho,wi_id (x:=(i:Int)+1) zo zo,show ((i:Int)+1)=((i+1:Nat):Int) from by omega,ih j (i+1) _ zo zo zo (by simp; omega),hr]
   simp only [List.takeWhile_cons,ho,if_true,zMC,zLC,List.append_assoc,List.singleton_append]
   rw [show i+1+(r.takeWhile (okV w)).length=i+((r.takeWhile (okV w)).length+1) from by omega]
  ·rw [if_neg ho]
   simp [ho]
theorem p_values (n:Nat) (T:List GTk) (i:Nat) (len:Int) (d:List GDg) (hT:T.length≤2100) (hi:i≤T.length) (hn:10000≤n) :
  g_r_values n (⟨T,(i:Int),len,d⟩:GPr)=some (((T.drop i).takeWhile (okV false)).map vcs,(⟨T,((i+((T.drop i).takeWhile (okV false)).length:Nat):Int),len,[]⟩:GPr)):=by
 unfold g_r_values
 have:=values_gen false T len (fun recl1 (v:List (List PV) × Int)=>g_r_values_l1 n (⟨T,(i:Int),len,d⟩:GPr) recl1 v.1 v.2) hT (fun rec acc i ha=>by
  show g_r_values_l1 n _ rec acc (i:Int)=_
  unfold g_r_values_l1
  simp only [p_peek,obs,eqI_d,p_notKey,cond_some]
  generalize pk len (T.drop i)=t
  have hroom:∀ x:List PV,roomB (List.length (acc++[x])) 64=true:=by intro x; simp [roomB]; omega
  simp only [hroom,zCT]
  unfold okV vcs vnode
  by_cases h2:t.Kind=2
  ·simp [h2]
  ·by_cases h1:t.Kind=1
   ·cases keyB t.Text <;> simp [h1]
   ·simp [h1,h2]) T.length n i [] zo zo hi zq
 exact this
theorem p_values2 (n:Nat) (T:List GTk) (i:Nat) (len:Int) (d:List GDg) (hT:T.length≤2100) (hi:i≤T.length) (hn:10000≤n) :
  g_r_values_2 n (⟨T,(i:Int),len,d⟩:GPr)=some (((T.drop i).takeWhile (okV true)).map vcs,(⟨T,((i+((T.drop i).takeWhile (okV true)).length:Nat):Int),len,[]⟩:GPr)):=by
 unfold g_r_values_2
 have:=values_gen true T len (fun recl1 (v:List (List PV) × Int)=>g_r_values_2_l1 n (⟨T,(i:Int),len,d⟩:GPr) recl1 v.1 v.2) hT (fun rec acc i ha=>by
  show g_r_values_2_l1 n _ rec acc (i:Int)=_
  unfold g_r_values_2_l1 g_r_article_1_1
  simp only [p_peek,obs,eqI_d,p_notKey,p_isWord,cond_some]
  generalize pk len (T.drop i)=t
  have hroom:∀ x:List PV,roomB (List.length (acc++[x])) 64=true:=by intro x; simp [roomB]; omega
  simp only [hroom,zCT]
  unfold okV vcs vnode
  by_cases h2:t.Kind=2
  ·simp [h2]
  ·by_cases h1:t.Kind=1
   ·cases keyB t.Text <;> cases wrdB t.Text <;> simp [h1]
   ·simp [h1,h2]) T.length n i [] zo zo hi zq
 exact this
def skipF:List GTk→List UInt8 × Nat
 | []=>([],0)
 | t :: r=>if t.Kind=3∧t.Text ≠ [123] then (t.Text,1) else ((skipF r).1,(skipF r).2+1)
theorem skip_cons (t:GTk) (r:List GTk):skipF (t :: r)=if t.Kind=3∧t.Text ≠ [123] then (t.Text,1) else ((skipF r).1,(skipF r).2+1):=rfl
theorem skip_le:∀ l:List GTk,(skipF l).2≤l.length
 | []=>by simp [skipF]
 | t :: r=>by
  have:=skip_le r
  unfold skipF
  split <;> simp only [zLC] <;> omega
theorem p_skip (n:Nat) (T:List GTk) (i:Nat) (len:Int) (d:List GDg) (hT:T.length≤2100) (hi:i≤T.length) (hn:10000≤n) :
  g_r_skip n (⟨T,(i:Int),len,d⟩:GPr)=some ((skipF (T.drop i)).1,(⟨T,((i+(skipF (T.drop i)).2:Nat):Int),len,[]⟩:GPr)):=by
 unfold g_r_skip
 have key:∀ (m j i':Nat),T.length - i'≤m→m < j→i'≤T.length→loopN (fun recl1 l1=>g_r_skip_l1 (⟨T,(i:Int),len,d⟩:GPr) recl1 l1) j (i':Int)=some ((skipF (T.drop i')).1,(⟨T,((i'+(skipF (T.drop i')).2:Nat):Int),len,[]⟩:GPr)):=by
  intro m
  induction m with
  | zero =>
   intro j i' h1 h2 h3
   obtain ⟨j,rfl⟩:∃ j',j=j'+1:=⟨j - 1,by omega⟩
   unfold loopN
   unfold g_r_skip_l1
   simp only [ltI,lenI,zLM]
   rw [dzF zo,zCF,List.drop_eq_nil_of_le zo]
   rfl
  | succ m ih =>
   intro j i' h1 h2 h3
   obtain ⟨j,rfl⟩:∃ j',j=j'+1:=⟨j - 1,by omega⟩
   by_cases hi:i'=T.length
   ·exact ih (j+1) i' zo zo h3
   have ih':=ih j (i'+1) zo zo zo
   unfold loopN
   generalize loopN (fun recl1 l1=>g_r_skip_l1 (⟨T,(i:Int),len,d⟩:GPr) recl1 l1) j=L at ih' ⊢
   show g_r_skip_l1 _ L (i':Int)=_
   unfold g_r_skip_l1
   simp only [ltI,lenI,zLM]
   have hdr:=List.drop_eq_getElem_cons (show i' < T.length by omega)
   have hx:T[i']?=some T[i']:=List.getElem?_eq_getElem zo
   generalize T[i']=t at hdr hx
   rw [dzT zo,zCT,getI_nat,hx,obs,hdr,eqI_d,cond_some,obs,wi_id (x:=(i':Int)+1) zo zo,show ((i':Int)+1)=((i'+1:Nat):Int) from by omega,ih']
   rw [skip_cons]
   by_cases h:t.Kind=3∧t.Text ≠ [123]
   ·have:(bif decide (t.Kind=3) then !eqS t.Text [123] else false)=true:=by
     rw [dzT h.1]
     simp [eqS,h.2]
    rw [this,zCT,if_pos h]
   ·have:(bif decide (t.Kind=3) then !eqS t.Text [123] else false)=false:=by
     by_cases h3:t.Kind=3
     ·have h4:t.Text=[123]:=Classical.byContradiction fun h4=>h ⟨h3,h4⟩
      rw [h4,dzT h3]; rfl
     ·rw [dzF h3]; rfl
    rw [this,zCF,if_neg h]
    simp only
    rw [show i'+1+(skipF (T.drop (i'+1))).2=i'+((skipF (T.drop (i'+1))).2+1) from by omega]
 exact key T.length n i zo zo hi
def isPu (c:UInt8) (t:GTk):Bool:=decide (t.Kind=3∧t.Text=[c])
def vals (w:Bool) (r:List GTk):List GTk:=r.takeWhile (okV w)
def artF (len:Int) (r:List GTk):Except (Int × Nat) (GN × Nat) :=
 if (pk len r).Kind=1∧arkB (pk len r).Text=true then
  if isPu 59 (pk len (r.drop (1+(vals true (r.drop 1)).length))) then .ok (⟨4,(pk len r).Text,0,(pk len r).At,(vals true (r.drop 1)).map vcs⟩,2+(vals true (r.drop 1)).length)
  else .error ((pk len (r.drop (1+(vals true (r.drop 1)).length))).At,1+(vals true (r.drop 1)).length)
 else .error ((pk len r).At,0)
def attF:Nat→List GTk→List (List PV) × Nat
 | 0,_=>([],0)
 | _+1,[]=>([],0)
 | f+1,t :: q=>if t.Kind=1∧attB t.Text=true then
   (GN.cs ⟨3,t.Text,0,t.At,(vals false q).map vcs⟩ :: (attF f (q.drop (vals false q).length)).1,1+(vals false q).length+(attF f (q.drop (vals false q).length)).2)
  else ([],0)
def artsF:Nat→Int→List GDg→List GTk→List (List PV) × Nat × List GDg
 | 0,_,ds,_=>([],0,ds)
 | f+1,len,ds,r=>if 20≤ds.length then ([],0,ds) else if isPu 125 (pk len r) then ([],1,ds) else match artF len r with
  | .ok (x,k)=>let z:=artsF f len ds (r.drop k); (GN.cs x :: z.1,k+z.2.1,z.2.2)
  | .error (e,k)=>let m:=skipF (r.drop k)
   if m.1 ≠ [59] then ([],k+m.2,ds++[⟨7,e⟩]) else
    let z:=artsF f len (ds++[⟨7,e⟩]) (r.drop (k+m.2)); (z.1,k+m.2+z.2.1,z.2.2)
def itemF (len:Int) (ds:List GDg) (r:List GTk):Except (Int × Nat) (GN × Nat × List GDg) :=
 if (pk len r).Kind=1∧kinB (pk len r).Text ≠ 0 then
  if (pk len (r.drop 1)).Kind=1∧keyB (pk len (r.drop 1)).Text=false then
   let a:=attF (r.length+1) (r.drop 2)
   let t:=pk len (r.drop (2+a.2))
   if kinB (pk len r).Text=7 then
    if isPu 123 t then
     let z:=artsF (r.length+1) len ds (r.drop (3+a.2)); .ok (⟨2,(pk len (r.drop 1)).Text,7,(pk len r).At,a.1++z.1⟩,3+a.2+z.2.1,z.2.2)
    else .error (t.At,2+a.2)
   else if isPu 59 t then .ok (⟨2,(pk len (r.drop 1)).Text,kinB (pk len r).Text,(pk len r).At,a.1⟩,3+a.2,ds)
    else .error (t.At,2+a.2)
  else .error ((pk len (r.drop 1)).At,1)
 else .error ((pk len r).At,0)
def itemsF:Nat→Int→List GDg→List GTk→List (List PV) × List GDg
 | 0,_,ds,_=>([],ds)
 | f+1,len,ds,r=>if r=[]∨20≤ds.length then ([],ds) else match itemF len ds r with
  | .ok (x,k,ds')=>let z:=itemsF f len ds' (r.drop k); (GN.cs x :: z.1,z.2)
  | .error (e,k)=>itemsF f len (ds++[⟨7,e⟩]) (r.drop (k+(skipF (r.drop k)).2))
theorem pu_b (c:UInt8) (t:GTk):(bif decide (t.Kind=3) then eqS t.Text [c] else false)=isPu c t:=by
 unfold isPu eqS
 by_cases h:t.Kind=3
 ·by_cases h2:t.Text=[c] <;> simp [h,h2]
 ·simp [h]
theorem pu_not (c:UInt8) (t:GTk):(bif decide (t.Kind=0) then true else !isPu c t)=!isPu c t:=by
 by_cases h:t.Kind=0
 ·have:isPu c t=false:=by unfold isPu; rw [dzF]; rintro ⟨h1,_⟩; omega
  rw [this,dzT h]; rfl
 ·rw [dzF h]; rfl
theorem while_bound (r:List GTk) (w:Bool):(vals w r).length≤r.length:=(List.takeWhile_prefix (okV w)).length_le
theorem drop_drop' (T:List GTk) (i k:Nat):T.drop (i+k)=(T.drop i).drop k:=(List.drop_drop ..).symm
theorem p_article (n:Nat) (T:List GTk) (i:Nat) (len:Int) (hT:T.length≤2100) (hi:i≤T.length) (hn:10000≤n) :
  g_r_article n (⟨T,(i:Int),len,[]⟩:GPr)=some (match artF len (T.drop i) with
   | .ok (x,k)=>.ok (x,(⟨T,((i+k:Nat):Int),len,[]⟩:GPr))
   | .error (e,k)=>.error (e,(⟨T,((i+k:Nat):Int),len,[]⟩:GPr))):=by
 unfold g_r_article
 simp only [p_peek,obs,eqI_d,p_isArticle,cond_some,p_fail,exc]
 unfold artF
 generalize ht:pk len (T.drop i)=t
 by_cases h1:t.Kind=1∧arkB t.Text=true
 rotate_left
 ·rw [if_neg h1]
  have:(bif decide (t.Kind=0) then true else !bif decide (t.Kind=1) then arkB t.Text else false)=true:=by
   by_cases a:t.Kind=1
   ·have b:arkB t.Text=false:=by
     cases hb:arkB t.Text
     ·rfl
     ·exact absurd ⟨a,hb⟩ h1
    rw [b,dzT a,dzF zo]; rfl
   ·rw [dzF a]
    cases decide (t.Kind=0) <;> rfl
  rw [this,zCT]
  simp
 rw [if_pos h1]
 have hlt:i < T.length:=by
  apply Classical.byContradiction
  intro h
  rw [List.drop_eq_nil_of_le zo] at ht
  rw [← ht] at h1
  exact absurd h1.1 (by simp [pk,zTok])
 have hb:(bif decide (t.Kind=0) then true else !bif decide (t.Kind=1) then arkB t.Text else false)=false:=by
  rw [dzF zo,dzT h1.1,h1.2]; rfl
 rw [hb,zCF]
 unfold g_r_article_j2
 simp only [wi_id (x:=(i:Int)+1) zo zo]
 rw [show ((i:Int)+1)=((i+1:Nat):Int) from by omega,p_values2 n T (i+1) len [] hT zo hn,obs]
 have hvl:=while_bound (T.drop (i+1)) true
 rw [zLD] at hvl
 have hv:(T.drop (i+1)).takeWhile (okV true)=vals true ((T.drop i).drop 1):=by rw [drop_drop']; rfl
 rw [hv]
 rw [drop_drop' T i 1] at hvl
 generalize vals true ((T.drop i).drop 1)=v at hvl ⊢
 have hroom:roomB (List.length (v.map vcs)) 64=true:=by simp [roomB]; omega
 simp only [hroom,zCT,obs,List.nil_append]
 rw [p_peek,obs]
 have hdd:T.drop (i+1+v.length)=(T.drop i).drop (1+v.length):=by rw [Nat.add_assoc,drop_drop']
 rw [hdd]
 simp only [eqI_d,cond_some,obs,pu_b,pu_not,p_fail,hdd]
 unfold g_r_article_j6
 cases hp:isPu 59 (pk len ((T.drop i).drop (1+v.length)))
 ·simp only [Bool.not_false,zCT,exc]
  rw [show i+1+v.length=i+(1+v.length) from by omega]
  simp
 ·simp only [Bool.not_true,zCF,if_true]
  rw [wi_id (x:=((i+1+v.length:Nat):Int)+1) zo zo,show (((i+1+v.length:Nat):Int)+1)=((i+(2+v.length):Nat):Int) from by omega]
theorem att_gen (T:List GTk) (len:Int) (hT:T.length≤2100)
  (B:(List (List PV) × List GTk × Int × Int × Int × List UInt8 × Int × Int→Option (List (List PV) × List GTk × Int × Int))→List (List PV) × List GTk × Int × Int × Int × List UInt8 × Int × Int→Option (List (List PV) × List GTk × Int × Int))
  (hB:∀ rec acc (i:Nat) (t:GTk),acc.length≤2100→i≤T.length→B rec (acc,T,(i:Int),len,t.Kind,t.Text,t.N,t.At)=if t.Kind=1∧attB t.Text=true then
    (if i < T.length then rec (acc++[GN.cs (⟨3,t.Text,0,t.At,(vals false (T.drop (i+1))).map vcs⟩:GN)],T,((i+1+(vals false (T.drop (i+1))).length:Nat):Int),len,(pk len (T.drop (i+1+(vals false (T.drop (i+1))).length))).Kind,(pk len (T.drop (i+1+(vals false (T.drop (i+1))).length))).Text,(pk len (T.drop (i+1+(vals false (T.drop (i+1))).length))).N,(pk len (T.drop (i+1+(vals false (T.drop (i+1))).length))).At) else B rec (acc,T,(i:Int),len,t.Kind,t.Text,t.N,t.At)) else some (acc,T,(i:Int),len)) :
  ∀ (m j i f:Nat) (acc:List (List PV)),T.length - i≤m→m < j→i≤T.length→acc.length≤i→T.length - i < f →
   loopN B j (acc,T,(i:Int),len,(pk len (T.drop i)).Kind,(pk len (T.drop i)).Text,(pk len (T.drop i)).N,(pk len (T.drop i)).At)=some (acc++(attF f (T.drop i)).1,T,((i+(attF f (T.drop i)).2:Nat):Int),len):=by
 intro m
 induction m with
 | zero =>
  intro j i f acc h1 h2 h3 h4 h5
  obtain ⟨j,rfl⟩:∃ j',j=j'+1:=⟨j - 1,by omega⟩
  obtain ⟨f,rfl⟩:∃ f',f=f'+1:=⟨f - 1,by omega⟩
  unfold loopN
  rw [hB _ _ _ _ zo h3,List.drop_eq_nil_of_le zo]
  rw [if_neg (by simp [pk,zTok])]
  simp [attF]
 | succ m ih =>
  intro j i f acc h1 h2 h3 h4 h5
  by_cases hi:i=T.length
  ·exact ih j i f acc zo zo h3 h4 h5
  obtain ⟨j,rfl⟩:∃ j',j=j'+1:=⟨j - 1,by omega⟩
  obtain ⟨f,rfl⟩:∃ f',f=f'+1:=⟨f - 1,by omega⟩
  unfold loopN
  rw [hB _ _ _ _ zo h3]
  have hdr:=List.drop_eq_getElem_cons (show i < T.length by omega)
  generalize T[i]'zo=t at hdr
  have hpk:pk len (T.drop i)=t:=by rw [hdr]; rfl
  rw [hpk]
  have hvl:=while_bound (T.drop (i+1)) false
  rw [zLD] at hvl
  by_cases h:t.Kind=1∧attB t.Text=true
  ·rw [if_pos h,if_pos zo,ih j _ f _ zo zo zo (by simp; omega) zo,hdr]
   have e:attF (f+1) (t :: T.drop (i+1))=(GN.cs ⟨3,t.Text,0,t.At,(vals false (T.drop (i+1))).map vcs⟩ :: (attF f ((T.drop (i+1)).drop (vals false (T.drop (i+1))).length)).1,1+(vals false (T.drop (i+1))).length+(attF f ((T.drop (i+1)).drop (vals false (T.drop (i+1))).length)).2):=by
    conv=>lhs; unfold attF
    rw [if_pos h]
   rw [e,← drop_drop' T (i+1)]
   simp only [List.append_assoc,List.singleton_append]
   rw [show i+1+(vals false (T.drop (i+1))).length+(attF f (T.drop (i+1+(vals false (T.drop (i+1))).length))).2=i+(1+(vals false (T.drop (i+1))).length+(attF f (T.drop (i+1+(vals false (T.drop (i+1))).length))).2) from by omega]
  ·rw [if_neg h,hdr]
   have e:attF (f+1) (t :: T.drop (i+1))=([],0):=by
    conv=>lhs; unfold attF
    rw [if_neg h]
   rw [e]
   simp
theorem attF_fuel:∀ (f f':Nat) (r:List GTk),r.length < f→r.length < f'→attF f r=attF f' r
 | 0,_,_,h,_=>absurd h (Nat.not_lt_zero _)
 | _,0,_,_,h=>absurd h (Nat.not_lt_zero _)
 | f+1,f'+1,[],_,_=>rfl
 | f+1,f'+1,t :: q,h,h'=>by
  unfold attF
  have:(q.drop (vals false q).length).length≤q.length:=by rw [zLD]; omega
  simp only [zLC] at h h'
  rw [attF_fuel f f' _ zo zo]
theorem attF_le:∀ (f:Nat) (r:List GTk),(attF f r).2≤r.length
 | 0,_=>by simp [attF]
 | f+1,[]=>by simp [attF]
 | f+1,t :: q=>by
  have h1:=attF_le f (q.drop (vals false q).length)
  have h2:=while_bound q false
  rw [zLD] at h1
  unfold attF
  split
  ·simp only [zLC]; omega
  ·simp
theorem attF_len:∀ (f:Nat) (r:List GTk),(attF f r).1.length≤(attF f r).2
 | 0,_=>by simp [attF]
 | f+1,[]=>by simp [attF]
 | f+1,t :: q=>by
  have h1:=attF_len f (q.drop (vals false q).length)
  unfold attF
  split
  ·simp only [zLC]; omega
  ·simp
theorem p_attrs (n:Nat) (T:List GTk) (i:Nat) (len:Int) (a0:GPr) (hT:T.length≤2100) (hi:i≤T.length) (hn:10000≤n) :
  loopN (fun recl38 (v:List (List PV) × List GTk × Int × Int × Int × List UInt8 × Int × Int)=>g_r_item_l38 n a0 recl38 v.1 v.2.1 v.2.2.1 v.2.2.2.1 v.2.2.2.2.1 v.2.2.2.2.2.1 v.2.2.2.2.2.2.1 v.2.2.2.2.2.2.2) n ([],T,(i:Int),len,(pk len (T.drop i)).Kind,(pk len (T.drop i)).Text,(pk len (T.drop i)).N,(pk len (T.drop i)).At)=some ((attF (T.length - i+1) (T.drop i)).1,T,((i+(attF (T.length - i+1) (T.drop i)).2:Nat):Int),len):=by
 refine att_gen T len hT _ ?_ T.length n i _ [] zo zo hi zq zo
 intro rec acc i t ha hi
 show g_r_item_l38 n a0 rec acc T (i:Int) len t.Kind t.Text t.N t.At=_
 by_cases hc:t.Kind=1∧attB t.Text=true
 rotate_left
 ·rw [if_neg hc]
  unfold g_r_item_l38
  simp only [eqI_d,p_isAttr,obs,cond_some]
  have:(bif decide (t.Kind=1) then attB t.Text else false)=false:=by
   by_cases a:t.Kind=1
   ·cases hb:attB t.Text
    ·simp
    ·exact absurd ⟨a,hb⟩ hc
   ·rw [dzF a]; rfl
  rw [this,zCF]
 rw [if_pos hc]
 by_cases hlt:i < T.length
 rotate_left
 ·rw [if_neg hlt]
 rw [if_pos hlt]
 unfold g_r_item_l38
 simp only [eqI_d,p_isAttr,obs,cond_some]
 rw [dzT hc.1,hc.2,zCT,zCT,wi_id (x:=(i:Int)+1) zo zo,show ((i:Int)+1)=((i+1:Nat):Int) from by omega,p_values n T (i+1) len [] hT zo hn,obs]
 have hvl:=while_bound (T.drop (i+1)) false
 rw [zLD] at hvl
 have hv:(T.drop (i+1)).takeWhile (okV false)=vals false (T.drop (i+1)):=rfl
 rw [hv]
 generalize vals false (T.drop (i+1))=v at hvl ⊢
 have hroom:roomB (List.length (v.map vcs)) 64=true:=by simp [roomB]; omega
 have hroom2:∀ x:List PV,roomB (List.length (acc++[x])) 64=true:=by intro x; simp [roomB]; omega
 simp only [hroom,hroom2,zCT,obs,List.nil_append,p_peek2]
theorem p_attrs9 (n:Nat) (T:List GTk) (i:Nat) (len:Int) (a0:GPr) (hT:T.length≤2100) (hi:i≤T.length) (hn:10000≤n) :
  loopN (fun recl9 (v:List (List PV) × List GTk × Int × Int × Int × List UInt8 × Int × Int)=>g_r_item_l9 n a0 recl9 v.1 v.2.1 v.2.2.1 v.2.2.2.1 v.2.2.2.2.1 v.2.2.2.2.2.1 v.2.2.2.2.2.2.1 v.2.2.2.2.2.2.2) n ([],T,(i:Int),len,(pk len (T.drop i)).Kind,(pk len (T.drop i)).Text,(pk len (T.drop i)).N,(pk len (T.drop i)).At)=some ((attF (T.length - i+1) (T.drop i)).1,T,((i+(attF (T.length - i+1) (T.drop i)).2:Nat):Int),len):=by
 have e:∀ recl v1 v2 v3 v4 v5 v6 v7 v8,g_r_item_l9 n a0 recl v1 v2 v3 v4 v5 v6 v7 v8=g_r_item_l38 n a0 recl v1 v2 v3 v4 v5 v6 v7 v8:=fun _ _ _ _ _ _ _ _ _=>rfl
 simp only [e]
 exact p_attrs n T i len a0 hT hi hn
theorem bind_of {α β:Type} {o:Option α} {f:α→Option β} {x:α} {b:Option β} (h:o=some x) (h2:f x=b):o.bind f=b:=by
 rw [h]; exact h2
theorem p_full (n:Nat) (r:GPr):g_r_full n r=some (decide (20≤r.dg.length)):=by
 unfold g_r_full
 simp only [leI,lenI,zLM]
 rw [show decide ((20:Int)≤(r.dg.length:Int))=decide (20≤r.dg.length) from decide_eq_decide.2 zo]
theorem p_item1 (n:Nat) (w:List UInt8):g_r_item_1 n w=some (!decide (kinB w=0)):=by
 unfold g_r_item_1
 simp only [p_kindOf,obs,eqI_d]
theorem take_b (t:GTk) (b:Bool):(bif decide (t.Kind=0) then true else !bif decide (t.Kind=1) then b else false)=!(decide (t.Kind=1)&&b):=by
 by_cases h:t.Kind=0
 ·rw [dzT h,dzF (show ¬ t.Kind=1 by omega)]; rfl
 ·rw [dzF h]
  cases decide (t.Kind=1) <;> rfl
theorem pu_lt {c:UInt8} {len:Int} {r:List GTk} {j:Nat} (h:isPu c (pk len (r.drop j))=true):j < r.length:=by
 apply Classical.byContradiction
 intro hn
 rw [List.drop_eq_nil_of_le zo] at h
 exact absurd (of_decide_eq_true h).1 (by simp [pk,zTok])
theorem k1_lt {len:Int} {r:List GTk} {j:Nat} (h:(pk len (r.drop j)).Kind=1):j < r.length:=by
 apply Classical.byContradiction
 intro hn
 rw [List.drop_eq_nil_of_le zo] at h
 exact absurd h (by simp [pk,zTok])
theorem artF_ok {len:Int} {r:List GTk} {x:GN} {k:Nat} (h:artF len r=.ok (x,k)):2≤k∧k≤r.length:=by
 unfold artF at h
 split at h
 ·split at h
  ·rename_i h2
   simp only [Except.ok.injEq,zPJ] at h
   have:=pu_lt h2
   omega
  ·cases h
 ·cases h
theorem artF_err {len e:Int} {r:List GTk} {k:Nat} (h:artF len r=.error (e,k)):k≤r.length:=by
 unfold artF at h
 split at h
 ·rename_i h1
  have h0:0 < r.length:=k1_lt (j:=0) (len:=len) h1.1
  split at h
  ·cases h
  ·simp only [Except.error.injEq,zPJ] at h
   have:=while_bound (r.drop 1) true
   rw [zLD] at this
   omega
 ·simp only [Except.error.injEq,zPJ] at h
  omega
theorem skip_pos {l:List GTk} (h:l ≠ []):1≤(skipF l).2:=by
 cases l with
 | nil=>exact absurd rfl h
 | cons t r=>rw [skip_cons]; split <;> simp
theorem skip_ne {l:List GTk} (h:(skipF l).1 ≠ []):l ≠ []:=by rintro rfl; exact h rfl
theorem arts_step (n:Nat) (T:List GTk) (len:Int) (pre:List (List PV)) (hT:T.length≤2100) (hp:pre.length≤2100) (hn:10000≤n)
  (rec:(List (List PV) × List GTk × Int × Int × List GDg)→Option (List (List PV) × List GTk × Int × Int × List GDg)) (acc:List (List PV)) (i:Nat) (ds:List GDg) (hi:i≤T.length) (ha:acc.length≤i) (hds:ds.length≤20) :
  g_r_item_l20 n pre rec acc T (i:Int) len ds=if 20≤ds.length then some (pre++acc,T,(i:Int),len,ds) else if isPu 125 (pk len (T.drop i)) then some (pre++acc,T,((i+1:Nat):Int),len,ds) else match artF len (T.drop i) with
   | .ok (x,k)=>rec (acc++[GN.cs x],T,((i+k:Nat):Int),len,ds)
   | .error (e,k)=>if (skipF ((T.drop i).drop k)).1 ≠ [59] then some (pre++acc,T,((i+(k+(skipF ((T.drop i).drop k)).2):Nat):Int),len,ds++[⟨7,e⟩]) else rec (acc,T,((i+(k+(skipF ((T.drop i).drop k)).2):Nat):Int),len,ds++[⟨7,e⟩]):=by
 have hroom:roomB (pre.length+acc.length) 64=true:=by simp [roomB]; omega
 have hroom1:roomB (acc.length+1) 64=true:=by simp [roomB]; omega
 have hroom2:roomB (ds.length+1) 16=true:=by simp [roomB]; omega
 unfold g_r_item_l20 g_r_item_j19
 simp only [p_full,obs,p_peek2,eqI_d,cond_some,pu_b,List.nil_append,List.append_nil,zLA,hroom,zCT,List.length_singleton,hroom1,hroom2]
 by_cases hf:20≤ds.length
 ·rw [dzT hf,if_pos hf]; rfl
 rw [dzF hf,if_neg hf]
 simp only [Bool.not_false,zCT]
 cases hb:isPu 125 (pk len (T.drop i))
 rotate_left
 ·simp only [zCT,if_true]
  have:=pu_lt hb
  rw [wi_id (x:=(i:Int)+1) zo zo]
  rfl
 simp only [zCF,Bool.false_eq_true,if_false]
 rw [p_article n T i len hT hi hn]
 cases hA:artF len (T.drop i) with
 | ok y =>
  obtain ⟨x,k⟩:=y
  simp only [obs,exc,zCT]
 | error y =>
  obtain ⟨e,k⟩:=y
  have hk:=artF_err hA
  rw [zLD] at hk
  simp only [obs,exc]
  rw [p_skip n T (i+k) len [] hT zo hn]
  simp only [obs,zCF]
  rw [drop_drop']
  generalize skipF ((T.drop i).drop k)=m
  rw [show i+k+m.2=i+(k+m.2) from by omega]
  by_cases h59:m.1=[59]
  ·rw [if_neg (by simpa using h59),show eqS m.1 [59]=true from by simp [eqS,h59]]; rfl
  ·rw [if_pos h59,show eqS m.1 [59]=false from by simp [eqS,h59]]; rfl
theorem arts_gen (n:Nat) (T:List GTk) (len:Int) (pre:List (List PV)) (hT:T.length≤2100) (hp:pre.length≤2100) (hn:10000≤n) :
  ∀ (j i f:Nat) (acc:List (List PV)) (ds:List GDg),T.length - i < j→i≤T.length→acc.length≤i→ds.length≤20→T.length - i < f →
   loopN (fun recl20 (v:List (List PV) × List GTk × Int × Int × List GDg)=>g_r_item_l20 n pre recl20 v.1 v.2.1 v.2.2.1 v.2.2.2.1 v.2.2.2.2) j (acc,T,(i:Int),len,ds)=some (pre++(acc++(artsF f len ds (T.drop i)).1),T,((i+(artsF f len ds (T.drop i)).2.1:Nat):Int),len,(artsF f len ds (T.drop i)).2.2):=by
 intro j
 induction j with
 | zero=>intro i f acc ds h; omega
 | succ j ih =>
  intro i f acc ds h1 h2 h3 h4 h5
  obtain ⟨f,rfl⟩:∃ f',f=f'+1:=⟨f - 1,by omega⟩
  have e:artsF (f+1) len ds (T.drop i)=if 20≤ds.length then ([],0,ds) else if isPu 125 (pk len (T.drop i)) then ([],1,ds) else match artF len (T.drop i) with
   | .ok (x,k)=>let z:=artsF f len ds ((T.drop i).drop k); (GN.cs x :: z.1,k+z.2.1,z.2.2)
   | .error (e,k)=>let m:=skipF ((T.drop i).drop k)
    if m.1 ≠ [59] then ([],k+m.2,ds++[⟨7,e⟩]) else
     let z:=artsF f len (ds++[⟨7,e⟩]) ((T.drop i).drop (k+m.2)); (z.1,k+m.2+z.2.1,z.2.2):=rfl
  unfold loopN
  generalize loopN (fun recl20 (v:List (List PV) × List GTk × Int × Int × List GDg)=>g_r_item_l20 n pre recl20 v.1 v.2.1 v.2.2.1 v.2.2.2.1 v.2.2.2.2) j=L at ih ⊢
  show g_r_item_l20 n pre L acc T (i:Int) len ds=_
  rw [arts_step n T len pre hT hp hn L acc i ds h2 h3 h4,e]
  by_cases hf:20≤ds.length
  ·simp [if_pos hf]
  rw [if_neg hf,if_neg hf]
  by_cases hb:isPu 125 (pk len (T.drop i))=true
  ·simp [if_pos hb]
  rw [if_neg hb,if_neg hb]
  cases hA:artF len (T.drop i) with
  | ok y =>
   obtain ⟨x,k⟩:=y
   have hk:=artF_ok hA
   rw [zLD] at hk
   simp only
   rw [ih (i+k) f _ _ zo zo (by simp; omega) h4 zo,drop_drop']
   simp only [List.append_assoc,List.singleton_append]
   rw [show i+k+(artsF f len ds ((T.drop i).drop k)).2.1=i+(k+(artsF f len ds ((T.drop i).drop k)).2.1) from by omega]
  | error y =>
   obtain ⟨e,k⟩:=y
   have hk:=artF_err hA
   rw [zLD] at hk
   simp only
   have hs:=skip_le ((T.drop i).drop k)
   rw [zLD,zLD] at hs
   by_cases h59:(skipF ((T.drop i).drop k)).1 ≠ [59]
   ·rw [if_pos h59,if_pos h59]; simp
   ·rw [if_neg h59,if_neg h59]
    have hne:=skip_pos (skip_ne (l:=(T.drop i).drop k) (by rw [Classical.not_not.1 h59]; simp))
    generalize skipF ((T.drop i).drop k)=m at hs hne
    rw [ih (i+(k+m.2)) f _ _ zo zo zo (by simp; omega) zo,drop_drop']
    simp only
    rw [show i+(k+m.2)+(artsF f len (ds++[⟨7,e⟩]) ((T.drop i).drop (k+m.2))).2.1=i+(k+m.2+(artsF f len (ds++[⟨7,e⟩]) ((T.drop i).drop (k+m.2))).2.1) from by omega]
theorem artsF_le:∀ (f:Nat) (len:Int) (ds:List GDg) (r:List GTk),(artsF f len ds r).2.1≤r.length∧(artsF f len ds r).1.length≤(artsF f len ds r).2.1∧(ds.length≤20→(artsF f len ds r).2.2.length≤20)
 | 0,_,_,r=>by simp [artsF]
 | f+1,len,ds,r=>by
  have e:artsF (f+1) len ds r=if 20≤ds.length then ([],0,ds) else if isPu 125 (pk len r) then ([],1,ds) else match artF len r with
   | .ok (x,k)=>let z:=artsF f len ds (r.drop k); (GN.cs x :: z.1,k+z.2.1,z.2.2)
   | .error (e,k)=>let m:=skipF (r.drop k)
    if m.1 ≠ [59] then ([],k+m.2,ds++[⟨7,e⟩]) else
     let z:=artsF f len (ds++[⟨7,e⟩]) (r.drop (k+m.2)); (z.1,k+m.2+z.2.1,z.2.2):=rfl
  rw [e]
  by_cases hf:20≤ds.length
  ·simp [if_pos hf]
  rw [if_neg hf]
  by_cases hb:isPu 125 (pk len r)=true
  ·have:0 < r.length:=pu_lt (j:=0) hb
   rw [if_pos hb]
   exact ⟨this,by simp,fun h=>h⟩
  rw [if_neg hb]
  cases hA:artF len r with
  | ok y =>
   obtain ⟨x,k⟩:=y
   have hk:=artF_ok hA
   have:=artsF_le f len ds (r.drop k)
   rw [zLD] at this
   simp only [zLC]
   omega
  | error y =>
   obtain ⟨e,k⟩:=y
   have hk:=artF_err hA
   simp only
   have hs:=skip_le (r.drop k)
   rw [zLD] at hs
   generalize skipF (r.drop k)=m at hs
   by_cases h59:m.1 ≠ [59]
   ·rw [if_pos h59]; simp; omega
   ·rw [if_neg h59]
    have:=artsF_le f len (ds++[⟨7,e⟩]) (r.drop (k+m.2))
    rw [zLD] at this
    simp only [zLA,List.length_singleton] at this ⊢
    omega
theorem p_item (n:Nat) (T:List GTk) (i:Nat) (len:Int) (ds:List GDg) (hT:T.length≤2100) (hi:i≤T.length) (hds:ds.length≤20) (hn:10000≤n) :
  g_r_item n (⟨T,(i:Int),len,ds⟩:GPr)=some (match itemF len ds (T.drop i) with
   | .ok (x,k,ds')=>.ok (x,(⟨T,((i+k:Nat):Int),len,ds'⟩:GPr))
   | .error (e,k)=>.error (e,(⟨T,((i+k:Nat):Int),len,ds⟩:GPr))):=by
 unfold g_r_item
 simp only [p_peek2,obs,eqI_d,p_item1,cond_some,take_b,p_fail2,exc]
 unfold itemF
 have e0:pk len (T.drop i)=pk len ((T.drop i).drop 0):=rfl
 by_cases h1:(pk len (T.drop i)).Kind=1∧kinB (pk len (T.drop i)).Text ≠ 0
 rotate_left
 ·rw [if_neg h1]
  have:(decide ((pk len (T.drop i)).Kind=1)&&!decide (kinB (pk len (T.drop i)).Text=0))=false:=by
   rw [Bool.eq_false_iff]
   intro h
   simp only [bae,zDT,Bool.not_eq_true',decide_eq_false_iff_not] at h
   exact h1 h
  rw [this]
  rfl
 rw [if_pos h1]
 have hl1:i < T.length:=by
  have:=k1_lt (len:=len) (r:=T) (j:=i) h1.1
  exact this
 have:(decide ((pk len (T.drop i)).Kind=1)&&!decide (kinB (pk len (T.drop i)).Text=0))=true:=by
  rw [dzT h1.1,dzF h1.2]; rfl
 rw [this]
 simp only [Bool.not_true,zCF]
 unfold g_r_item_j2
 simp only
 rw [wi_id (x:=(i:Int)+1) zo zo,show ((i:Int)+1)=((i+1:Nat):Int) from by omega]
 simp only [p_peek2,obs,eqI_d,p_notKey,cond_some,take_b,p_fail2,exc]
 rw [show T.drop (i+1)=(T.drop i).drop 1 from drop_drop' ..]
 by_cases h2:(pk len ((T.drop i).drop 1)).Kind=1∧keyB (pk len ((T.drop i).drop 1)).Text=false
 rotate_left
 ·rw [if_neg h2]
  have:(decide ((pk len ((T.drop i).drop 1)).Kind=1)&&!keyB (pk len ((T.drop i).drop 1)).Text)=false:=by
   rw [Bool.eq_false_iff]
   intro h
   simp only [bae,zDT,Bool.not_eq_true'] at h
   exact h2 h
  rw [this]
  rfl
 rw [if_pos h2]
 have hl2:i+1 < T.length:=by
  have:=h2.1
  rw [← drop_drop'] at this
  exact k1_lt (len:=len) (r:=T) (j:=i+1) this
 have:(decide ((pk len ((T.drop i).drop 1)).Kind=1)&&!keyB (pk len ((T.drop i).drop 1)).Text)=true:=by
  rw [dzT h2.1,h2.2]; rfl
 rw [this]
 simp only [Bool.not_true,zCF]
 unfold g_r_item_j4
 simp only [p_kindOf,obs,eqI_d]
 rw [wi_id (x:=(i:Int)+1) zo zo,show ((i:Int)+1)=((i+1:Nat):Int) from by omega,wi_id (x:=((i+1:Nat):Int)+1) zo zo,show (((i+1:Nat):Int)+1)=((i+2:Nat):Int) from by omega]
 have hat:=p_attrs n T (i+2) len ⟨T,(i:Int),len,ds⟩ hT zo hn
 have hat9:=p_attrs9 n T (i+2) len ⟨T,(i:Int),len,ds⟩ hT zo hn
 have hl:(T.drop i).length=T.length - i:=zLD
 have hF:attF (T.length - (i+2)+1) (T.drop (i+2))=attF ((T.drop i).length+1) ((T.drop i).drop 2):=by
  rw [← drop_drop',attF_fuel _ ((T.drop i).length+1) _ (by rw [zLD]; omega) (by rw [zLD]; omega)]
 rw [hF] at hat hat9
 have hal:(attF ((T.drop i).length+1) ((T.drop i).drop 2)).2≤T.length - i - 2:=Nat.le_trans (attF_le ..) (by rw [zLD,hl]; omega)
 have hal2:=attF_len ((T.drop i).length+1) ((T.drop i).drop 2)
 generalize attF ((T.drop i).length+1) ((T.drop i).drop 2)=a at hat hat9 hal hal2 ⊢
 have hroom:roomB (List.length a.1) 64=true:=by simp [roomB]; omega
 by_cases h7:kinB (pk len (T.drop i)).Text=7
 ·rw [dzT h7,zCT]
  simp only [p_peek2,obs]
  refine bind_of hat9 ?_
  show cond (roomB (List.length ([]++a.1)) 64) _ _=_
  rw [List.nil_append,hroom,zCT]
  simp only [p_peek2,obs,cond_some,pu_b,pu_not,p_fail2,exc]
  rw [show T.drop (i+2+a.2)=(T.drop i).drop (2+a.2) from by rw [Nat.add_assoc,drop_drop']]
  rw [if_pos h7]
  cases hp:isPu 123 (pk len ((T.drop i).drop (2+a.2)))
  ·simp only [Bool.not_false,zCT]
   rw [show i+2+a.2=i+(2+a.2) from by omega]
   simp
  ·have hlt:=pu_lt hp
   simp only [Bool.not_true,zCF,if_true]
   unfold g_r_item_j17
   simp only [List.nil_append,List.append_nil,hroom,zCT]
   rw [wi_id (x:=((i+2+a.2:Nat):Int)+1) zo zo,show (((i+2+a.2:Nat):Int)+1)=((i+(3+a.2):Nat):Int) from by omega]
   have hg:=arts_gen n T len a.1 hT zo hn n (i+(3+a.2)) ((T.drop i).length+1) [] ds zo zo zq hds zo
   refine bind_of hg ?_
   show g_r_item_j6 _ _ _ _ _ _ _ _=_
   unfold g_r_item_j6
   rw [List.nil_append,drop_drop',h7]
   generalize artsF ((T.drop i).length+1) len ds ((T.drop i).drop (3+a.2))=z
   rw [show i+(3+a.2)+z.2.1=i+(3+a.2+z.2.1) from by omega]
 ·rw [dzF h7,zCF]
  simp only [p_peek2,obs]
  refine bind_of hat ?_
  show cond (roomB (List.length ([]++a.1)) 64) _ _=_
  rw [List.nil_append,hroom,zCT]
  simp only [p_peek2,obs,cond_some,pu_b,pu_not,p_fail2,exc]
  rw [show T.drop (i+2+a.2)=(T.drop i).drop (2+a.2) from by rw [Nat.add_assoc,drop_drop']]
  rw [if_neg h7]
  cases hp:isPu 59 (pk len ((T.drop i).drop (2+a.2)))
  ·simp only [Bool.not_false,zCT]
   rw [show i+2+a.2=i+(2+a.2) from by omega]
   simp
  ·have hlt:=pu_lt hp
   simp only [Bool.not_true,zCF,if_true]
   unfold g_r_item_j46 g_r_item_j35
   simp only [List.nil_append,List.append_nil,hroom,zCT]
   rw [wi_id (x:=((i+2+a.2:Nat):Int)+1) zo zo,show (((i+2+a.2:Nat):Int)+1)=((i+(3+a.2):Nat):Int) from by omega]
theorem whl_all {α:Type} {p:α→Bool} (l:List α):∀ x ∈ l.takeWhile p,p x=true:=by
 induction l with
 | nil=>intro x hx; cases hx
 | cons c r ih =>
  intro x hx
  rw [List.takeWhile_cons] at hx
  split at hx
  ·rename_i h
   rcases List.mem_cons.1 hx with rfl | hx
   ·exact h
   ·exact ih x hx
  ·cases hx
theorem whl_split {α:Type} {p:α→Bool} (l:List α):l=l.takeWhile p++l.drop (l.takeWhile p).length:=by
 induction l with
 | nil=>rfl
 | cons c r ih =>
  rw [List.takeWhile_cons]
  split
  ·simp only [List.cons_append,zLC,List.drop_succ_cons,List.cons.injEq,true_and]; exact ih
  ·rfl
inductive ArtT:List GTk→GN→Prop
 | mk {t e:GTk} {v:List GTk}:t.Kind=1→arkB t.Text=true→(∀ x ∈ v,okV true x=true)→isPu 59 e=true→ArtT (t :: (v++[e])) ⟨4,t.Text,0,t.At,v.map vcs⟩
inductive Atts:List GTk→List (List PV)→Prop
 | nil:Atts [] []
 | cons {t:GTk} {v r:List GTk} {xs:List (List PV)}:t.Kind=1→attB t.Text=true→(∀ x ∈ v,okV false x=true)→Atts r xs→Atts (t :: (v++r)) (GN.cs ⟨3,t.Text,0,t.At,v.map vcs⟩ :: xs)
inductive Arts:List GTk→List (List PV)→Prop
 | nil {e:GTk}:isPu 125 e=true→Arts [e] []
 | cons {a r:List GTk} {x:GN} {xs:List (List PV)}:ArtT a x→Arts r xs→Arts (a++r) (GN.cs x :: xs)
inductive ItemT:List GTk→GN→Prop
 | plain {t m e:GTk} {a:List GTk} {xs:List (List PV)}:t.Kind=1→kinB t.Text ≠ 0→kinB t.Text ≠ 7→m.Kind=1→keyB m.Text=false→Atts a xs→isPu 59 e=true→ItemT (t :: m :: (a++[e])) ⟨2,m.Text,kinB t.Text,t.At,xs⟩
 | tariff {t m e:GTk} {a b:List GTk} {xs ys:List (List PV)}:t.Kind=1→kinB t.Text=7→m.Kind=1→keyB m.Text=false→Atts a xs→isPu 123 e=true→Arts b ys→ItemT (t :: m :: (a++e :: b)) ⟨2,m.Text,7,t.At,xs++ys⟩
inductive Items:List GTk→List (List PV)→Prop
 | nil:Items [] []
 | cons {a r:List GTk} {x:GN} {xs:List (List PV)}:ItemT a x→Items r xs→Items (a++r) (GN.cs x :: xs)
theorem pu_kind {c:UInt8} {t:GTk} (h:isPu c t=true):t.Kind=3∧t.Text=[c]:=of_decide_eq_true h
theorem pk_cons (len:Int) (t:GTk) (r:List GTk):pk len (t :: r)=t:=rfl
theorem drop_len {α:Type} (a b:List α) (k:Nat) (h:k=a.length):(a++b).drop k=b:=by subst h; exact List.drop_left
theorem artF_B {len:Int} {r:List GTk} {x:GN} {k:Nat} (h:artF len r=.ok (x,k)):∃ a q,r=a++q∧a.length=k∧ArtT a x:=by
 unfold artF at h
 split at h
 ·rename_i h1
  split at h
  ·rename_i h2
   simp only [Except.ok.injEq,zPJ] at h
   obtain ⟨rfl,rfl⟩:=h
   have h0:0 < r.length:=k1_lt (j:=0) (len:=len) h1.1
   cases r with
   | nil=>exact absurd h0 zq
   | cons t r =>
    simp only [pk_cons,List.drop_succ_cons,List.drop_zero] at h1 h2 ⊢
    rw [Nat.add_comm 1,List.drop_succ_cons] at h2
    have hs:=whl_split (p:=okV true) r
    have ha:=whl_all (p:=okV true) r
    unfold vals at h2 ⊢
    generalize r.takeWhile (okV true)=v at hs ha h2 ⊢
    cases hq:r.drop v.length with
    | nil=>rw [hq] at h2; exact absurd (pu_kind h2).1 (by simp [pk,zTok])
    | cons e q =>
     rw [hq,pk_cons] at h2
     rw [hq] at hs
     refine ⟨t :: (v++[e]),q,by rw [hs]; simp,by simp; omega, .mk h1.1 h1.2 ha h2⟩
  ·cases h
 ·cases h
theorem attF_B:∀ (f:Nat) (r:List GTk),r.length < f→∃ a q,r=a++q∧a.length=(attF f r).2∧Atts a (attF f r).1∧∀ d ∈ q.head?,¬ (d.Kind=1∧attB d.Text=true)
 | 0,_,h=>absurd h (Nat.not_lt_zero _)
 | f+1,[],_=>⟨[],[],rfl,rfl, .nil,fun d hd=>by cases hd⟩
 | f+1,t :: r,hf=>by
  have e:attF (f+1) (t :: r)=if t.Kind=1∧attB t.Text=true then
   (GN.cs ⟨3,t.Text,0,t.At,(vals false r).map vcs⟩ :: (attF f (r.drop (vals false r).length)).1,1+(vals false r).length+(attF f (r.drop (vals false r).length)).2)
   else ([],0):=rfl
  rw [e]
  simp only [zLC] at hf
  by_cases h:t.Kind=1∧attB t.Text=true
  ·rw [if_pos h]
   have hs:=whl_split (p:=okV false) r
   have ha:=whl_all (p:=okV false) r
   unfold vals
   generalize r.takeWhile (okV false)=v at hs ha ⊢
   obtain ⟨a,q,e1,e2,e3,e4⟩:=attF_B f (r.drop v.length) (by rw [zLD]; omega)
   refine ⟨t :: (v++a),q,?_,?_, .cons h.1 h.2 ha e3,e4⟩
   ·rw [hs,e1]; simp
   ·simp only [zLC,zLA,e2]; omega
  ·rw [if_neg h]
   exact ⟨[],t :: r,rfl,rfl, .nil,fun d hd=>by simp only [List.head?_cons,Option.mem_def,sie] at hd; subst hd; exact h⟩
theorem artsF_e (f:Nat) (len:Int) (ds:List GDg) (r:List GTk):artsF (f+1) len ds r=if 20≤ds.length then ([],0,ds) else if isPu 125 (pk len r) then ([],1,ds) else match artF len r with
      | .ok (x,k)=>let z:=artsF f len ds (r.drop k); (GN.cs x :: z.1,k+z.2.1,z.2.2)
      | .error (e,k)=>let m:=skipF (r.drop k)
        if m.1 ≠ [59] then ([],k+m.2,ds++[⟨7,e⟩]) else
          let z:=artsF f len (ds++[⟨7,e⟩]) (r.drop (k+m.2)); (z.1,k+m.2+z.2.1,z.2.2):=rfl
theorem artsF_mono:∀ (f:Nat) (len:Int) (ds:List GDg) (r:List GTk),ds.length≤(artsF f len ds r).2.2.length
 | 0,_,_,r=>by simp [artsF]
 | f+1,len,ds,r=>by
  rw [artsF_e]
  split
  ·exact zNR _
  split
  ·exact zNR _
  split
  ·exact artsF_mono f len ds _
  ·simp only
   split
   ·simp
   ·refine Nat.le_trans ?_ (artsF_mono f len _ _)
    simp
theorem artsF_pre:∀ (f:Nat) (len:Int) (ds:List GDg) (r:List GTk),∃ es,(artsF f len ds r).2.2=ds++es
 | 0,_,_,r=>⟨[],by simp [artsF]⟩
 | f+1,len,ds,r=>by
  rw [artsF_e]
  split
  ·exact ⟨[],by simp⟩
  split
  ·exact ⟨[],by simp⟩
  split
  ·exact artsF_pre f len ds _
  ·rename_i e k _
   simp only
   split
   ·exact ⟨[⟨7,e⟩],rfl⟩
   ·obtain ⟨es,h⟩:=artsF_pre f len (ds++[(⟨7,e⟩:GDg)]) (r.drop (k+(skipF (r.drop k)).2))
    exact ⟨⟨7,e⟩ :: es,by rw [h]; simp⟩
theorem itemF_pre {len:Int} {ds ds':List GDg} {r:List GTk} {x:GN} {k:Nat} (h:itemF len ds r=.ok (x,k,ds')):∃ es,ds'=ds++es:=by
 unfold itemF at h
 split at h
 rotate_left
 ·cases h
 split at h
 rotate_left
 ·cases h
 simp only at h
 generalize attF (r.length+1) (r.drop 2)=A at h
 split at h
 ·split at h
  rotate_left
  ·cases h
  simp only [Except.ok.injEq,zPJ] at h
  obtain ⟨rfl,rfl,rfl⟩:=h
  exact artsF_pre _ _ _ _
 ·split at h
  rotate_left
  ·cases h
  simp only [Except.ok.injEq,zPJ] at h
  obtain ⟨rfl,rfl,rfl⟩:=h
  exact ⟨[],by simp⟩
theorem itemF_ds {len:Int} {ds ds':List GDg} {r:List GTk} {x:GN} {k:Nat} (h:itemF len ds r=.ok (x,k,ds')) (hl:ds'.length≤ds.length):ds'=ds:=by
 obtain ⟨es,rfl⟩:=itemF_pre h
 rw [zLA] at hl
 have:es=[]:=List.eq_nil_of_length_eq_zero zo
 rw [this,List.append_nil]
theorem artsF_B:∀ (f:Nat) (len:Int) (ds:List GDg) (r:List GTk),r.length < f→ds.length < 20→(artsF f len ds r).2.2=ds→∃ a q,r=a++q∧a.length=(artsF f len ds r).2.1∧Arts a (artsF f len ds r).1
 | 0,_,_,_,h,_,_=>absurd h (Nat.not_lt_zero _)
 | f+1,len,ds,r,hf,hd,he=>by
  rw [artsF_e] at he ⊢
  rw [if_neg zo] at he ⊢
  by_cases hb:isPu 125 (pk len r)=true
  ·rw [if_pos hb]
   have:0 < r.length:=pu_lt (j:=0) hb
   cases r with
   | nil=>exact absurd this zq
   | cons t q=>exact ⟨[t],q,rfl,rfl, .nil hb⟩
  rw [if_neg hb] at he ⊢
  cases hA:artF len r with
  | ok y =>
   obtain ⟨x,k⟩:=y
   rw [hA] at he
   simp only at he ⊢
   obtain ⟨a,q,rfl,rfl,ha⟩:=artF_B hA
   have hpos:0 < a.length:=by cases ha; simp
   rw [drop_len a _ _ rfl] at he ⊢
   simp only [zLA] at hf
   obtain ⟨b,q',e1,e2,e3⟩:=artsF_B f len ds q zo hd he
   exact ⟨a++b,q',by rw [e1]; simp,by rw [zLA,e2], .cons ha e3⟩
  | error y =>
   obtain ⟨e,k⟩:=y
   rw [hA] at he
   simp only at he
   exfalso
   split at he
   ·have:=congrArg List.length he
    simp at this
   ·have:=artsF_mono f len (ds++[(⟨7,e⟩:GDg)]) (r.drop (k+(skipF (r.drop k)).2))
    rw [he] at this
    simp at this
    omega
theorem itemF_B {len:Int} {ds:List GDg} {r:List GTk} {x:GN} {k:Nat} (hd:ds.length < 20) (h:itemF len ds r=.ok (x,k,ds)):∃ a q,r=a++q∧a.length=k∧ItemT a x:=by
 unfold itemF at h
 split at h
 rotate_left
 ·cases h
 rename_i h1
 split at h
 rotate_left
 ·cases h
 rename_i h2
 have hl2:1 < r.length:=k1_lt (len:=len) (j:=1) h2.1
 obtain ⟨t,m,r,rfl⟩:∃ t m r',r=t :: m :: r':=by
  cases r with
  | nil=>simp at hl2
  | cons t r =>
   cases r with
   | nil=>simp at hl2
   | cons m r=>exact ⟨t,m,r,rfl⟩
 simp only [pk_cons,List.drop_succ_cons,List.drop_zero] at h1 h2 h
 obtain ⟨a,q,e1,e2,e3,e4⟩:=attF_B ((t :: m :: r).length+1) r (by simp only [zLC]; omega)
 generalize attF ((t :: m :: r).length+1) r=A at e2 e3 h
 subst e1
 rw [← e2] at h
 rw [show (t :: m :: (a++q)).drop (2+a.length)=q from by rw [Nat.add_comm 2,List.drop_succ_cons,List.drop_succ_cons,drop_len a _ _ rfl],show (t :: m :: (a++q)).drop (3+a.length)=q.drop 1 from by rw [show 3+a.length=a.length+1+2 from by omega,List.drop_succ_cons,List.drop_succ_cons,← List.drop_drop,drop_len a _ _ rfl]] at h
 split at h
 ·rename_i h7
  split at h
  rotate_left
  ·cases h
  rename_i hp
  have hq:0 < q.length:=pu_lt (j:=0) hp
  cases q with
  | nil=>simp at hq
  | cons e q =>
   rw [pk_cons] at hp
   simp only [List.drop_succ_cons,List.drop_zero,Except.ok.injEq,zPJ] at h
   obtain ⟨rfl,rfl,h3⟩:=h
   obtain ⟨b,q',f1,f2,f3⟩:=artsF_B _ len ds q (by simp only [zLC,zLA]; omega) hd h3
   generalize artsF ((t :: m :: (a++e :: q)).length+1) len ds q=Z at f2 f3
   refine ⟨t :: m :: (a++e :: b),q',by rw [f1]; simp,?_, .tariff h1.1 h7 h2.1 h2.2 e3 hp f3⟩
   simp only [zLC,zLA,← f2]
   omega
 ·rename_i h7
  split at h
  rotate_left
  ·cases h
  rename_i hp
  have hq:0 < q.length:=pu_lt (j:=0) hp
  cases q with
  | nil=>simp at hq
  | cons e q =>
   rw [pk_cons] at hp
   simp only [Except.ok.injEq,zPJ] at h
   obtain ⟨rfl,rfl,_⟩:=h
   refine ⟨t :: m :: (a++[e]),q,by simp,?_, .plain h1.1 h1.2 h7 h2.1 h2.2 e3 hp⟩
   simp only [zLC,zLA,List.length_nil]
   omega
theorem itemsF_e (f:Nat) (len:Int) (ds:List GDg) (r:List GTk):itemsF (f+1) len ds r=if r=[]∨20≤ds.length then ([],ds) else match itemF len ds r with
  | .ok (x,k,ds')=>let z:=itemsF f len ds' (r.drop k); (GN.cs x :: z.1,z.2)
  | .error (e,k)=>itemsF f len (ds++[⟨7,e⟩]) (r.drop (k+(skipF (r.drop k)).2)):=rfl
theorem itemF_ok {len:Int} {ds ds':List GDg} {r:List GTk} {x:GN} {k:Nat} (h:itemF len ds r=.ok (x,k,ds')):3≤k∧k≤r.length∧ds.length≤ds'.length∧(ds.length≤20→ds'.length≤20):=by
 unfold itemF at h
 split at h
 rotate_left
 ·cases h
 split at h
 rotate_left
 ·cases h
 have hal:=attF_le (r.length+1) (r.drop 2)
 rw [zLD] at hal
 simp only at h
 generalize attF (r.length+1) (r.drop 2)=A at hal h
 split at h
 ·split at h
  rotate_left
  ·cases h
  rename_i hp
  have:=pu_lt hp
  simp only [Except.ok.injEq,zPJ] at h
  obtain ⟨rfl,rfl,rfl⟩:=h
  have hz:=artsF_le (r.length+1) len ds (r.drop (3+A.2))
  have hm:=artsF_mono (r.length+1) len ds (r.drop (3+A.2))
  rw [zLD] at hz
  omega
 ·split at h
  rotate_left
  ·cases h
  rename_i hp
  have:=pu_lt hp
  simp only [Except.ok.injEq,zPJ] at h
  obtain ⟨rfl,rfl,rfl⟩:=h
  omega
theorem itemF_err {len e:Int} {ds:List GDg} {r:List GTk} {k:Nat} (h:itemF len ds r=.error (e,k)):k≤r.length∧e=(pk len (r.drop k)).At:=by
 unfold itemF at h
 split at h
 rotate_left
 ·simp only [Except.error.injEq,zPJ] at h
  obtain ⟨rfl,rfl⟩:=h
  exact ⟨by omega,rfl⟩
 rename_i h1
 have h0:0 < r.length:=k1_lt (len:=len) (j:=0) h1.1
 split at h
 rotate_left
 ·simp only [Except.error.injEq,zPJ] at h
  obtain ⟨rfl,rfl⟩:=h
  exact ⟨by omega,rfl⟩
 rename_i h2
 have hl2:1 < r.length:=k1_lt (len:=len) (j:=1) h2.1
 have hal:=attF_le (r.length+1) (r.drop 2)
 rw [zLD] at hal
 simp only at h
 generalize attF (r.length+1) (r.drop 2)=A at hal h
 split at h
 ·split at h
  ·cases h
  ·simp only [Except.error.injEq,zPJ] at h
   obtain ⟨rfl,rfl⟩:=h
   exact ⟨by omega,rfl⟩
 ·split at h
  ·cases h
  ·simp only [Except.error.injEq,zPJ] at h
   obtain ⟨rfl,rfl⟩:=h
   exact ⟨by omega,rfl⟩
theorem itemsF_mono:∀ (f:Nat) (len:Int) (ds:List GDg) (r:List GTk),ds.length≤(itemsF f len ds r).2.length∧(ds.length≤20→(itemsF f len ds r).2.length≤20)
 | 0,_,_,r=>by simp [itemsF]
 | f+1,len,ds,r=>by
  rw [itemsF_e]
  split
  ·exact ⟨zNR _,fun h=>h⟩
  rename_i h0
  cases hI:itemF len ds r with
  | ok y =>
   obtain ⟨x,k,ds'⟩:=y
   have:=itemF_ok hI
   have:=itemsF_mono f len ds' (r.drop k)
   simp only
   omega
  | error y =>
   obtain ⟨e,k⟩:=y
   have:=itemsF_mono f len (ds++[(⟨7,e⟩:GDg)]) (r.drop (k+(skipF (r.drop k)).2))
   simp only [zLA,List.length_singleton] at this ⊢
   omega
theorem itemsF_B:∀ (f:Nat) (len:Int) (ds:List GDg) (r:List GTk),r.length < f→ds.length < 20→(itemsF f len ds r).2=ds→Items r (itemsF f len ds r).1
 | 0,_,_,_,h,_,_=>absurd h (Nat.not_lt_zero _)
 | f+1,len,ds,r,hf,hd,he=>by
  rw [itemsF_e] at he ⊢
  by_cases h0:r=[]
  ·subst h0
   rw [if_pos (.inl rfl)]
   exact .nil
  have h0':¬ (r=[]∨20≤ds.length):=by
   rintro (h | h)
   ·exact h0 h
   ·omega
  rw [if_neg h0'] at he ⊢
  cases hI:itemF len ds r with
  | ok y =>
   obtain ⟨x,k,ds'⟩:=y
   rw [hI] at he
   simp only at he ⊢
   have h1:=itemF_ok hI
   have h2:=itemsF_mono f len ds' (r.drop k)
   rw [he] at h2
   obtain rfl:ds'=ds:=by
    have h3:=h1.2.2.1
    have h4:=h2.1
    exact itemF_ds hI zo
   obtain ⟨a,q,rfl,rfl,ha⟩:=itemF_B hd hI
   have hpos:0 < a.length:=by omega
   rw [drop_len a _ _ rfl] at he ⊢
   simp only [zLA] at hf
   exact .cons ha (itemsF_B f len ds' q zo hd he)
  | error y =>
   obtain ⟨e,k⟩:=y
   rw [hI] at he
   simp only at he
   exfalso
   have:=(itemsF_mono f len (ds++[(⟨7,e⟩:GDg)]) (r.drop (k+(skipF (r.drop k)).2))).1
   rw [he] at this
   simp at this
   omega
theorem lpN_s {V R:Type} (B:(V→Option R)→V→Option R) (n:Nat) (v:V):loopN B (n+1) v=B (loopN B n) v:=rfl
def treeP:Nat→GN→Prop
 | 0,_=>False
 | d+1,x=>x.Kids.length≤10000∧(0≤x.At∧x.At≤100000)∧∀ k ∈ x.Kids,∃ y,GN.of k=some y∧treeP d y
theorem treeP_s (d:Nat) (x:GN):treeP (d+1) x=(x.Kids.length≤10000∧(0≤x.At∧x.At≤100000)∧∀ k ∈ x.Kids,∃ y,GN.of k=some y∧treeP d y):=rfl
theorem kidP_at {d:Nat} {l:List (List PV)} (h:∀ k ∈ l,∃ y,GN.of k=some y∧treeP d y) {i:Nat} (hi:i < l.length):∃ y,Option.bind (getI l (i:Int)) GN.of=some y∧treeP d y∧GN.of (l[i]'hi)=some y:=by
 obtain ⟨y,e,t⟩:=h (l[i]'hi) (List.getElem_mem hi)
 refine ⟨y,?_,t,e⟩
 rw [getI_nat,List.getElem?_eq_getElem hi]
 exact e
theorem le_lt (a b:Int):leI a b=!ltI b a:=by
 unfold leI ltI
 by_cases h:a≤b
 ·rw [dzT h,dzF zo]; rfl
 ·rw [dzF h,dzT zo]; rfl
theorem count_eq:∀ (n d:Nat) (x:GN) (l:Int),treeP d x→g_p_count n x l=g_ref02_Count n x l
 | 0,_,_,_,_=>rfl
 | n+1,0,_,_,h=>h.elim
 | n+1,d+1,x,l,h=>by
  obtain ⟨hl,_,hk⟩:=(treeP_s d x ▸ h)
  show g_p_count_body n (g_p_count n) x l=g_ref02_Count_body n (g_ref02_Count n) x l
  have ih:=fun y l hy=>count_eq n d y l hy
  generalize g_p_count n=A at ih ⊢
  generalize g_ref02_Count n=B at ih ⊢
  unfold g_p_count_body g_ref02_Count_body
  have key:∀ (j:Nat) (s:Int) (i:Nat),i≤x.Kids.length→loopN (fun recl1 (v:Int × Int)=>g_p_count_l1 x l A recl1 v.1 v.2) j (s,(i:Int))=loopN (fun recl1 (v:Int × Int)=>g_ref02_Count_l1 x l B recl1 v.1 v.2) j (s,(i:Int)):=by
   intro j
   induction j with
   | zero=>intro s i _; rfl
   | succ j ihj =>
    intro s i hi
    unfold loopN
    generalize loopN (fun recl1 (v:Int × Int)=>g_p_count_l1 x l A recl1 v.1 v.2) j=L1 at ihj ⊢
    generalize loopN (fun recl1 (v:Int × Int)=>g_ref02_Count_l1 x l B recl1 v.1 v.2) j=L2 at ihj ⊢
    show g_p_count_l1 x l A L1 s (i:Int)=g_ref02_Count_l1 x l B L2 s (i:Int)
    unfold g_p_count_l1 g_ref02_Count_l1
    simp only [map_idc,lenI,ltI,le_lt]
    by_cases c:i < x.Kids.length
    rotate_left
    ·rw [dzF zo]; rfl
    obtain ⟨y,hy,ty,_⟩:=kidP_at hk c
    rw [dzT zo,zCT,zCT,hy]
    simp only [obs]
    by_cases c2:l < s
    ·rw [dzT c2]; rfl
    ·rw [dzF c2]
     simp only [Bool.not_false,zCT,zCF]
     rw [ih y _ ty]
     congr 1
     funext r
     rw [wi_id (x:=(i:Int)+1) zo zo]
     exact ihj _ (i+1) c
  exact key n 1 0 (Nat.zero_le _)
theorem count_totP:∀ (m n d:Nat) (x:GN) (most:Int),treeP d x→0≤most→most≤m→m≤1000000→m+3≤n→Does (g_ref02_Count n x most) (fun r=>1≤r∧r≤most+1):=by
 intro m
 induction m with
 | zero =>
  intro n d x most ht h0 h1 h2 h3
  obtain ⟨n,rfl⟩:∃ q,n=q+1+1:=⟨n - 2,by omega⟩
  obtain rfl:most=0:=by omega
  refine ⟨1,?_,by omega,by omega⟩
  unfold g_ref02_Count g_ref02_Count_body
  rw [lpN_s]
  unfold g_ref02_Count_l1
  simp only [show leI 1 0=false from rfl,cond_some,obs]
  cases ltI 0 (lenI (List.map idc x.Kids)) <;> rfl
 | succ m ih =>
  intro n d x most ht h0 h1 h2 h3
  obtain ⟨n,rfl⟩:∃ q,n=q+1:=⟨n - 1,by omega⟩
  cases d with
  | zero=>exact ht.elim
  | succ e =>
  obtain ⟨hl,_,hk⟩:=(treeP_s e x ▸ ht)
  unfold g_ref02_Count g_ref02_Count_body
  refine does_loop (Q:=fun _ r=>1≤r∧r≤most+1) (fun v=>(most+1 - v.1).toNat) (fun v=>1≤v.1∧v.1≤most+1∧∃ i:Nat,v.2=(i:Int)∧i≤x.Kids.length) ?_ ⟨by omega,by omega,0,rfl,by omega⟩ (by simp only; omega)
  rintro rec ⟨many,idx⟩ ⟨g1,g2,i,hi,hil⟩ hrec
  simp only at g1 g2 hi hrec ⊢
  subst hi
  unfold g_ref02_Count_l1
  simp only [lenI,zLM,ltI,leI]
  by_cases c1:i < x.Kids.length
  rotate_left
  ·rw [dzF zo]
   exact does_some ⟨g1,g2⟩
  rw [dzT zo]
  by_cases c2:many≤most
  rotate_left
  ·rw [dzF c2]
   exact does_some ⟨g1,g2⟩
  rw [dzT c2]
  obtain ⟨y,hy,hty,_⟩:=kidP_at hk c1
  simp only [zCT,obs]
  rw [hy,obs,wi_id (x:=most - many) zo zo]
  refine does_bind (ih n e y (most - many) hty zo zo zo zo) ?_
  rintro r ⟨r1,r2⟩
  rw [wi_id (x:=many+r) zo zo,wi_id (x:=(i:Int)+1) zo zo]
  exact hrec (many+r,(i:Int)+1) ⟨by simp only; omega,by simp only; omega,i+1,by simp,c1⟩ (by simp only; omega)
theorem same_refl:∀ (d n:Nat) (x:GN),treeP d x→20000+d≤n→g_ref02_Same n x x=some true
 | 0,_,_,h,_=>h.elim
 | d+1,0,_,_,h=>by omega
 | d+1,n+1,x,h,hn=>by
  obtain ⟨hl,_,hk⟩:=(treeP_s d x ▸ h)
  show g_ref02_Same_body n (g_ref02_Same n) x x=some true
  have ih:=fun y hy=>same_refl d n y hy zo
  generalize g_ref02_Same n=A at ih ⊢
  unfold g_ref02_Same_body
  simp only [eqI_d,decide_true,Bool.not_true,zCF,show eqS x.Name x.Name=true from by simp [eqS],obs]
  refine loop_list (l:=x.Kids) (F:=fun _=>true) zo ?_ ?_ 0 (Nat.zero_le _) zo
  ·intro rec
   unfold g_ref02_Same_l6
   simp only [map_idc,lenI,ltI]
   rw [dzF zo]; rfl
  ·intro rec i c r hd hi hlt hw hr
   obtain ⟨y,hy,ty,_⟩:=kidP_at hk hlt
   unfold g_ref02_Same_l6
   simp only [map_idc,lenI,ltI]
   rw [dzT zo,zCT,hy,obs,obs,ih y ty,obs,hw,hr]
   rfl
theorem of_cs1 (x:GN):GN.of (GN.cs x)=some x:=of_cs' _ _ _ _ _
def atB (l:List GTk):Prop:=∀ t ∈ l,0≤t.At∧t.At≤100000
theorem atB_app {a b:List GTk}:atB (a++b)↔atB a∧atB b:=by
 unfold atB
 simp only [List.mem_append]
 exact ⟨fun h=>⟨fun t ht=>h t (.inl ht),fun t ht=>h t (.inr ht)⟩,fun h t ht=>ht.elim (h.1 t) (h.2 t)⟩
theorem atB_cons {t:GTk} {b:List GTk}:atB (t :: b)↔(0≤t.At∧t.At≤100000)∧atB b:=by
 unfold atB
 simp
def goodK (d:Nat) (xs:List (List PV)):Prop:=∀ k ∈ xs,∃ y,GN.of k=some y∧treeP d y
theorem good_cons {d:Nat} {x:GN} {xs:List (List PV)} (h:treeP d x) (h':goodK d xs):goodK d (GN.cs x :: xs):=by
 intro k hk
 rcases List.mem_cons.1 hk with rfl | hk
 ·exact ⟨x,of_cs1 x,h⟩
 ·exact h' k hk
theorem good_app {d:Nat} {xs ys:List (List PV)} (h:goodK d xs) (h':goodK d ys):goodK d (xs++ys):=by
 intro k hk
 rcases List.mem_append.1 hk with hk | hk
 ·exact h k hk
 ·exact h' k hk
theorem vals_good {v:List GTk} (h:atB v):goodK 1 (v.map vcs):=by
 intro k hk
 obtain ⟨t,ht,rfl⟩:=List.mem_map.1 hk
 refine ⟨vnode t,of_cs1 _,?_⟩
 rw [treeP_s]
 have:=h t ht
 unfold vnode
 split
 ·exact ⟨by simp,this,by simp⟩
 ·exact ⟨by simp,this,by simp⟩
theorem ArtT_good {a:List GTk} {x:GN} (h:ArtT a x) (hl:a.length≤10000) (hb:atB a):treeP 2 x:=by
 cases h with
 | mk h1 h2 h3 h4 =>
  simp only [zLC,zLA,List.length_nil] at hl
  rw [atB_cons,atB_app] at hb
  rw [treeP_s]
  exact ⟨by simp; omega,hb.1,vals_good hb.2.1⟩
theorem Atts_good {a:List GTk} {xs:List (List PV)} (h:Atts a xs) (hl:a.length≤10000) (hb:atB a):goodK 2 xs∧xs.length≤a.length:=by
 induction h with
 | nil=>exact ⟨fun k hk=>(by cases hk),zNR _⟩
 | cons h1 h2 h3 h4 ih =>
  simp only [zLC,zLA] at hl
  rw [atB_cons,atB_app] at hb
  have:=ih zo hb.2.2
  refine ⟨good_cons ?_ this.1,by simp only [zLC,zLA]; omega⟩
  rw [treeP_s]
  exact ⟨by simp; omega,hb.1,vals_good hb.2.1⟩
theorem Arts_good {a:List GTk} {xs:List (List PV)} (h:Arts a xs) (hl:a.length≤10000) (hb:atB a):goodK 2 xs∧xs.length≤a.length:=by
 induction h with
 | nil=>exact ⟨fun k hk=>(by cases hk),by simp⟩
 | cons h1 h2 ih =>
  simp only [zLA] at hl
  rw [atB_app] at hb
  have:=ih zo hb.2
  have hp:=ArtT_good h1 zo hb.1
  refine ⟨good_cons hp this.1,?_⟩
  cases h1
  simp only [zLC,zLA]
  omega
theorem ItemT_good {a:List GTk} {x:GN} (h:ItemT a x) (hl:a.length≤10000) (hb:atB a):treeP 3 x:=by
 cases h with
 | plain h1 h2 h3 h4 h5 h6 h7 =>
  simp only [zLC,zLA,List.length_nil] at hl
  rw [atB_cons,atB_cons,atB_app] at hb
  have:=Atts_good h6 zo hb.2.2.1
  rw [treeP_s]
  exact ⟨by simp only; omega,hb.1,this.1⟩
 | tariff h1 h2 h4 h5 h6 h7 h8 =>
  simp only [zLC,zLA] at hl
  rw [atB_cons,atB_cons,atB_app,atB_cons] at hb
  have hA:=Atts_good h6 zo hb.2.2.1
  have hB:=Arts_good h8 zo hb.2.2.2.2
  rw [treeP_s]
  exact ⟨by simp only [zLA]; omega,hb.1,good_app hA.1 hB.1⟩
theorem Items_good {a:List GTk} {xs:List (List PV)} (h:Items a xs) (hl:a.length≤10000) (hb:atB a):goodK 3 xs∧xs.length≤a.length:=by
 induction h with
 | nil=>exact ⟨fun k hk=>(by cases hk),by simp⟩
 | cons h1 h2 ih =>
  simp only [zLA] at hl
  rw [atB_app] at hb
  have:=ih zo hb.2
  refine ⟨good_cons (ItemT_good h1 zo hb.1) this.1,?_⟩
  cases h1 <;> simp only [zLC,zLA] <;> omega
theorem items_gen (n:Nat) (T:List GTk) (len:Int) (hT:T.length≤2100) (hn:10000≤n) :
  ∀ (j i f:Nat) (acc:List (List PV)) (ds:List GDg),T.length - i < j→i≤T.length→acc.length≤i→ds.length≤20→T.length - i < f →
   ∃ i':Int,loopN (fun recl4 (v:List (List PV) × List GTk × Int × Int × List GDg)=>g_p_Parse_l4 n recl4 v.1 v.2.1 v.2.2.1 v.2.2.2.1 v.2.2.2.2) j (acc,T,(i:Int),len,ds)=some (acc++(itemsF f len ds (T.drop i)).1,T,i',len,(itemsF f len ds (T.drop i)).2):=by
 intro j
 induction j with
 | zero=>intro i f acc ds h; omega
 | succ j ih =>
  intro i f acc ds h1 h2 h3 h4 h5
  obtain ⟨f,rfl⟩:∃ f',f=f'+1:=⟨f - 1,by omega⟩
  unfold loopN
  generalize loopN (fun recl4 (v:List (List PV) × List GTk × Int × Int × List GDg)=>g_p_Parse_l4 n recl4 v.1 v.2.1 v.2.2.1 v.2.2.2.1 v.2.2.2.2) j=L at ih ⊢
  show ∃ i',g_p_Parse_l4 n L acc T (i:Int) len ds=_
  rw [itemsF_e]
  unfold g_p_Parse_l4
  simp only [p_full,obs,ltI,lenI,zLM,cond_some]
  by_cases h0:T.drop i=[]∨20≤ds.length
  ·rw [if_pos h0]
   have:(bif decide ((i:Int) < (T.length:Int)) then !decide (20≤ds.length) else false)=false:=by
    rcases h0 with h | h
    ·rw [List.drop_eq_nil_iff] at h
     rw [dzF zo]; rfl
    ·rw [dzT h]; cases decide ((i:Int) < (T.length:Int)) <;> rfl
   rw [this]
   exact ⟨(i:Int),by simp⟩
  rw [if_neg h0]
  have hi:i < T.length:=by
   apply Classical.byContradiction
   intro h
   exact h0 (.inl (List.drop_eq_nil_of_le zo))
  have hd:¬ 20≤ds.length:=fun h=>h0 (.inr h)
  rw [dzT zo,dzF hd]
  simp only [Bool.not_false,zCT]
  rw [p_item n T i len ds hT h2 h4 hn]
  have hroom:∀ z:List PV,roomB (List.length (acc++[z])) 64=true:=by intro z; simp [roomB]; omega
  have hroom2:∀ z:GDg,roomB (List.length (ds++[z])) 16=true:=by intro z; simp [roomB]; omega
  cases hI:itemF len ds (T.drop i) with
  | ok y =>
   obtain ⟨x,k,ds'⟩:=y
   have hk:=itemF_ok hI
   rw [zLD] at hk
   simp only [obs,exc,zCT,hroom]
   obtain ⟨i',e⟩:=ih (i+k) f (acc++[GN.cs x]) ds' zo zo (by simp; omega) (hk.2.2.2 h4) zo
   refine ⟨i',e.trans ?_⟩
   rw [drop_drop']
   simp
  | error y =>
   obtain ⟨e,k⟩:=y
   have hk:=(itemF_err hI).1
   rw [zLD] at hk
   simp only [obs,exc,hroom2,zCT]
   rw [p_skip n T (i+k) len [] hT zo hn]
   simp only [obs,zCF]
   rw [show T.drop (i+k)=(T.drop i).drop k from drop_drop' ..]
   have hs:=skip_le ((T.drop i).drop k)
   rw [zLD,zLD] at hs
   have hpos:1≤k+(skipF ((T.drop i).drop k)).2:=by
    cases k with
    | zero=>have:=skip_pos (l:=(T.drop i).drop 0) (fun h=>h0 (.inl h)); omega
    | succ k=>omega
   generalize (skipF ((T.drop i).drop k)).2=m at hs hpos ⊢
   rw [show i+k+m=i+(k+m) from by omega]
   obtain ⟨i',e'⟩:=ih (i+(k+m)) f acc (ds++[⟨7,e⟩]) zo zo zo (by simp; omega) zo
   refine ⟨i',e'.trans ?_⟩
   rw [drop_drop' T i (k+m)]
theorem itemsF_len:∀ (f:Nat) (len:Int) (ds:List GDg) (r:List GTk),(itemsF f len ds r).1.length≤r.length
 | 0,_,_,r=>by simp [itemsF]
 | f+1,len,ds,r=>by
  rw [itemsF_e]
  split
  ·simp
  rename_i h0
  cases hI:itemF len ds r with
  | ok y =>
   obtain ⟨x,k,ds'⟩:=y
   have:=itemF_ok hI
   have h2:=itemsF_len f len ds' (r.drop k)
   rw [zLD] at h2
   simp only [zLC]
   omega
  | error y =>
   obtain ⟨e,k⟩:=y
   have h2:=itemsF_len f len (ds++[(⟨7,e⟩:GDg)]) (r.drop (k+(skipF (r.drop k)).2))
   rw [zLD] at h2
   simp only
   omega
def nz:GN:=⟨0,[],0,0,[]⟩
def srcN (xs:List (List PV)):GN:=⟨1,[],0,0,xs⟩
theorem p_Parse (n:Nat) (s:List UInt8) (hn:10000≤n):g_p_Parse n s=match lexS s with
  | .error (e,p)=>cond (!eqI e 0) (some (nz,[⟨e,(p:Int)⟩])) (g_p_Parse n s)
  | .ok T=>if (itemsF (T.length+1) (s.length:Int) [] T).2 ≠ [] then some (nz,(itemsF (T.length+1) (s.length:Int) [] T).2) else
    (g_p_count n (srcN (itemsF (T.length+1) (s.length:Int) [] T).1) 1500).bind fun c=>cond (ltI 1500 c) (some (nz,[⟨2,0⟩])) (some (srcN (itemsF (T.length+1) (s.length:Int) [] T).1,[])):=by
 have hL:=l_Lex n s hn
 cases hS:lexS s with
 | error y =>
  obtain ⟨e,p⟩:=y
  rw [hS] at hL
  simp only
  cases he:!eqI e 0
  ·rfl
  ·unfold g_p_Parse
   rw [hL]
   simp only [resL,obs,he,zCT]
   rfl
 | ok T =>
  rw [hS] at hL
  obtain ⟨_,_,hT⟩:=(lexS_iff s T).1 hS
  unfold g_p_Parse
  rw [hL]
  simp only [resL,obs,List.nil_append,show (!eqI 0 0)=false from rfl,zCF]
  obtain ⟨i',e⟩:=items_gen n T (s.length:Int) zo hn n 0 (T.length+1) [] [] zo (Nat.zero_le _) zq zq zo
  rw [List.drop_zero,List.nil_append] at e
  refine bind_of (x:=((itemsF (T.length+1) (s.length:Int) [] T).1,T,i',(s.length:Int),(itemsF (T.length+1) (s.length:Int) [] T).2)) ?_ ?_
  ·refine bind_of e ?_
   show cond (roomB (List.length (itemsF (T.length+1) (s.length:Int) [] T).1) 64) _ none=_
   have:(itemsF (T.length+1) (s.length:Int) [] T).1.length≤T.length:=itemsF_len _ _ _ _
   rw [show roomB (List.length (itemsF (T.length+1) (s.length:Int) [] T).1) 64=true from by simp [roomB]; omega,zCT]
  ·show cond (ltI 0 (lenI (List.map GDg.cs (itemsF (T.length+1) (s.length:Int) [] T).2))) _ _=_
   generalize itemsF (T.length+1) (s.length:Int) [] T=Z
   simp only [ltI,lenI,zLM]
   by_cases h:Z.2=[]
   ·rw [if_neg (by simpa using h),h]
    rfl
   ·have:0 < Z.2.length:=List.length_pos_iff.2 h
    rw [if_pos h,dzT zo]
    rfl
theorem tk_err {t:List UInt8} {e:Int} (h:tkOf t=.error e):e ≠ 0:=by
 unfold tkOf at h
 repeat (first | (split at h) | (simp only [Except.error.injEq] at h; omega) | (exact nomatch h))
theorem lexF_err:∀ (f p k:Nat) (s:List UInt8) (e:Int) (q:Nat),s.length < f→lexF f p s k=.error (e,q)→e ≠ 0∧p≤q∧q≤p+s.length
 | 0,_,_,_,_,_,h,_=>absurd h (Nat.not_lt_zero _)
 | f+1,p,k,s,e,q,hf,h=>by
  have hg:=gap_le s false
  cases hd:s.drop (gapN false s) with
  | nil=>rw [lex_end _ _ _ _ hd] at h; cases h
  | cons c r =>
   rw [lex_step _ _ _ _ c r hd] at h
   split at h
   ·simp only [Except.error.injEq,zPJ] at h
    obtain ⟨rfl,rfl⟩:=h
    exact ⟨by omega,by omega,by omega⟩
   cases ht:tkOf (tkT (c :: r)) with
   | error e' =>
    rw [ht] at h
    simp only [Except.error.injEq,zPJ] at h
    obtain ⟨rfl,rfl⟩:=h
    exact ⟨tk_err ht,by omega,by omega⟩
   | ok y =>
    obtain ⟨kk,x,v⟩:=y
    rw [ht] at h
    simp only at h
    have hp:=tkT_pos ht
    have hle:=tkT_le (c :: r)
    have hlen:(c :: r).length=s.length - gapN false s:=by rw [← hd,zLD]
    cases hl:lexF f (p+gapN false s+(tkT (c :: r)).length) ((c :: r).drop (tkT (c :: r)).length) (k+1) with
    | ok l=>rw [hl] at h; cases h
    | error z =>
     rw [hl] at h
     simp only [Except.error.injEq] at h
     subst h
     have:=lexF_err f _ _ _ _ _ (by rw [zLD]; omega) hl
     rw [zLD] at this
     exact ⟨this.1,by omega,by omega⟩
theorem lexS_err {s:List UInt8} {e:Int} {q:Nat} (h:lexS s=.error (e,q)):e ≠ 0∧q≤s.length:=by
 unfold lexS at h
 split at h
 ·simp only [Except.error.injEq,zPJ] at h
  obtain ⟨rfl,rfl⟩:=h
  exact ⟨by omega,Nat.zero_le _⟩
 ·have:=lexF_err _ _ _ _ _ _ zo h
  exact ⟨this.1,by omega⟩
theorem lexS_at {s:List UInt8} {T:List GTk} (h:lexS s=.ok T):(∀ t ∈ T,0≤t.At∧t.At < (s.length:Int))∧T.Pairwise (fun a b=>a.At < b.At)∧atB T∧T.length≤2000∧s.length≤8000:=by
 obtain ⟨h1,h2,h3⟩:=(lexS_iff s T).1 h
 have:=Lx_at h2
 refine ⟨fun t ht=>?_,this.2,fun t ht=>?_,h3,h1⟩
 ·have:=this.1 t ht; omega
 ·have:=this.1 t ht; omega
theorem src_tree {s:List UInt8} {T:List GTk} {xs:List (List PV)} (h:lexS s=.ok T) (hI:Items T xs):treeP 4 (srcN xs):=by
 have hA:=lexS_at h
 have:=Items_good hI zo hA.2.2.1
 rw [treeP_s]
 exact ⟨by unfold srcN; simp only; omega,⟨by simp [srcN],by simp [srcN]⟩,this.1⟩
theorem head_02:g_law02_head 36893488147419103232=some true:=by kernel_rfl
theorem b2i_of (c:UInt8) (d:Nat) (h:b2i c=48+(d:Int)):UInt8.ofNat (48+d)=c:=by
 have h1:c.toNat=48+d:=by unfold b2i at h; omega
 rw [← h1]
 simp
theorem dec_step (a d:Nat) (ha:1≤a) (hd:d≤9):Lib.decDigits (10 * a+d)=Lib.decDigits a++[UInt8.ofNat (48+d)]:=by
 rw [Lib.decDigits,dif_neg zo]
 rw [show (10 * a+d) / 10=a from by omega,show (10 * a+d) % 10=d from by omega]
theorem val_dec:∀ (r:List UInt8) (a:Nat) (v:Int),r.all isD=true→1≤a→a≤1000000→valL (a:Int) r=some v→0≤v∧v≤1000000∧Lib.decDigits v.toNat=Lib.decDigits a++r
 | [],a,v,_,h1,h2,h=>by
  simp only [valL,sie] at h
  subst h
  exact ⟨by omega,by omega,by simp⟩
 | c :: r,a,v,hr,h1,h2,h=>by
  simp only [List.all_cons,bae] at hr
  have hc:=of_decide_eq_true hr.1
  unfold valL at h
  split at h
  ·cases h
  rename_i hb
  obtain ⟨d,hd⟩:=Int.eq_ofNat_of_zero_le (show 0≤b2i c - 48 by omega)
  rw [show 10 * (a:Int)+(b2i c - 48)=((10 * a+d:Nat):Int) from by omega] at h hb
  obtain ⟨g1,g2,g3⟩:=val_dec r (10 * a+d) v hr.2 zo zo h
  refine ⟨g1,g2,?_⟩
  rw [g3,dec_step a d h1 zo,b2i_of c d zo]
  simp
theorem num_text {c:UInt8} {r:List UInt8} {v:Int} (hD:(c :: r).all isD=true) (h0:¬ (1 < (c :: r).length∧b2i c=48)) (h:valL 0 (c :: r)=some v):0≤v∧v≤1000000∧Lib.itoa v=c :: r:=by
 simp only [List.all_cons,bae] at hD
 have hc:=of_decide_eq_true hD.1
 obtain ⟨d,hd⟩:=Int.eq_ofNat_of_zero_le (show 0≤b2i c - 48 by omega)
 unfold valL at h
 rw [show 10 * (0:Int)+(b2i c - 48)=(d:Int) from by omega] at h
 split at h
 ·cases h
 have key:0≤v∧v≤1000000∧Lib.decDigits v.toNat=c :: r:=by
  cases r with
  | nil =>
   simp only [valL,sie] at h
   subst h
   refine ⟨by omega,by omega,?_⟩
   rw [Int.toNat_natCast,Lib.decDigits,dif_pos zo,b2i_of c d zo]
  | cons e r =>
   have h1:1≤d:=by
    simp only [zLC,not_and] at h0
    have:=h0 zo
    omega
   obtain ⟨g1,g2,g3⟩:=val_dec (e :: r) d v hD.2 h1 zo h
   refine ⟨g1,g2,?_⟩
   rw [g3,Lib.decDigits,dif_pos zo,b2i_of c d zo]
   rfl
 refine ⟨key.1,key.2.1,?_⟩
 unfold Lib.itoa
 rw [if_neg zo,key.2.2]
theorem tok_text {t x:List UInt8} {k v:Int} (hw:wholeT t=true) (h:tkOf t=.ok (k,x,v)):(k=2∧Lib.itoa v=t∧0≤v∧v≤1000000)∨(k ≠ 2∧x=t):=by
 cases t with
 | nil=>cases hw
 | cons c r =>
  unfold tkOf at h
  unfold wholeT at hw
  simp only at h hw
  by_cases hL:isL c=true
  ·rw [if_pos hL] at h
   split at h
   ·cases h
   ·simp only [Except.ok.injEq,zPJ] at h
    exact .inr ⟨by omega,h.2.1.symm⟩
  rw [if_neg hL] at h hw
  by_cases hD:isD c=true
  ·rw [if_pos hD] at h hw
   split at h
   ·cases h
   rename_i h0
   cases hv:valL 0 (c :: r) with
   | none=>rw [hv] at h; cases h
   | some u =>
    rw [hv] at h
    simp only [Except.ok.injEq,zPJ] at h
    obtain ⟨rfl,rfl,rfl⟩:=h
    obtain ⟨g1,g2,g3⟩:=num_text hw h0 hv
    exact .inl ⟨rfl,g3,g1,g2⟩
  ·rw [if_neg hD] at h
   split at h
   ·simp only [Except.ok.injEq,zPJ] at h
    exact .inr ⟨by omega,h.2.1.symm⟩
   ·cases h
theorem Lx_take:∀ {p:Nat} {s:List UInt8} {l:List GTk},Lx p s l→∀ k (hk:k < l.length),∃ s1 t s2:List UInt8,s=s1++(t++s2)∧(l[k]'hk).At=((p+s1.length:Nat):Int)∧wholeT t=true∧tkOf t=.ok ((l[k]'hk).Kind,(l[k]'hk).Text,(l[k]'hk).N)∧Lx p (s1++t) (l.take (k+1)):=by
 intro p s l h
 induction h with
 | nil hg=>intro k hk; simp at hk
 | @cons p g t r l k0 v y hg hw ht hst hl ih =>
  intro k hk
  cases k with
  | zero =>
   refine ⟨g,t,r,rfl,rfl,hw,ht,?_⟩
   have:=Lx.cons (p:=p) (g:=g) (t:=t) (r:=[]) (l:=[]) hg hw ht (by cases t <;> rfl) (.nil (b:=false) rfl)
   rw [List.append_nil] at this
   exact this
  | succ k =>
   simp only [zLC] at hk
   obtain ⟨s1,t',s2,e1,e2,e3,e4,e5⟩:=ih k zo
   refine ⟨g++(t++s1),t',s2,by rw [e1]; simp,?_,e3,e4,?_⟩
   ·simp only [List.getElem_cons_succ,e2,zLA]
    congr 1; omega
   ·rw [List.take_succ_cons,show g++(t++s1)++t'=g++(t++(s1++t')) from by simp]
    refine .cons hg hw ht ?_ e5
    rw [e1] at hst
    cases s1 with
    | cons d q=>cases t <;> exact hst
    | nil =>
     obtain ⟨d,q,hd,_⟩:=whole_head e3
     rw [hd] at hst ⊢
     cases t <;> exact hst
def szN:Nat→GN→Nat
 | 0,_=>0
 | d+1,x=>1+(x.Kids.map fun c=>match GN.of c with | some y=>szN d y | none=>0).sum
def szC (d:Nat) (c:List PV):Nat:=match GN.of c with | some y=>szN d y | none=>0
theorem szN_s (d:Nat) (x:GN):szN (d+1) x=1+(x.Kids.map (szC d)).sum:=rfl
theorem count_val:∀ (d n:Nat) (x:GN) (most:Int),treeP d x→0≤most→most≤1000000→2000000+d≤n→Does (g_ref02_Count n x most) (fun r=>((szN d x:Int)≤most→r=(szN d x:Int))∧(most < (szN d x:Int)→most < r)∧1≤r∧r≤most+1)
 | 0,_,_,_,h,_,_,_=>h.elim
 | d+1,0,_,_,_,_,_,h=>by omega
 | d+1,n+1,x,most,ht,h0,h1,hn=>by
  obtain ⟨c0,hc0,b1,b2⟩:=count_totP 1000000 (n+1) (d+1) x most ht h0 zo zo zo
  have main:Does (g_ref02_Count (n+1) x most) (fun r=>((szN (d+1) x:Int)≤most→r=(szN (d+1) x:Int))∧(most < (szN (d+1) x:Int)→most < r)):=by
   obtain ⟨hl,_,hk⟩:=(treeP_s d x ▸ ht)
   show Does (g_ref02_Count_body n (g_ref02_Count n) x most) _
   have ih:=fun y m hy h0 h1=>count_val d n y m hy h0 h1 zo
   generalize g_ref02_Count n=A at ih ⊢
   unfold g_ref02_Count_body
   rw [szN_s]
   have:=loop_does (l:=x.Kids) (fun (many:Int) (i:Int)=>(many,i)) (B:=fun recl1 (v:Int × Int)=>g_ref02_Count_l1 x most A recl1 v.1 v.2)
    (Q:=fun (many:Int) rest (r:Int)=>(many+((rest.map (szC d)).sum:Int)≤most→r=many+((rest.map (szC d)).sum:Int))∧(most < many+((rest.map (szC d)).sum:Int)→most < r))
    (fun i many=>1≤many∧many≤most+1) zo
    (by
     rintro rec many ⟨g1,g2⟩
     show Does (g_ref02_Count_l1 x most A rec many _) _
     unfold g_ref02_Count_l1
     simp only [map_idc,lenI,ltI]
     rw [dzF zo]
     exact does_some ⟨fun _=>by simp,fun h=>by simpa using h⟩)
    (by
     rintro rec many i c r ⟨g1,g2⟩ hd hi hlt hw hr
     show Does (g_ref02_Count_l1 x most A rec many (i:Int)) _
     obtain ⟨y,hy,ty,hof⟩:=kidP_at hk hlt
     have hc:c=x.Kids[i]'hlt:=by rw [List.getElem?_eq_getElem hlt] at hi; exact (Option.some.inj hi).symm
     have hsz:szC d c=szN d y:=by unfold szC; rw [hc,hof]
     unfold g_ref02_Count_l1
     simp only [map_idc,lenI,ltI,leI]
     rw [dzT zo]
     simp only [zCT,obs,zMC,List.sum_cons,hsz]
     by_cases hm:many≤most
     rotate_left
     ·rw [dzF hm]
      exact does_some ⟨fun h=>by omega,fun _=>by omega⟩
     rw [dzT hm,zCT,hy,obs,wi_id (x:=most - many) zo zo]
     refine does_bind (ih y (most - many) ty zo zo) ?_
     rintro r' ⟨q1,q2,q3,q4⟩
     rw [wi_id (x:=many+r') zo zo,hw]
     refine does_mono (hr (many+r') ⟨by omega,by omega⟩) ?_
     rintro z ⟨z1,z2⟩
     by_cases hsy:(szN d y:Int)≤most - many
     ·have:=q1 hsy
      subst this
      exact ⟨fun h=>by rw [z1 zo]; push_cast; omega,fun h=>z2 (by push_cast at h; omega)⟩
     ·have:=q2 zo
      exact ⟨fun h=>by push_cast at h; omega,fun _=>z2 zo⟩)
    (n:=n) 0 1 ⟨by omega,by omega⟩ (Nat.zero_le _) zo
   rw [List.drop_zero] at this
   refine does_mono this ?_
   rintro r ⟨r1,r2⟩
   exact ⟨fun h=>by rw [r1 (by push_cast at h; omega)]; push_cast; rfl,fun h=>r2 (by push_cast at h; omega)⟩
  obtain ⟨r,hr,m1,m2⟩:=main
  rw [hc0] at hr
  obtain rfl:=Option.some.inj hr
  exact ⟨c0,hc0,m1,m2,b1,b2⟩
def okT (x:GN):Bool:=validB x&&leI (1+((x.Kids.length:Int)+swL (kidsL x.Kids))) 1500
def vT (v:GN):List UInt8:=32 :: (if v.Kind=6 then Lib.itoa v.N else v.Name)
def vsT (l:List (List PV)):List UInt8:=(kidsL l).flatMap vT
def aT (k:GN):List UInt8:=if k.Kind=3 then 32 :: (k.Name++vsT k.Kids) else []
def cT (k:GN):List UInt8:=if k.Kind=4 then 32 :: 32 :: (k.Name++(vsT k.Kids++[59,10])) else []
def kindW (k:Int):List UInt8:=(kindsTab[k.toNat]?).getD []
def iT (x:GN):List UInt8:=kindW x.N++(32 :: (x.Name++((kidsL x.Kids).flatMap aT++(if x.N=7 then [32,123,10]++((kidsL x.Kids).flatMap cT++[125,10]) else [59,10]))))
def sT (x:GN):List UInt8:=(kidsL x.Kids).flatMap iT
def shp:Nat→GN→Prop
 | 0,_=>False
 | d+1,x=>x.Kids.length≤10000∧∀ k ∈ x.Kids,∃ y,GN.of k=some y∧shp d y
theorem shp_s (d:Nat) (x:GN):shp (d+1) x=(x.Kids.length≤10000∧∀ k ∈ x.Kids,∃ y,GN.of k=some y∧shp d y):=rfl
theorem treeP_shp:∀ (d:Nat) (x:GN),treeP d x→shp d x
 | 0,_,h=>h.elim
 | d+1,x,h=>by
  obtain ⟨h1,_,h2⟩:=(treeP_s d x ▸ h)
  exact ⟨h1,fun k hk=>by obtain ⟨y,e,t⟩:=h2 k hk; exact ⟨y,e,treeP_shp d y t⟩⟩
def stN:Nat→GN→GN
 | 0,x=>x
 | k+1,x=>⟨x.Kind,x.Name,x.N,0,x.Kids.map (fun c=>match GN.of c with | some y=>GN.cs (stN k y) | none=>c)⟩
def stC (k:Nat) (c:List PV):List PV:=match GN.of c with | some y=>GN.cs (stN k y) | none=>c
theorem stN_s (k:Nat) (x:GN):stN (k+1) x=⟨x.Kind,x.Name,x.N,0,x.Kids.map (stC k)⟩:=rfl
theorem stC_cs (k:Nat) (x:GN):stC k (GN.cs x)=GN.cs (stN k x):=by unfold stC; rw [of_cs1]
theorem stC_of {k:Nat} {c:List PV} {y:GN} (h:GN.of c=some y):stC k c=GN.cs (stN k y):=by unfold stC; rw [h]
theorem shpK_at {d:Nat} {l:List (List PV)} (h:∀ k ∈ l,∃ y,GN.of k=some y∧shp d y) {i:Nat} (hi:i < l.length):∃ y,Option.bind (getI l (i:Int)) GN.of=some y∧shp d y∧GN.of (l[i]'hi)=some y:=by
 obtain ⟨y,e,t⟩:=h (l[i]'hi) (List.getElem_mem hi)
 refine ⟨y,?_,t,e⟩
 rw [getI_nat,List.getElem?_eq_getElem hi]
 exact e
theorem st_treeP:∀ (d:Nat) (x:GN),shp d x→treeP d (stN d x)
 | 0,_,h=>h.elim
 | d+1,x,h=>by
  obtain ⟨hl,hk⟩:=(shp_s d x ▸ h)
  rw [stN_s]
  refine ⟨by simpa using hl,by simp,?_⟩
  intro k hk'
  obtain ⟨c,hc,rfl⟩:=List.mem_map.1 hk'
  obtain ⟨y,e,t⟩:=hk c hc
  exact ⟨stN d y,by rw [stC_of e,of_cs1],st_treeP d y t⟩
def shpL (d:Nat) (l:List (List PV)):Prop:=l.length≤10000∧∀ k ∈ l,∃ y,GN.of k=some y∧shp d y
theorem shpL_0 {l:List (List PV)} (h:shpL 0 l):l=[]:=by
 cases l with
 | nil=>rfl
 | cons c r=>obtain ⟨y,_,hy⟩:=h.2 c zq; exact hy.elim
theorem shp_wfB:∀ (k d:Nat) (x:GN),shp d x→d≤k+1→wfB k x=true
 | _,0,_,h,_=>h.elim
 | 0,d+1,x,h,hd=>by
  obtain rfl:d=0:=by omega
  have:=shpL_0 (l:=x.Kids) h
  unfold wfB
  rw [this]
  rfl
 | k+1,d+1,x,h,hd=>by
  unfold wfB
  rw [zAT]
  intro c hc
  obtain ⟨y,e,hy⟩:=h.2 c hc
  rw [e]
  exact shp_wfB k d y hy zo
theorem shp_wfK {d:Nat} {l:List (List PV)} (h:shpL d l) (hd:d≤900):wfK 900 l=true:=by
 unfold wfK
 rw [zAT]
 intro c hc
 obtain ⟨y,e,hy⟩:=h.2 c hc
 rw [e]
 exact shp_wfB 900 d y hy zo
theorem isSt_st:∀ (k d:Nat) (ks:List (List PV)),shpL d ks→d≤k→isSt k ks (ks.map fun c=>match d with | 0=>c | e+1=>stC (e+1) c)=true
 | 0,d,ks,h,hd=>by
  obtain rfl:d=0:=by omega
  rw [shpL_0 h]
  rfl
 | k+1,0,ks,h,hd=>by
  rw [shpL_0 h]
  rfl
 | k+1,e+1,ks,h,hd=>by
  unfold isSt
  simp only [zLM,decide_true,Bool.true_and,zAT]
  intro p hp
  obtain ⟨i,hi,rfl⟩:=List.getElem_of_mem hp
  simp only [List.length_zip,zLM] at hi
  have hi':i < ks.length:=by omega
  simp only [List.getElem_zip,List.getElem_map]
  obtain ⟨y,hy,ty⟩:=h.2 (ks[i]) (List.getElem_mem hi')
  rw [stC_of hy,of_cs1,hy]
  rw [stN_s]
  have:=isSt_st k e y.Kids ty zo
  cases e with
  | zero =>
   have h0:=shpL_0 (l:=y.Kids) ty
   cases k <;> simp [isSt,h0]
  | succ e=>simpa using this
theorem isSt_st1 {d:Nat} {ks:List (List PV)} (h:shpL d ks) (hd:d≤900):isSt 900 ks (ks.map (stC d))=true:=by
 cases d with
 | zero=>rw [shpL_0 h]; rfl
 | succ e=>exact isSt_st 900 (e+1) ks h hd
theorem strip1:∀ (d n:Nat) (x:GN),shp d x→d≤900→20000+d≤n→g_p_Strip_1 n x=some (stN d x)
 | 0,_,_,h,_,_=>h.elim
 | d+1,0,_,_,_,h=>by omega
 | d+1,n+1,x,h,hd,hn=>by
  have hk:shpL d x.Kids:=h
  show g_p_Strip_1_body n (g_p_Strip_1 n) x=_
  have ih:=fun y hy=>strip1 d n y hy zo zo
  generalize g_p_Strip_1 n=A at ih ⊢
  have hw:=shp_wfK hk zo
  have hs:=isSt_st1 hk zo
  have hl:=hk.1
  unfold g_p_Strip_1_body
  simp only [map_idc,lenI,eqI_d]
  cases h0:x.Kids with
  | nil =>
   rw [stN_s,h0]
   rfl
  | cons c r =>
   rw [← h0,dzF (by rw [h0]; simp only [zLC]; omega),zCF,zCF,hw,zCT,show getI x.Kids 0=some c from by rw [h0]; rfl,obs]
   unfold g_p_Strip_1_j3
   rw [Bool.not_false,zCT,map_idc,show makeB 0 (lenI x.Kids) 64=true from dzT (by simp only [lenI]; omega),zCT]
   have:=loop_gen (l:=x.Kids) (fun (acc:List (List PV)) (i:Int)=>(acc,i)) (B:=fun recl4 (v:List (List PV) × Int)=>g_p_Strip_1_l4 x A recl4 v.1 v.2) (F:=fun acc r=>stN (d+1) x) (fun i acc=>acc=(x.Kids.take i).map (stC d)) zo
    (by
     intro rec acc hi
     show g_p_Strip_1_l4 x A rec acc _=_
     rw [List.take_length] at hi
     unfold g_p_Strip_1_l4
     simp only [map_idc,lenI,ltI]
     rw [dzF zo,zCF,hw,zCT,hi,hs,zCT,stN_s])
    (by
     intro rec acc i c r hinv hd hi hlt hw hr
     show g_p_Strip_1_l4 x A rec acc (i:Int)=_
     obtain ⟨y,hy,ty,hof⟩:=shpK_at hk.2 hlt
     unfold g_p_Strip_1_l4
     simp only [map_idc,lenI,ltI]
     have hroom:roomB (List.length (acc++[GN.cs (stN d y)])) 64=true:=by
      rw [hinv]
      simp [roomB,List.length_take]; omega
     rw [dzT zo,zCT,hy,obs,ih y ty,obs,hroom,zCT,hw]
     refine hr _ ?_
     rw [hinv,List.take_succ_eq_append_getElem hlt,List.map_append,List.map_singleton,stC_of hof])
    (n:=n) 0 [] zq (Nat.zero_le _) zo
   exact this
def lvl (d:Nat) (L:List (List (List PV))):Prop:=∀ l ∈ L,shpL d l
theorem deep5 {d:Nat} {l:List (List PV)} {l3:Int} {rec3:List (List (List PV)) × Int→Option Bool} (hl:shpL d l) (hd:d≤900) {acc:List (List (List PV))} (h1:lvl (d - 1) acc) (h2:d≤1→acc=[]) (h3:acc.length+l.length≤1000000000000) {n:Nat} (hn:20000≤n)
  (h:∀ acc',lvl (d - 1) acc'→(d≤1→acc'=[])→acc'.length≤acc.length+l.length→rec3 (acc',wi (l3+1))=some false):loopN (fun recl5 (v:List (List (List PV)) × Int)=>g_p_tooDeep_l5 l3 rec3 l recl5 v.1 v.2) n (acc,0)=some false:=by
 have hll:=hl.1
 exact loop_gen (l:=l) (fun (acc:List (List (List PV))) (i:Int)=>(acc,i)) (B:=fun recl5 (v:List (List (List PV)) × Int)=>g_p_tooDeep_l5 l3 rec3 l recl5 v.1 v.2) (F:=fun _ _=>false) (fun i a=>lvl (d - 1) a∧(d≤1→a=[])∧a.length≤acc.length+i) zo
  (by
   intro rec a ⟨g1,g2,g3⟩
   show g_p_tooDeep_l5 l3 rec3 l rec a _=_
   unfold g_p_tooDeep_l5
   simp only [map_idc,lenI,ltI]
   rw [dzF zo,zCF,h a g1 g2 g3])
  (by
   intro rec a i c r ⟨g1,g2,g3⟩ hd' hi hlt hw hr
   show g_p_tooDeep_l5 l3 rec3 l rec a (i:Int)=_
   obtain ⟨y,hy,ty,hof⟩:=shpK_at hl.2 hlt
   obtain ⟨e,rfl⟩:∃ e,d=e+1:=by
    cases d with
    | zero=>exact ty.elim
    | succ e=>exact ⟨e,rfl⟩
   have hyk:shpL e y.Kids:=ty
   have hwk:=shp_wfK hyk zo
   have hno:rec (a,((i+1:Nat):Int))=some false:=hr a ⟨g1,g2,by omega⟩
   have hyes (he:e ≠ 0):rec (a++[y.Kids],((i+1:Nat):Int))=some false:=by
    refine hr _ ⟨?_,fun h=>by omega,by simp only [zLA,List.length_singleton]; omega⟩
    intro l' hl'
    rcases List.mem_append.1 hl' with h | h
    ·exact g1 l' h
    ·rw [List.mem_singleton.1 h]; exact hyk
   have hroom:roomB (List.length (a++[y.Kids])) 24=true:=by
    simp only [roomB,zLA,List.length_singleton]
    exact dzT zo
   unfold g_p_tooDeep_l5
   simp only [map_idc,lenI,ltI,eqI_d]
   rw [dzT zo,zCT,hy,obs,hw]
   cases h0:y.Kids with
   | nil=>exact hno
   | cons c0 r0 =>
    have he:e ≠ 0:=by
     rintro rfl
     rw [shpL_0 hyk] at h0
     cases h0
    have hyes:=hyes he
    rw [← h0,dzF (by rw [h0]; simp only [zLC]; omega),zCF,show getI y.Kids 0=some c0 from by rw [h0]; rfl,obs,hwk,zCT]
    unfold g_p_tooDeep_j9
    rw [hwk,hroom]
    simp only [zCT,zCF]
    rw [hw,hno,hyes,anyO_self]
    cases decide ((0:Int) < (y.Kids.length:Int)) <;> rfl)
  (n:=n) 0 acc ⟨h1,h2,by omega⟩ (Nat.zero_le _) zo
theorem deep3 {d:Nat} {L:List (List (List PV))} {depth:Int} {rec1:List (List (List PV)) × Int→Option Bool} (hL:lvl d L) (hd:d≤900) (hm:10000 * L.length≤1000000000000) {n:Nat} (hn:2000000000000≤n)
  (h:∀ acc',lvl (d - 1) acc'→(d≤1→acc'=[])→acc'.length≤10000 * L.length→g_p_tooDeep_j2 depth rec1 acc'=some false):loopN (fun recl3 (v:List (List (List PV)) × Int)=>g_p_tooDeep_l3 n L depth rec1 recl3 v.1 v.2) n ([],0)=some false:=by
 exact loop_gen (l:=L) (fun (acc:List (List (List PV))) (i:Int)=>(acc,i)) (B:=fun recl3 (v:List (List (List PV)) × Int)=>g_p_tooDeep_l3 n L depth rec1 recl3 v.1 v.2) (F:=fun _ _=>false) (fun i a=>lvl (d - 1) a∧(d≤1→a=[])∧a.length≤10000 * i) zo
  (by
   intro rec a ⟨g1,g2,g3⟩
   show g_p_tooDeep_l3 n L depth rec1 rec a _=_
   unfold g_p_tooDeep_l3
   simp only [lenI,ltI,zLM]
   rw [dzF zo,zCF,h a g1 g2 g3])
  (by
   intro rec a i c r ⟨g1,g2,g3⟩ hd' hi hlt hw hr
   show g_p_tooDeep_l3 n L depth rec1 rec a (i:Int)=_
   have hc:shpL d c:=hL c (by rw [← Option.some.inj ((List.getElem?_eq_getElem hlt).symm.trans hi)]; exact List.getElem_mem hlt)
   have hcl:=hc.1
   unfold g_p_tooDeep_l3
   simp only [lenI,ltI,zLM]
   rw [dzT zo,zCT,getI_nat,hi,obs]
   refine deep5 hc hd g1 g2 zo zo fun acc' q1 q2 q3=>?_
   rw [hw]
   exact hr acc' ⟨q1,q2,by omega⟩)
  (n:=n) 0 [] ⟨fun l hl=>by (cases hl),fun _=>rfl,by simp⟩ (Nat.zero_le _) zo
theorem deep1 (n:Nat) (hn:2000000000000≤n):∀ (d j depth:Nat) (L:List (List (List PV))),lvl d L→d≤900→depth+d≤900→10000 ^ d * L.length≤1000000000000→10000 * L.length≤1000000000000→d < j→loopN (fun recl1 (v:List (List (List PV)) × Int)=>g_p_tooDeep_l1 n recl1 v.1 v.2) j (L,(depth:Int))=some false
 | _,0,_,_,_,_,_,_,_,h=>absurd h (Nat.not_lt_zero _)
 | d,j+1,depth,L,hL,hd,hdd,hp,hm,hj=>by
  show g_p_tooDeep_l1 n (loopN (fun recl1 (v:List (List (List PV)) × Int)=>g_p_tooDeep_l1 n recl1 v.1 v.2) j) L (depth:Int)=_
  unfold g_p_tooDeep_l1
  rw [show leI (depth:Int) 1000=true from dzT zo,zCT]
  refine deep3 hL hd hm hn fun acc' q1 q2 q3=>?_
  unfold g_p_tooDeep_j2
  simp only [lenI,eqI_d,zLM]
  cases acc' with
  | nil=>rfl
  | cons l0 r0 =>
   rw [dzF (by simp only [zLC]; omega),zCF,wi_id zo zo]
   match d,hL,hd,hdd,hp,hj,q1,q2 with
   | 0,_,_,_,_,_,_,q2=>cases q2 zo
   | 1,_,_,_,_,_,_,q2=>cases q2 zo
   | d+2,hL,hd,hdd,hp,hj,q1,q2 =>
   refine deep1 n hn (d+1) j (depth+1) _ q1 zo zo ?_ ?_ zo
   ·refine Nat.le_trans (Nat.mul_le_mul_left _ q3) ?_
    rw [← Nat.mul_assoc,← Nat.pow_succ]
    exact hp
   ·refine Nat.le_trans (Nat.mul_le_mul_left _ q3) (Nat.le_trans ?_ hp)
    rw [← Nat.mul_assoc]
    refine Nat.mul_le_mul_right _ ?_
    rw [Nat.pow_succ,Nat.pow_succ,Nat.mul_assoc]
    exact Nat.le_mul_of_pos_left _ (Nat.pow_pos zo)
theorem strip_ok {n d:Nat} {x:GN} (h:shp d x) (hd:d≤4) (hn:2000000000000≤n):g_p_Strip n x=some (stN d x):=by
 obtain ⟨e,rfl⟩:∃ e,d=e+1:=by
  cases d with
  | zero=>exact h.elim
  | succ e=>exact ⟨e,rfl⟩
 have h1:g_p_tooDeep n x=some false:=by
  unfold g_p_tooDeep
  refine deep1 n hn e n 0 [x.Kids] ?_ zo zo ?_ zq zo
  ·intro l hl
   rw [List.mem_singleton.1 hl]
   exact h
  ·have:10000 ^ e≤10000 ^ 3:=Nat.pow_le_pow_right zo zo
   simp only [List.length_singleton]
   omega
 unfold g_p_Strip
 rw [h1,obs,zCF,strip1 _ n x h zo zo]
 rfl
def zT (t:GTk):GTk:=⟨t.Kind,t.Text,t.N,0⟩
def zD (d:GDg):GDg:=⟨d.Err,0⟩
theorem pk_z (len:Int) (r:List GTk):pk 0 (r.map zT)=zT (pk len r):=by cases r <;> rfl
theorem zPu (c:UInt8) (t:GTk):isPu c (zT t)=isPu c t:=rfl
theorem vals_z (w:Bool) (r:List GTk):vals w (r.map zT)=(vals w r).map zT:=by
 unfold vals
 rw [List.takeWhile_map]
 rfl
theorem vcs_z (t:GTk):vcs (zT t)=stC 1 (vcs t):=by
 have h:vnode (zT t)=stN 1 (vnode t):=by
  unfold vnode
  rw [show (zT t).Kind=t.Kind from rfl]
  split <;> rfl
 unfold vcs
 rw [stC_cs,h]
theorem map_vz (v:List GTk):(v.map zT).map vcs=(v.map vcs).map (stC 1):=by
 rw [List.map_map,List.map_map]
 exact List.map_congr_left fun t _=>vcs_z t
theorem artF_z (len:Int) (r:List GTk):artF 0 (r.map zT)=match artF len r with
  | .ok (x,k)=>.ok (stN 2 x,k)
  | .error (e,k)=>.error (0,k):=by
 unfold artF
 simp only [← List.map_drop,pk_z len,vals_z,zLM,zPu,map_vz]
 rw [show (zT (pk len r)).Kind=(pk len r).Kind from rfl,show (zT (pk len r)).Text=(pk len r).Text from rfl]
 split
 ·split
  ·simp only [stN_s]
   rfl
  ·rfl
 ·rfl
theorem attF_z:∀ (f:Nat) (r:List GTk),attF f (r.map zT)=((attF f r).1.map (stC 2),(attF f r).2)
 | 0,_=>rfl
 | _+1,[]=>rfl
 | f+1,t :: q=>by
  rw [zMC]
  unfold attF
  rw [show (zT t).Kind=t.Kind from rfl,show (zT t).Text=t.Text from rfl]
  split
  ·rw [vals_z,zLM,← List.map_drop,attF_z f,map_vz]
   simp only [zMC,stC_cs,stN_s]
   rfl
  ·rfl
theorem skipF_z:∀ r:List GTk,skipF (r.map zT)=skipF r
 | []=>rfl
 | t :: r=>by
  rw [zMC,skip_cons,skip_cons,skipF_z r]
  rfl
theorem artsF_z:∀ (f:Nat) (len:Int) (ds:List GDg) (r:List GTk),artsF f 0 (ds.map zD) (r.map zT)=((artsF f len ds r).1.map (stC 2),(artsF f len ds r).2.1,(artsF f len ds r).2.2.map zD)
 | 0,_,_,_=>rfl
 | f+1,len,ds,r=>by
  rw [artsF_e,artsF_e,zLM,pk_z len,zPu]
  split
  ·rfl
  split
  ·rfl
  rw [artF_z len]
  cases artF len r with
  | ok y =>
   obtain ⟨x,k⟩:=y
   simp only
   rw [← List.map_drop,artsF_z f len]
   simp only [zMC,stC_cs]
  | error y =>
   obtain ⟨e,k⟩:=y
   simp only
   rw [← List.map_drop,skipF_z]
   have e2:ds.map zD++[(⟨7,0⟩:GDg)]=(ds++[(⟨7,e⟩:GDg)]).map zD:=by rw [List.map_append]; rfl
   split
   ·rw [e2]
    rfl
   ·rw [e2,← List.map_drop,artsF_z f len]
theorem itemF_z (len:Int) (ds:List GDg) (r:List GTk):itemF 0 (ds.map zD) (r.map zT)=match itemF len ds r with
  | .ok (x,k,ds')=>.ok (stN 3 x,k,ds'.map zD)
  | .error (e,k)=>.error (0,k):=by
 unfold itemF
 simp only [← List.map_drop,pk_z len,zLM,zPu,attF_z,artsF_z _ len]
 rw [show (zT (pk len r)).Kind=(pk len r).Kind from rfl,show (zT (pk len r)).Text=(pk len r).Text from rfl,show (zT (pk len (r.drop 1))).Kind=(pk len (r.drop 1)).Kind from rfl,show (zT (pk len (r.drop 1))).Text=(pk len (r.drop 1)).Text from rfl]
 split
 rotate_left
 ·rfl
 split
 rotate_left
 ·rfl
 split
 ·split
  ·simp only [stN_s,List.map_append]
   rfl
  ·rfl
 ·split
  ·simp only [stN_s]
   rfl
  ·rfl
theorem itemsF_z:∀ (f:Nat) (len:Int) (ds:List GDg) (r:List GTk),itemsF f 0 (ds.map zD) (r.map zT)=((itemsF f len ds r).1.map (stC 3),(itemsF f len ds r).2.map zD)
 | 0,_,_,_=>rfl
 | f+1,len,ds,r=>by
  rw [itemsF_e,itemsF_e,zLM]
  by_cases h:r=[]∨20≤ds.length
  ·rw [if_pos h,if_pos (h.imp (fun h=>by rw [h]; rfl) id)]
   rfl
  rw [if_neg h,if_neg (fun h'=>h (h'.imp (fun h=>List.map_eq_nil_iff.1 h) id)),itemF_z len]
  cases itemF len ds r with
  | ok y =>
   obtain ⟨x,k,ds'⟩:=y
   simp only
   rw [← List.map_drop,itemsF_z f len]
   simp only [zMC,stC_cs]
  | error y =>
   obtain ⟨e,k⟩:=y
   simp only
   have e2:ds.map zD++[(⟨7,0⟩:GDg)]=(ds++[(⟨7,e⟩:GDg)]).map zD:=by rw [List.map_append]; rfl
   simp only [← List.map_drop,skipF_z]
   rw [e2,itemsF_z f len]
theorem items_same {T T':List GTk} (h:T.map zT=T'.map zT) (f:Nat) (len len':Int):(itemsF f len [] T).1.map (stC 3)=(itemsF f len' [] T').1.map (stC 3)∧(itemsF f len [] T).2.map zD=(itemsF f len' [] T').2.map zD:=by
 have h1:=itemsF_z f len [] T
 have h2:=itemsF_z f len' [] T'
 rw [h] at h1
 have:=h1.symm.trans h2
 simp only [zPJ] at this
 exact this
theorem szN_st:∀ (d:Nat) (x:GN),shp d x→szN d (stN d x)=szN d x
 | 0,_,_=>rfl
 | d+1,x,h=>by
  obtain ⟨_,hk⟩:=(shp_s d x ▸ h)
  rw [stN_s,szN_s,szN_s]
  simp only [List.map_map]
  congr 2
  refine List.map_congr_left fun c hc=>?_
  obtain ⟨y,e,t⟩:=hk c hc
  rw [Function.comp_apply,stC_of e]
  unfold szC
  rw [of_cs1,e]
  simp only
  rw [szN_st d y t]
theorem parse_same {n:Nat} {s s':List UInt8} {T T':List GTk} (hn:9223372036854776000≤n) (hT:lexS s=.ok T) (hT':lexS s'=.ok T') (h:T.map zT=T'.map zT) :
  ∃ x x':GN,∃ d d':List GDg,g_p_Parse n s=some (x,d)∧g_p_Parse n s'=some (x',d')∧d.map zD=d'.map zD∧d.length≤20∧shp 4 x∧shp 4 x'∧treeP 4 (stN 4 x)∧stN 4 x=stN 4 x':=by
 have hz:shp 4 nz:=⟨by decide,fun k hk=>by (cases hk)⟩
 have hzt:=st_treeP 4 _ hz
 have hP:=p_Parse n s zo
 have hP':=p_Parse n s' zo
 rw [hT] at hP
 rw [hT'] at hP'
 simp only at hP hP'
 have hl:T.length=T'.length:=by have:=congrArg List.length h; simpa using this
 rw [← hl] at hP'
 obtain ⟨e1,e2⟩:=items_same h (T.length+1) (s.length:Int) (s'.length:Int)
 have hB:=itemsF_B (T.length+1) (s.length:Int) [] T zo zq
 have hB':=itemsF_B (T.length+1) (s'.length:Int) [] T' zo zq
 have hm:=(itemsF_mono (T.length+1) (s.length:Int) [] T).2 zq
 generalize itemsF (T.length+1) (s.length:Int) [] T=Z at hP e1 e2 hB hm
 generalize itemsF (T.length+1) (s'.length:Int) [] T'=Z' at hP' e1 e2 hB'
 by_cases h0:Z.2=[]
 rotate_left
 ·have h0':Z'.2 ≠ []:=by
   intro h1
   rw [h1] at e2
   exact h0 (List.map_eq_nil_iff.1 e2)
  rw [if_pos h0] at hP
  rw [if_pos h0'] at hP'
  exact ⟨_,_,_,_,hP,hP',e2,hm,hz,hz,hzt,rfl⟩
 have h0':Z'.2=[]:=by
  rw [h0] at e2
  exact List.map_eq_nil_iff.1 e2.symm
 rw [if_neg (by simpa using h0)] at hP
 rw [if_neg (by simpa using h0')] at hP'
 have ht:=src_tree hT (hB h0)
 have ht':=src_tree hT' (hB' h0')
 have hs:=treeP_shp 4 _ ht
 have hs':=treeP_shp 4 _ ht'
 have hst:stN 4 (srcN Z.1)=stN 4 (srcN Z'.1):=by
  rw [stN_s,stN_s]
  show (⟨1,[],0,0,Z.1.map (stC 3)⟩:GN)=⟨1,[],0,0,Z'.1.map (stC 3)⟩
  rw [e1]
 rw [count_eq n 4 _ _ ht] at hP
 rw [count_eq n 4 _ _ ht'] at hP'
 obtain ⟨c,hc,a1,a2,a3,a4⟩:=count_val 4 n _ 1500 ht zo zo zo
 obtain ⟨c',hc',b1,b2,b3,b4⟩:=count_val 4 n _ 1500 ht' zo zo zo
 have hsz:szN 4 (srcN Z.1)=szN 4 (srcN Z'.1):=by rw [← szN_st 4 _ hs,hst,szN_st 4 _ hs']
 rw [hc,obs] at hP
 rw [hc',obs] at hP'
 by_cases hbig:(1500:Int) < (szN 4 (srcN Z.1):Int)
 ·rw [show ltI 1500 c=true from dzT (a2 hbig),zCT] at hP
  rw [show ltI 1500 c'=true from dzT (b2 zo),zCT] at hP'
  exact ⟨_,_,_,_,hP,hP',rfl,by simp,hz,hz,hzt,rfl⟩
 ·have:=a1 zo
  have:=b1 zo
  rw [show ltI 1500 c=false from dzF zo,zCF] at hP
  rw [show ltI 1500 c'=false from dzF zo,zCF] at hP'
  exact ⟨_,_,_,_,hP,hP',rfl,by simp,hs,hs',st_treeP 4 _ hs,hst⟩
def tokT (t:GTk):List UInt8:=if t.Kind=2 then Lib.itoa t.N else t.Text
def tokK (t:GTk):Prop:=wholeT (tokT t)=true∧tkOf (tokT t)=.ok (t.Kind,t.Text,t.N)∧(tokT t).length≤8000
theorem lex_tokK {s:List UInt8} {T:List GTk} (hs:s.length≤8000) (h:Lx 0 s T):∀ t ∈ T,tokK t:=by
 intro t ht
 obtain ⟨i,hi,rfl⟩:=List.getElem_of_mem ht
 obtain ⟨s1,x,s2,e1,e2,e3,e4,_⟩:=Lx_take h i hi
 have hl:x.length≤8000:=by
  rw [e1] at hs
  simp only [zLA] at hs
  omega
 have e:tokT T[i]=x:=by
  unfold tokT
  rcases tok_text e3 e4 with ⟨k2,h,_⟩ | ⟨k2,h⟩
  ·rw [if_pos k2,h]
  ·rw [if_neg k2,h]
 unfold tokK
 rw [e]
 exact ⟨e3,e4,hl⟩
theorem token7 (n:Nat) {x:GTk} (h:tokK x):g_law02_token n x=some (tokT x):=by
 unfold g_law02_token g_strconv_Itoa tokT
 simp only [eqI_d]
 rcases tok_text h.1 h.2.1 with ⟨h1,h2,h3,h4⟩ | ⟨h1,h2⟩
 ·rw [dzT h1,zCT,if_pos h1]
  simp only [leI]
  rw [dzT zo,dzT zo]
  rfl
 ·rw [dzF h1,zCF,if_neg h1]
theorem tokK_ne {t:GTk} (h:tokK t):(List.isEmpty (tokT t))=false:=by
 have h1:=h.1
 cases hc:tokT t with
 | nil=>rw [hc] at h1; cases h1
 | cons c r=>rfl
def kindsG:List (List UInt8):=[[32],[10],[9,32],[35,32,99,97,112,32,53,59,10],[32,35,125,10]]
def gapG:Option Int→List UInt8
 | none=>[32]
 | some v=>(kindsG[v.toNat % 5]?).getD [32]
def bldG:List GTk→List Int→List UInt8
 | [],_=>[]
 | t :: T,g=>tokT t++(gapG g.head?++bldG T g.tail)
theorem kindsG_all:∀ g ∈ kindsG,gapE false g=some false∧g.length≤9∧(match g with | c :: _=>!isN c&&!isD c | []=>false)=true:=by decide
theorem gapG_mem (o:Option Int):gapG o ∈ kindsG:=by
 cases o with
 | none=>exact List.mem_cons_self
 | some v =>
  have h:v.toNat % 5 < kindsG.length:=Nat.mod_lt _ (by decide)
  show (kindsG[v.toNat % 5]?).getD [32] ∈ kindsG
  rw [List.getElem?_eq_getElem h]
  exact List.getElem_mem h
theorem stop_g {g:List UInt8} (h:g ∈ kindsG) (t r:List UInt8):stopT t (g++r)=true:=by
 have:=(kindsG_all g h).2.2
 cases g with
 | nil=>cases this
 | cons c q =>
  simp only [bae,Bool.not_eq_true'] at this
  cases t with
  | nil=>rfl
  | cons d p =>
   simp only [List.cons_append,stopT,this.1,this.2]
   simp
theorem bld_lex:∀ (T:List GTk) (g:List Int) (p:Nat),(∀ t ∈ T,tokK t)→∃ T',Lx p (bldG T g) T'∧T'.map zT=T.map zT
 | [],_,p,_=>⟨[], .nil (b:=false) rfl,rfl⟩
 | t :: T,g,p,h=>by
  obtain ⟨h1,h2,_⟩:=h t zq
  have hm:=gapG_mem g.head?
  obtain ⟨T',e1,e2⟩:=bld_lex T g.tail (p+0+(tokT t).length+(gapG g.head?).length) (fun t ht=>h t (by simp [ht]))
  have:=Lx.cons (p:=p) (g:=[]) rfl h1 h2 (stop_g hm _ _) (Lx_gap (kindsG_all _ hm).1 e1)
  exact ⟨_,this,by rw [zMC,zMC,e2]; rfl⟩
theorem strB_b2i (l:List UInt8):strB (l.map b2i)=l:=by
 unfold strB
 rw [List.map_map]
 conv=>rhs; rw [← List.map_id l]
 refine List.map_congr_left fun c _=>?_
 show UInt8.ofNat (b2i c).toNat=c
 unfold b2i
 simp
theorem gap_get {v:Int} (h:0≤v∧v≤255):getI kindsG (Int.tmod (wi v) (lenI (List.map cstr kindsG)))=some (gapG (some v)):=by
 obtain ⟨u,rfl⟩:=Int.eq_ofNat_of_zero_le h.1
 rw [wi_id zo zo,show lenI (List.map cstr kindsG)=((5:Nat):Int) from rfl,← Int.ofNat_tmod,getI_nat]
 have hl:u % 5 < kindsG.length:=Nat.mod_lt _ (by decide)
 show _=some ((kindsG[(u:Int).toNat % 5]?).getD [32])
 rw [Int.toNat_natCast,List.getElem?_eq_getElem hl]
 rfl
theorem gaps_loop {n:Nat} {gs:List Int} {r2:List GTk × Int × Int} (hgs:∀ v ∈ gs,0≤v∧v≤255) (hT:r2.1.length≤2000) (hk:∀ t ∈ r2.1,tokK t):∀ (m j i:Nat) (acc:List Int),r2.1.length - i≤m→m < j→i≤r2.1.length→acc.length≤20000 →
  Does (loopN (fun recl4 (v:List Int × Int)=>g_law02_ParserGaps_l4 n gs r2 recl4 v.1 v.2) j (acc,(i:Int))) (fun r=>8000 < r.length∨r=acc++(bldG (r2.1.drop i) (gs.drop i)).map b2i)
 | _,0,_,_,_,h,_,_=>absurd h (Nat.not_lt_zero _)
 | m,j+1,i,acc,h1,h2,h3,h4=>by
  show Does (g_law02_ParserGaps_l4 n gs r2 (loopN (fun recl4 (v:List Int × Int)=>g_law02_ParserGaps_l4 n gs r2 recl4 v.1 v.2) j) acc (i:Int)) _
  have ih:=gaps_loop (n:=n) (r2:=r2) hgs hT hk (m - 1) j (i+1)
  generalize loopN (fun recl4 (v:List Int × Int)=>g_law02_ParserGaps_l4 n gs r2 recl4 v.1 v.2) j=L at ih ⊢
  unfold g_law02_ParserGaps_l4
  simp only [ltI,leI,lenI,zLM]
  by_cases hi:i=r2.1.length
  ·rw [dzF zo,zCF,obs,zCF]
   refine ⟨acc,rfl, .inr ?_⟩
   rw [hi,List.drop_length]
   simp [bldG]
  have hlt:i < r2.1.length:=by omega
  rw [dzT zo,zCT,obs]
  by_cases h8:acc.length≤8000
  rotate_left
  ·rw [dzF zo,zCF]
   exact ⟨acc,rfl, .inl zo⟩
  have htk:=hk _ (List.getElem_mem hlt)
  have hl:=htk.2.2
  have hd:r2.1.drop i=r2.1[i] :: r2.1.drop (i+1):=List.drop_eq_getElem_cons hlt
  have hm:∀ o:Option Int,o=(gs.drop i).head?→(acc++(tokT r2.1[i]).map b2i++(gapG o).map b2i)++(bldG (r2.1.drop (i+1)) (gs.drop (i+1))).map b2i=acc++(bldG (r2.1.drop i) (gs.drop i)).map b2i:=by
   rintro o rfl
   rw [hd]
   simp only [bldG,List.map_append,List.append_assoc,List.tail_drop]
  have hw:wi ((i:Int)+1)=((i+1:Nat):Int):=by rw [wi_id] <;> omega
  rw [dzT zo,zCT,getI_nat,List.getElem?_eq_getElem hlt,obs,token7 n htk,obs,tokK_ne htk,show roomB (List.length (acc++List.map b2i (tokT r2.1[i]))) 1=true from dzT (by simp only [zLA,zLM]; omega)]
  simp only [Bool.not_false,Bool.and_true,zCT]
  have fin:∀ o:Option Int,o=(gs.drop i).head?→Does (L (acc++(tokT r2.1[i]).map b2i++(gapG o).map b2i,((i+1:Nat):Int))) (fun r=>8000 < r.length∨r=acc++(bldG (r2.1.drop i) (gs.drop i)).map b2i):=by
   intro o ho
   have hgl:=(kindsG_all _ (gapG_mem o)).2.1
   have:=ih (acc++(tokT r2.1[i]).map b2i++(gapG o).map b2i) zo zo zo (by simp only [zLA,zLM]; omega)
   rw [hm o ho] at this
   exact this
  by_cases hg:i < gs.length
  ·rw [dzT zo,zCT,getI_nat,List.getElem?_eq_getElem hg,obs,show (!eqI ((List.length ([[32],[10],[9,32],[35,32,99,97,112,32,53,59,10],[32,35,125,10]]:List (List UInt8)):Nat):Int) 0)=true from rfl]
   have hv:=hgs _ (List.getElem_mem hg)
   have hg2:=gap_get hv
   have hgl:=(kindsG_all _ (gapG_mem (some gs[i]))).2
   have hne:List.isEmpty (gapG (some gs[i]))=false:=by
    have:=hgl.2
    cases hc:gapG (some gs[i]) with
    | nil=>rw [hc] at this; cases this
    | cons c r=>rfl
   have hg3:getI [[32],[10],[9,32],[35,32,99,97,112,32,53,59,10],[32,35,125,10]] (Int.tmod (wi gs[i]) ((List.length ([[32],[10],[9,32],[35,32,99,97,112,32,53,59,10],[32,35,125,10]]:List (List UInt8)):Nat):Int))=some (gapG (some gs[i])):=hg2
   rw [zCT,hg3,obs,hne,show roomB (List.length (acc++List.map b2i (tokT r2.1[i])++List.map b2i (gapG (some gs[i])))) 1=true from dzT (by simp only [zLA,zLM]; omega)]
   simp only [Bool.not_false,Bool.and_true,zCT]
   rw [hw]
   exact fin _ (by rw [List.head?_drop,List.getElem?_eq_getElem hg])
  ·rw [dzF zo,zCF,show roomB (List.length (acc++List.map b2i (tokT r2.1[i])++[32])) 1=true from dzT (by simp only [zLA,zLM,List.length_singleton]; omega),zCT,hw]
   exact fin none (by rw [List.drop_eq_nil_of_le zo]; rfl)
theorem zD_get {d d':List GDg} (h:d.map zD=d'.map zD) {i:Nat} (hi:i < d.length):∃ hi':i < d'.length,d[i].Err=d'[i].Err:=by
 have hl:d.length=d'.length:=by have:=congrArg List.length h; simpa using this
 refine ⟨by omega,?_⟩
 have:=congrArg (fun l=>l[i]?) h
 simp only [List.getElem?_map,List.getElem?_eq_getElem hi,List.getElem?_eq_getElem (show i < d'.length by omega),Option.map_some,sie] at this
 exact (congrArg GDg.Err this:(zD d[i]).Err=(zD d'[i]).Err)
theorem gaps_gen (n:Nat) (hn:9223372036854776000≤n) (hh:g_law02_head n=some true) (s:List UInt8) (gs:List Int) (hgs:∀ v ∈ gs,0≤v∧v≤255):g_law02_ParserGaps n s gs=some true:=by
 unfold g_law02_ParserGaps
 rw [hh,obs,rl_Lex n s zo,obs]
 cases hS:lexS s with
 | error y =>
  obtain ⟨e,q⟩:=y
  have:=(lexS_err hS).1
  simp only [resL,eqI_d]
  rw [dzF this]
  rfl
 | ok T =>
 obtain ⟨l1,l2,l3⟩:=(lexS_iff s T).1 hS
 have hk:=lex_tokK l1 l2
 simp only [resL,List.nil_append]
 rw [show (!eqI 0 0)=false from rfl,zCF]
 obtain ⟨j3,e3,hj⟩:=gaps_loop (n:=n) (gs:=gs) (r2:=(T,0,0)) hgs l3 hk 2000 n 0 [] (by simp only; omega) zo (Nat.zero_le _) zq
 refine bind_of e3 ?_
 simp only [ltI,lenI,zLM]
 by_cases h8:8000 < j3.length
 ·rw [dzT zo]; rfl
 rw [dzF zo,zCF]
 rcases hj with h | rfl
 ·exact absurd h h8
 rw [List.drop_zero,List.drop_zero,List.nil_append] at h8 ⊢
 rw [strB_b2i]
 rw [zLM] at h8
 have h8:¬ 8000 < (bldG T gs).length:=h8
 obtain ⟨T',e1,e2⟩:=bld_lex T gs 0 hk
 have hl:T'.length=T.length:=by have:=congrArg List.length e2; simpa using this
 have hS':=(lexS_iff (bldG T gs) T').2 ⟨by omega,e1,by omega⟩
 obtain ⟨x,x',d,d',p1,p2,p3,p4,p5,p6,p7,p8⟩:=parse_same hn hS hS' e2.symm
 have hdl:d.length=d'.length:=by have:=congrArg List.length p3; simpa using this
 rw [p1,p2,obs,obs]
 have j15:g_law02_ParserGaps_j15 n true (x,d) (x',d')=some true:=by
  unfold g_law02_ParserGaps_j15
  simp only [lenI,zLM,eqI_d]
  rw [zCT,dzT zo,zCT,strip_ok p5 zo zo,obs,strip_ok p6 zo zo,obs,← p8,same_refl 4 n _ p7 zo]
  rfl
 refine loop_list (l:=d) (F:=fun _=>true) zo ?_ ?_ 0 (Nat.zero_le _) zo
 ·intro rec
  unfold g_law02_ParserGaps_l21
  simp only [lenI,ltI,zLM]
  rw [dzF zo,zCF,j15]
 ·intro rec i c r hd hi hlt hw hr
  obtain ⟨hlt',he⟩:=zD_get p3 hlt
  unfold g_law02_ParserGaps_l21
  simp only [lenI,ltI,leI,zLM,eqI_d]
  rw [dzT zo,zCT,dzF (show ¬ ((d'.length:Int)≤(i:Int)) by omega),zCF,getI_nat,List.getElem?_eq_getElem hlt,obs,getI_nat,List.getElem?_eq_getElem hlt',obs,dzT he]
  simp only [Bool.not_true,obs,zCF]
  rw [hw,hr]
theorem fuel_02g:9223372036854776000≤36893488147419103232:=by decide
theorem gaps_plain (s:List UInt8) (gs:List Int) (h:∀ v ∈ gs,0≤v∧v≤255):∃ n,g_law02_ParserGaps n s gs=some true:=⟨_,gaps_gen _ fuel_02g head_02 s gs h⟩
end Go.Proofs
namespace Go.Proofs.YtniaojaeacgpoaaDoor
open Go Go.Abs Go.Proofs
theorem parserGaps_card_holds:Rows.ParserGapsCardSaid :=
 parserGaps_card (fun s gs _ h=>gaps_plain s gs h.2)
end Go.Proofs.YtniaojaeacgpoaaDoor
