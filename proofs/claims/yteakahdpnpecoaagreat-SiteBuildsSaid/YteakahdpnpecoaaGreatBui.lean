/-
  A part of the proof of a statement of the seat YteakahdpnpecoaaGreat.
-/
import Derived.Test.YteakahdpnpecoaaGreatBui05
set_option linter.unusedVariables false
namespace Go.Proofs
open Go Go.Abs
set_option maxRecDepth 100000
theorem uk {n:Nat} {l:List Int} {b:Bool} {k:Int} (hl:l.length≤1000) (hn:2000≤n):QE n l b k=some (l.contains k):=by
 unfold QE
 have:=VV (B:=fun recl1 l1=>Va l k recl1 l1) (n:=n) (L:=l.length) (fun i r=>r=(l.drop i).contains k) zo (fun rec i hi hr=>?_) 0 zo zo
 ·obtain ⟨r,e,h⟩:=this
  rw [show ((0:Nat):Int)=0 from rfl] at e
  rw [e,h]; rfl
 unfold Va
 simp only [Qc,List.length_map,QO]
 by_cases c1:i < l.length
 rotate_left
 ·rw [Vw zo,cond_false,List.drop_eq_nil_of_le zo]; exact QG rfl
 obtain ⟨w1,w2⟩:=hr c1
 rw [WB zo,cond_true,Zp,List.getElem?_eq_getElem c1,Zr,w1,List.drop_eq_getElem_cons c1,List.contains_cons,YK]
 generalize l[i]'c1=y
 by_cases h:y=k
 ·subst h
  rw [WB rfl,cond_true,beq_self_eq_true,Bool.true_or]
  exact QG rfl
 ·rw [Vw h,cond_false,show (k == y)=false from by simpa using fun e=>h e.symm,Bool.false_or]
  exact w2
def O4 (p:GN × ZA):Bool:=decide (p.2.from_≤p.1.N)&&decide (p.1.N≤p.2.to_)
def snR (a:GN) (sp:List ZA):Except (Int × Int) (List Int) :=
 if ((QA a.Kids).zip sp).all O4 then .ok ((QA a.Kids).map (·.N)) else .error (3,a.At)
def kD (a:GN) (sp:List ZA):Except (Int × Int) (List Int) :=
 if a.Kids.length=sp.length then if (QA a.Kids).all (fun y=>decide (y.Kind=6)) then snR a sp else .error (9,a.At) else .error (9,a.At)
theorem kG {n d:Nat} {a:GN} {sp:List ZA} (ht:KE d a) (hn:2000≤n) (hl:a.Kids.length=sp.length) (hs:sp.length≤10):KN n a sp=some (snR a sp):=by
 obtain ⟨e,rfl,_,_,hk⟩:=ZP ht
 have hlen:=Jv hk
 unfold KN
 simp only [Qc,List.length_map]
 rw [show zg (sp.length:Int) (sp.length:Int) 8=true from by unfold zg; simp; omega,cond_true]
 have:=WA (n:=n) (B:=fun recl2 (v:List Int × Int)=>Vb n a sp recl2 v.1 v.2) (v:=(List.replicate (Int.toNat (sp.length:Int)) 0,0))
  (Q:=fun v r=>∀ i:Nat,v.2=(i:Int)→r=if (((QA a.Kids).drop i).zip (sp.drop i)).all O4 then .ok ((QA a.Kids).map (·.N)) else .error (3,a.At))
  (fun v=>sp.length - v.2.toNat) (fun v=>∃ i:Nat,v.2=(i:Int)∧i≤sp.length∧v.1=((QA a.Kids).take i).map (·.N)++List.replicate (sp.length - i) 0) ?_ ⟨0,rfl,by omega,by simp⟩ (by simp only; omega)
 ·obtain ⟨r,e1,h⟩:=this
  rw [e1,h 0 rfl]; rfl
 rintro rec ⟨l,q⟩ ⟨i,hq,hi,hL⟩ hrec
 simp only at hq hL hrec ⊢
 subst hq
 unfold Vb
 simp only [Qc,List.length_map,QO]
 by_cases c1:i < a.Kids.length
 rotate_left
 ·rw [Vw zo,cond_false]
  refine QG fun j hj=>?_
  obtain rfl:i=j:=by omega
  rw [List.drop_eq_nil_of_le (by omega:(QA a.Kids).length≤i),List.zip_nil_left,List.all_nil,if_pos rfl,hL,List.take_of_length_le zo,show sp.length - i=0 by omega]
  simp
 obtain ⟨y,hy,hty,hK⟩:=rM hk c1
 obtain ⟨hKi,hKe⟩:=List.getElem?_eq_some_iff.1 hK
 have hKlen:(QA a.Kids).length=sp.length:=by omega
 obtain ⟨s,hs1,hs2⟩:=kC (l:=sp) (i:=i) zo
 obtain ⟨hsi,hse⟩:=List.getElem?_eq_some_iff.1 hs2
 have hlL:l.length=sp.length:=by rw [hL]; simp; omega
 obtain ⟨z,hz,_⟩:=kC (l:=l) (i:=i) zo
 rw [WB zo,cond_true,hy,Zr,hs1,Zr]
 have hin:Qy n s y.N=some (O4 (y,s)):=by
  unfold Qy O4 leI
  cases decide (s.from_≤y.N) <;> rfl
 rw [hin,Zr,hz,Zr,KG (x:=(i:Int)+1) zo zo,Int.toNat_natCast]
 have hcons:((QA a.Kids).drop i).zip (sp.drop i)=(y,s) :: ((QA a.Kids).drop (i+1)).zip (sp.drop (i+1)):=by
  rw [List.drop_eq_getElem_cons hKi,List.drop_eq_getElem_cons hsi,hKe,hse,List.zip_cons_cons]
 cases hb:O4 (y,s)
 ·refine QG fun j hj=>?_
  obtain rfl:i=j:=by omega
  rw [hcons,List.all_cons,hb]; rfl
 ·refine Yp (hrec (l.set i y.N,(i:Int)+1) ⟨i+1,by simp,by omega,?_⟩ (by simp only; omega)) ?_
  ·simp only
   rw [hL,List.set_append,if_neg (by simp; omega)]
   simp only [List.length_map,List.length_take]
   rw [show i - min i (QA a.Kids).length=0 by omega,show sp.length - i=(sp.length - (i+1))+1 by omega,List.replicate_succ,List.set_cons_zero,List.take_add_one,hK]
   simp
  ·intro r hr j hj
   obtain rfl:i=j:=by omega
   rw [hcons,List.all_cons,hb,Bool.true_and]
   exact hr (i+1) zq
theorem BG {n d:Nat} {a:GN} {sp:List ZA} (ht:KE d a) (hn:9223372036854776000≤n) (hs:sp.length≤10):Zu n a sp=some (kD a sp):=by
 unfold Zu kD
 simp only [Qc,List.length_map]
 rw [YK]
 by_cases h:a.Kids.length=sp.length
 rotate_left
 ·rw [Vw zo,if_neg h]; rfl
 rw [WB zo,if_pos h,Bool.not_true,cond_false]
 obtain ⟨e,rfl,hl,_,hk⟩:=ZP ht
 have:=VV (B:=fun recl7 l7=>Vd n a sp recl7 l7) (n:=n) (L:=a.Kids.length) (fun i r=>r=if (QA (a.Kids.drop i)).all (fun y=>decide (y.Kind=6)) then snR a sp else .error (9,a.At)) hl (fun rec i hi hr=>?_) 0 zo zo
 ·obtain ⟨r,e1,h1⟩:=this
  rw [show ((0:Nat):Int)=0 from rfl] at e1
  rw [e1,h1]; rfl
 unfold Vd
 simp only [Qc,List.length_map,QO]
 by_cases c1:i < a.Kids.length
 rotate_left
 ·rw [Vw zo,cond_false,Um _ zo,kG ht zo h hs]; exact QG rfl
 obtain ⟨y,hy,hty,hc⟩:=Gj hk c1
 obtain ⟨w1,w2⟩:=hr c1
 rw [WB zo,cond_true,hy,Zr,w1,hc,List.all_cons,YK]
 cases decide (y.Kind=6)
 ·exact QG rfl
 ·simpa using w2
theorem Dy {a:GN} {sp:List ZA} {l:List Int} {d:Nat} (ht:KE d a) (h:kD a sp=.ok l):l.length=sp.length∧l=(QA a.Kids).map (·.N)∧(((QA a.Kids).zip sp).all O4)=true:=by
 unfold kD snR at h
 obtain ⟨e,rfl,_,_,hk⟩:=ZP ht
 have hlen:=Jv hk
 split at h
 ·split at h
  ·split at h
   ·cases h
    rename_i h1 h2 h3
    exact ⟨by simp [hlen,h1],rfl,h3⟩
   ·cases h
  ·cases h
 ·cases h
def nC (ks:List Int) (th:List (List UInt8 × Kt)) (a:GN):Except (Int × Int) Int :=
  match QA a.Kids with
  | [y]=>if y.Kind=5 then
      (match XO Qv y.Name th with
       | some t=>if ks.contains t.kind then .ok t.index else .error (8,a.At)
       | none=>.error (8,a.At))
    else .error (9,a.At)
  | _=>.error (9,a.At)
theorem ul {n d:Nat} {a h0:GN} {c:ZJ} {k:ZT} {g:ZY} {b:Zi} {s:Qm} {f:Bool} {dd:List ZX} {h7 h10:List (List UInt8 × Bool)} {th:List (List UInt8 × Kt)} (ht:KE d a) (hn:2000≤n):UT n a h0 c k g b s f dd h7 th h10=some (nC [1,2] th a):=by
 obtain ⟨e,rfl,hl,_,hk⟩:=ZP ht
 have hlen:=Jv hk
 unfold UT nC
 simp only [Qc,List.length_map,YK]
 by_cases h:a.Kids.length=1
 rotate_left
 ·rw [Vw zo]
  simp only [Bool.not_false,cond_true,Zr]
  split
  ·rename_i y hy; rw [hy] at hlen; simp at hlen; omega
  ·rfl
 obtain ⟨y,hy,hty,hK⟩:=rM hk (i:=0) zo
 rw [show ((0:Nat):Int)=0 from rfl] at hy
 have hks:QA a.Kids=[y]:=by
  match hq:QA a.Kids with
  | []=>rw [hq] at hlen; simp at hlen; omega
  | [z]=>rw [hq] at hK; simp at hK; rw [hK]
  | _ :: _ :: _=>rw [hq] at hlen; simp at hlen; omega
 rw [WB zo,hy,hks]
 simp only [Bool.not_true,cond_false,Zr]
 by_cases h5:y.Kind=5
 rotate_left
 ·rw [Vw h5,if_neg h5]; rfl
 rw [WB h5,if_pos h5]
 simp only [Bool.not_true,cond_false]
 unfold Rt
 match hm:XO Qv y.Name th with
 | none=>rfl
 | some t =>
  simp only [Option.isSome_some,cond_true]
  have hD:QB Qv y.Name (⟨0,0⟩:Kt) th=t:=by unfold QB; rw [hm]; rfl
  have:=VV (B:=fun recl6 l6=>Xu a th y recl6 l6) (n:=n) (L:=([1,2]:List Int).length) (fun i r=>r=if (([1,2]:List Int).drop i).contains t.kind then .ok t.index else .error (8,a.At)) zq (fun rec i hi hr=>?_) 0 zo (by simp; omega)
  ·obtain ⟨r,e1,h1⟩:=this
   rw [show ((0:Nat):Int)=0 from rfl] at e1
   rw [e1,h1]; rfl
  unfold Xu Ve
  simp only [Qc,List.length_map,QO,hD]
  by_cases c1:i < ([1,2]:List Int).length
  rotate_left
  ·rw [Vw zo,cond_false,List.drop_eq_nil_of_le zo]; exact QG rfl
  obtain ⟨w1,w2⟩:=hr c1
  rw [WB zo,cond_true,Zp,List.getElem?_eq_getElem c1,Zr,w1,List.drop_eq_getElem_cons c1,List.contains_cons,YK]
  generalize ([1,2]:List Int)[i]'c1=z
  by_cases h:z=t.kind
  ·subst h
   rw [WB rfl,cond_true,beq_self_eq_true,Bool.true_or]
   exact QG rfl
  ·rw [Vw h,cond_false,show (t.kind == z)=false from by simpa using fun e=>h e.symm,Bool.false_or]
   exact w2
theorem um {n d:Nat} {a h0:GN} {c:ZJ} {k:ZT} {g:ZY} {b:Zi} {s:Qm} {f:Bool} {dd:List ZX} {h7 h10:List (List UInt8 × Bool)} {th:List (List UInt8 × Kt)} (ht:KE d a) (hn:2000≤n):Ui n a h0 c k g b s f dd h7 th h10=some (nC [3] th a):=by
 obtain ⟨e,rfl,hl,_,hk⟩:=ZP ht
 have hlen:=Jv hk
 unfold Ui nC
 simp only [Qc,List.length_map,YK]
 by_cases h:a.Kids.length=1
 rotate_left
 ·rw [Vw zo]
  simp only [Bool.not_false,cond_true,Zr]
  split
  ·rename_i y hy; rw [hy] at hlen; simp at hlen; omega
  ·rfl
 obtain ⟨y,hy,hty,hK⟩:=rM hk (i:=0) zo
 rw [show ((0:Nat):Int)=0 from rfl] at hy
 have hks:QA a.Kids=[y]:=by
  match hq:QA a.Kids with
  | []=>rw [hq] at hlen; simp at hlen; omega
  | [z]=>rw [hq] at hK; simp at hK; rw [hK]
  | _ :: _ :: _=>rw [hq] at hlen; simp at hlen; omega
 rw [WB zo,hy,hks]
 simp only [Bool.not_true,cond_false,Zr]
 by_cases h5:y.Kind=5
 rotate_left
 ·rw [Vw h5,if_neg h5]; rfl
 rw [WB h5,if_pos h5]
 simp only [Bool.not_true,cond_false]
 unfold Rt
 match hm:XO Qv y.Name th with
 | none=>rfl
 | some t =>
  simp only [Option.isSome_some,cond_true]
  have hD:QB Qv y.Name (⟨0,0⟩:Kt) th=t:=by unfold QB; rw [hm]; rfl
  have:=VV (B:=fun recl6 l6=>WZ a th y recl6 l6) (n:=n) (L:=([3]:List Int).length) (fun i r=>r=if (([3]:List Int).drop i).contains t.kind then .ok t.index else .error (8,a.At)) zq (fun rec i hi hr=>?_) 0 zo (by simp; omega)
  ·obtain ⟨r,e1,h1⟩:=this
   rw [show ((0:Nat):Int)=0 from rfl] at e1
   rw [e1,h1]; rfl
  unfold WZ Ye
  simp only [Qc,List.length_map,QO,hD]
  by_cases c1:i < ([3]:List Int).length
  rotate_left
  ·rw [Vw zo,cond_false,List.drop_eq_nil_of_le zo]; exact QG rfl
  obtain ⟨w1,w2⟩:=hr c1
  rw [WB zo,cond_true,Zp,List.getElem?_eq_getElem c1,Zr,w1,List.drop_eq_getElem_cons c1,List.contains_cons,YK]
  generalize ([3]:List Int)[i]'c1=z
  by_cases h:z=t.kind
  ·subst h
   rw [WB rfl,cond_true,beq_self_eq_true,Bool.true_or]
   exact QG rfl
  ·rw [Vw h,cond_false,show (t.kind == z)=false from by simpa using fun e=>h e.symm,Bool.false_or]
   exact w2
theorem uo {n d:Nat} {a h0:GN} {c:ZJ} {k:ZT} {g:ZY} {b:Zi} {s:Qm} {f:Bool} {dd:List ZX} {h7 h10:List (List UInt8 × Bool)} {th:List (List UInt8 × Kt)} (ht:KE d a) (hn:2000≤n):Uj n a h0 c k g b s f dd h7 th h10=some (nC [5] th a):=by
 obtain ⟨e,rfl,hl,_,hk⟩:=ZP ht
 have hlen:=Jv hk
 unfold Uj nC
 simp only [Qc,List.length_map,YK]
 by_cases h:a.Kids.length=1
 rotate_left
 ·rw [Vw zo]
  simp only [Bool.not_false,cond_true,Zr]
  split
  ·rename_i y hy; rw [hy] at hlen; simp at hlen; omega
  ·rfl
 obtain ⟨y,hy,hty,hK⟩:=rM hk (i:=0) zo
 rw [show ((0:Nat):Int)=0 from rfl] at hy
 have hks:QA a.Kids=[y]:=by
  match hq:QA a.Kids with
  | []=>rw [hq] at hlen; simp at hlen; omega
  | [z]=>rw [hq] at hK; simp at hK; rw [hK]
  | _ :: _ :: _=>rw [hq] at hlen; simp at hlen; omega
 rw [WB zo,hy,hks]
 simp only [Bool.not_true,cond_false,Zr]
 by_cases h5:y.Kind=5
 rotate_left
 ·rw [Vw h5,if_neg h5]; rfl
 rw [WB h5,if_pos h5]
 simp only [Bool.not_true,cond_false]
 unfold Rt
 match hm:XO Qv y.Name th with
 | none=>rfl
 | some t =>
  simp only [Option.isSome_some,cond_true]
  have hD:QB Qv y.Name (⟨0,0⟩:Kt) th=t:=by unfold QB; rw [hm]; rfl
  have:=VV (B:=fun recl6 l6=>W9 a th y recl6 l6) (n:=n) (L:=([5]:List Int).length) (fun i r=>r=if (([5]:List Int).drop i).contains t.kind then .ok t.index else .error (8,a.At)) zq (fun rec i hi hr=>?_) 0 zo (by simp; omega)
  ·obtain ⟨r,e1,h1⟩:=this
   rw [show ((0:Nat):Int)=0 from rfl] at e1
   rw [e1,h1]; rfl
  unfold W9 Yf
  simp only [Qc,List.length_map,QO,hD]
  by_cases c1:i < ([5]:List Int).length
  rotate_left
  ·rw [Vw zo,cond_false,List.drop_eq_nil_of_le zo]; exact QG rfl
  obtain ⟨w1,w2⟩:=hr c1
  rw [WB zo,cond_true,Zp,List.getElem?_eq_getElem c1,Zr,w1,List.drop_eq_getElem_cons c1,List.contains_cons,YK]
  generalize ([5]:List Int)[i]'c1=z
  by_cases h:z=t.kind
  ·subst h
   rw [WB rfl,cond_true,beq_self_eq_true,Bool.true_or]
   exact QG rfl
  ·rw [Vw h,cond_false,show (t.kind == z)=false from by simpa using fun e=>h e.symm,Bool.false_or]
   exact w2
def iw (a:GN):List Int→Int→Int→Except (Int × Int) Int
 | [],bits,_=>.ok bits
 | x :: l,bits,before=>if x≤before then .error (3,a.At) else iw a l (pz .i64 bits (I5 .i64 1 (wi (x - 1)))) x
def Ph (a:GN):List ZA:=List.take a.Kids.length [(⟨1,3⟩:ZA),(⟨1,3⟩:ZA),(⟨1,3⟩:ZA)]
def eb {A B:Type} (x:Except (Int × Int) A) (k:A→Except (Int × Int) B):Except (Int × Int) B:=match x with
 | .ok a=>k a
 | .error e=>.error e
def iy (a:GN):Except (Int × Int) Int:=if 1≤a.Kids.length∧a.Kids.length≤3 then eb (kD a (Ph a)) fun l=>iw a l 0 0 else .error (9,a.At)
theorem iK {d:Nat} {l:List (List PV)} (h:NF d l):∀ x ∈ (QA l).map (·.N),-9223372036854775808≤x∧x≤9223372036854775807:=by
 intro x hx
 obtain ⟨y,hy,rfl⟩:=List.mem_map.1 hx
 have:=Ff h y hy
 obtain ⟨_,rfl,_⟩:=ZP this
 exact this.2.1
theorem uq {n d:Nat} {a:GN} (ht:KE d a) (hn:9223372036854776000≤n):JJ n a=some (iy a):=by
 have ht':=ht
 obtain ⟨e,rfl,hl,_,hk⟩:=ZP ht
 unfold JJ iy
 simp only [Qc,List.length_map,QO]
 by_cases h1:1≤a.Kids.length∧a.Kids.length≤3
 rotate_left
 ·rw [if_neg h1]
  by_cases h2:a.Kids.length < 1
  ·rw [WB zo]; rfl
  ·rw [Vw zo,WB zo]; rfl
 obtain ⟨h1,h2⟩:=h1
 rw [Vw zo,Vw zo,if_pos ⟨h1,h2⟩]
 simp only [cond_false,Zr]
 rw [show sliceB 0 (a.Kids.length:Int) (List.length [(⟨1,3⟩:ZA),(⟨1,3⟩:ZA),(⟨1,3⟩:ZA)])=true from by unfold sliceB; simp; omega,cond_true]
 rw [show List.drop (Int.toNat 0) (List.take (Int.toNat (a.Kids.length:Int)) [(⟨1,3⟩:ZA),(⟨1,3⟩:ZA),(⟨1,3⟩:ZA)])=Ph a from by unfold Ph; simp]
 rw [BG ht' hn (by unfold Ph; simp; omega),Zr]
 match hq:kD a (Ph a) with
 | .error e=>rfl
 | .ok r =>
  obtain ⟨q1,q2,_⟩:=Dy ht' hq
  have hr:=iK hk
  rw [← q2] at hr
  have hrl:r.length≤3:=by rw [q1]; unfold Ph; simp; omega
  show QZ _ n _=some (iw a r 0 0)
  have:=WA (n:=n) (B:=fun recl5 (v:Int × Int × Int)=>VN a r recl5 v.1 v.2.1 v.2.2) (v:=(0,0,0))
   (Q:=fun v z=>z=iw a (r.drop v.2.2.toNat) v.1 v.2.1) (fun v=>r.length - v.2.2.toNat) (fun v=>0≤v.2.1∧∃ i:Nat,v.2.2=(i:Int)∧i≤r.length) ?_ ⟨Int.le_refl _,0,rfl,by omega⟩ (by simp only; omega)
  ·obtain ⟨z,e1,h⟩:=this
   rw [e1,h]; rfl
  rintro rec ⟨bits,before,q⟩ ⟨hb,i,hi,hil⟩ hrec
  simp only at hb hi hrec ⊢
  subst hi
  unfold VN
  simp only [Qc,List.length_map,QO,Int.toNat_natCast,leI] at hrec ⊢
  by_cases c1:i < r.length
  rotate_left
  ·rw [Vw zo,cond_false,List.drop_eq_nil_of_le zo]; exact QG rfl
  have hx:=hr (r[i]'c1) (List.getElem_mem c1)
  rw [WB zo,cond_true,Zp,List.getElem?_eq_getElem c1,Zr,List.drop_eq_getElem_cons c1]
  generalize r[i]'c1=x at hx
  unfold iw
  by_cases c2:x≤before
  ·rw [WB c2,if_pos c2]; exact QG rfl
  ·rw [Vw c2,if_neg c2,KG (x:=x - 1) zo zo,Vw zo,KG (x:=(i:Int)+1) zo zo]
   simp only [cond_false,cond_true,Bool.not_false]
   have:=hrec (pz .i64 bits (I5 .i64 1 (x - 1)),x,(i:Int)+1) ⟨by simp only; omega,i+1,by simp,c1⟩ (by simp only; omega)
   simpa only [show ((i:Int)+1).toNat=i+1 by omega] using this
abbrev SQ:=ZJ × ZT × ZY × Zi
abbrev VZ:=List (List UInt8 × Bool)
abbrev Am:=List (List UInt8 × Kt)
def YZ (h:VZ) (s:List UInt8):Bool:=QB Qb s false h
def Pi (a:GN) (sp:List ZA) (f:List Int→SQ):Except (Int × Int) SQ:=eb (kD a sp) fun l=>.ok (f l)
def iA (ks:List Int) (th:Am) (a:GN) (f:Int→SQ):Except (Int × Int) SQ:=eb (nC ks th a) fun x=>.ok (f x)
def O5 (cs:List ZT) (a:GN) (f:List Int→SQ):Except (Int × Int) SQ:=eb (kD a [(⟨1,1000000⟩:ZA)]) fun l=>if cs.all (fun c=>!decide (c.Card=l.getD 0 0)) then .ok (f l) else .error (5,a.At)
def LB (ks:List Int) (k:Int) (a:GN) (h:VZ) (v:Except (Int × Int) SQ):Except (Int × Int) (SQ × VZ) :=
 if ks.contains k then if YZ h a.Name then .error (5,a.At) else eb v fun q=>.ok (q,Qk Qb a.Name true h) else .error (9,a.At)
def ut (k:Int) (cs:List ZT) (th:Am) (a:GN) (q:SQ) (h:VZ):Except (Int × Int) (SQ × VZ) :=
 if a.Name=[108,105,109,105,116] then LB [1,2] k a h (Pi a [(⟨1,1000⟩:ZA)] fun l=>(⟨q.1.Name,q.1.Up,l.getD 0 0,q.1.Neutral,q.1.Fuse,q.1.Cable⟩,q.2)) else
 if a.Name=[110,101,117,116,114,97,108] then LB [1,2] k a h (Pi a [(⟨1,1000⟩:ZA)] fun l=>(⟨q.1.Name,q.1.Up,q.1.Limit,l.getD 0 0,q.1.Fuse,q.1.Cable⟩,q.2)) else
 if a.Name=[102,117,115,101] then LB [1,2] k a h (Pi a [(⟨1,1000⟩:ZA),(⟨0,1000000⟩:ZA)] fun l=>(⟨q.1.Name,q.1.Up,q.1.Limit,q.1.Neutral,⟨l.getD 0 0,l.getD 1 0⟩,q.1.Cable⟩,q.2)) else
 if a.Name=[116,104,101,114,109,97,108] then LB [1,2] k a h (Pi a [(⟨0,200000⟩:ZA),(⟨0,200000⟩:ZA),(⟨0,1000⟩:ZA),(⟨0,1000⟩:ZA),(⟨1,1000000⟩:ZA)] fun l=>(⟨q.1.Name,q.1.Up,q.1.Limit,q.1.Neutral,q.1.Fuse,⟨l.getD 0 0,l.getD 1 0,l.getD 2 0,l.getD 3 0,l.getD 4 0⟩⟩,q.2)) else
 if a.Name=[102,114,111,109] then LB [2] k a h (iA [1,2] th a fun x=>(⟨q.1.Name,x,q.1.Limit,q.1.Neutral,q.1.Fuse,q.1.Cable⟩,q.2)) else
 if a.Name=[111,119,110,101,114] then LB [4,5] k a h (iA [3] th a fun x=>(q.1,⟨q.2.1.Name,x,q.2.1.Rank,q.2.1.Card⟩,⟨q.2.2.1.Name,q.2.2.1.At,q.2.2.1.Phases,q.2.2.1.Min,q.2.2.1.Max,q.2.2.1.Step,q.2.2.1.Fallback,x⟩,q.2.2.2)) else
 if a.Name=[114,97,110,107] then LB [4] k a h (Pi a [(⟨1,9⟩:ZA)] fun l=>(q.1,⟨q.2.1.Name,q.2.1.Owner,l.getD 0 0,q.2.1.Card⟩,q.2.2)) else
 if a.Name=[99,97,114,100] then LB [4] k a h (O5 cs a fun l=>(q.1,⟨q.2.1.Name,q.2.1.Owner,q.2.1.Rank,l.getD 0 0⟩,q.2.2)) else
 if a.Name=[97,116] then LB [5] k a h (iA [1,2] th a fun x=>(q.1,q.2.1,⟨q.2.2.1.Name,x,q.2.2.1.Phases,q.2.2.1.Min,q.2.2.1.Max,q.2.2.1.Step,q.2.2.1.Fallback,q.2.2.1.Owner⟩,q.2.2.2)) else
 if a.Name=[112,104,97,115,101,115] then LB [5] k a h (eb (iy a) fun x=>.ok (q.1,q.2.1,⟨q.2.2.1.Name,q.2.2.1.At,x,q.2.2.1.Min,q.2.2.1.Max,q.2.2.1.Step,q.2.2.1.Fallback,q.2.2.1.Owner⟩,q.2.2.2)) else
 if a.Name=[97,109,112,115] then LB [5] k a h (Pi a [(⟨1,80⟩:ZA),(⟨1,80⟩:ZA),(⟨1,80⟩:ZA)] fun l=>(q.1,q.2.1,⟨q.2.2.1.Name,q.2.2.1.At,q.2.2.1.Phases,l.getD 0 0,l.getD 1 0,l.getD 2 0,q.2.2.1.Fallback,q.2.2.1.Owner⟩,q.2.2.2)) else
 if a.Name=[102,97,108,108,98,97,99,107] then LB [5] k a h (Pi a [(⟨0,80⟩:ZA)] fun l=>(q.1,q.2.1,⟨q.2.2.1.Name,q.2.2.1.At,q.2.2.1.Phases,q.2.2.1.Min,q.2.2.1.Max,q.2.2.1.Step,l.getD 0 0,q.2.2.1.Owner⟩,q.2.2.2)) else
 if a.Name=[99,104,97,114,103,101,114] then LB [6] k a h (iA [5] th a fun x=>(q.1,q.2.1,q.2.2.1,⟨q.2.2.2.Name,x⟩)) else
 .error (9,a.At)
def BH (k:Int) (cs:List ZT) (th:Am):List GN→SQ→VZ→Except (Int × Int) (SQ × VZ)
 | [],q,h=>.ok (q,h)
 | a :: l,q,h=>if a.Kind=3 then eb (ut k cs th a q h) fun v=>BH k cs th l v.1 v.2 else BH k cs th l q h
def pj {X V:Type}:Except ((Int × Int) × X) V→Except (Int × Int) V
 | .ok v=>.ok v
 | .error e=>.error e.1
abbrev AQ:=ZJ × ZT × ZY × Zi × VZ
abbrev AE:=(Int × Int) × AQ
def kH (r:Except (Int × Int) (SQ × VZ)):Except (Int × Int) AQ:=eb r fun v=>.ok (v.1.1,v.1.2.1,v.1.2.2.1,v.1.2.2.2,v.2)
section
variable {n:Nat} {ks:List Int} {b:Bool} {k:Int} {a:GN} {h:VZ} {v:Except (Int × Int) SQ} {M:Option (Except AE AQ)} {E1 E2:AQ} {C:SQ × VZ→Except (Int × Int) (SQ × VZ)}
theorem XA (hl:ks.length≤1000) (hn:2000≤n) (hM:Does M (fun r=>pj r=kH (eb v fun q=>C (q,Qk Qb a.Name true h)))) :
  Does ((QE n ks b k).bind fun r7=>cond (!r7) (some (.error ((9,a.At),E1))) (cond (QB Qb a.Name false h) (some (.error ((5,a.At),E2))) M)) (fun r=>pj r=kH (eb (LB ks k a h v) C)):=by
 rw [uk hl hn,Zr]
 unfold LB YZ
 by_cases h1:ks.contains k=true
 ·rw [h1,if_pos rfl]
  by_cases h2:QB Qb a.Name false h=true
  ·rw [h2,if_pos rfl]; exact QG rfl
  ·simp only [Bool.not_eq_true] at h2
   rw [h2,if_neg zq]
   refine Yp hM fun r hr=>?_
   rw [hr]
   cases v <;> rfl
 ·simp only [Bool.not_eq_true] at h1
  rw [h1,if_neg zq]
  exact QG rfl
theorem Fj {d:Nat} {sp:List ZA} {f:List Int→SQ} {F:List Int→Option (Except AE AQ)} {G:(Int × Int)→Option (Except AE AQ)} {X:(Int × Int)→AQ} (ht:KE d a) (hn:9223372036854776000≤n) (hs:sp.length≤10)
  (hG:∀ e,G e=some (.error ((e.1,e.2),X e))) (hF:∀ l,l.length=sp.length→Does (F l) (fun r=>pj r=kH (C (f l,Qk Qb a.Name true h)))) :
  Does ((Zu n a sp).bind (Rk F G)) (fun r=>pj r=kH (eb (Pi a sp f) fun q=>C (q,Qk Qb a.Name true h))):=by
 rw [BG ht hn hs,Zr]
 unfold Pi
 match hq:kD a sp with
 | .error e=>exact ⟨_,hG e,rfl⟩
 | .ok l=>exact hF l (Dy ht hq).1
theorem uu {d:Nat} {cs:List ZT} {f:List Int→SQ} {F:List Int→Option (Except AE AQ)} {G:(Int × Int)→Option (Except AE AQ)} {X:(Int × Int)→AQ} (ht:KE d a) (hn:9223372036854776000≤n)
  (hG:∀ e,G e=some (.error ((e.1,e.2),X e))) (hF:∀ l,l.length=1→Does (F l) (fun r=>pj r=kH (eb (if cs.all (fun c=>!decide (c.Card=l.getD 0 0)) then .ok (f l) else .error (5,a.At)) fun q=>C (q,Qk Qb a.Name true h)))) :
  Does ((Zu n a [(⟨1,1000000⟩:ZA)]).bind (Rk F G)) (fun r=>pj r=kH (eb (O5 cs a f) fun q=>C (q,Qk Qb a.Name true h))):=by
 rw [BG ht hn zq,Zr]
 unfold O5
 match hq:kD a [(⟨1,1000000⟩:ZA)] with
 | .error e=>exact ⟨_,hG e,rfl⟩
 | .ok l=>exact hF l (Dy ht hq).1
theorem Dz {y:Except (Int × Int) Int} {m:Option (Except (Int × Int) Int)} {f:Int→SQ} {F:Int→Option (Except AE AQ)} {G:(Int × Int)→Option (Except AE AQ)} {X:(Int × Int)→AQ} (hm:m=some y)
  (hG:∀ e,G e=some (.error ((e.1,e.2),X e))) (hF:∀ x,Does (F x) (fun r=>pj r=kH (C (f x,Qk Qb a.Name true h)))) :
  Does (m.bind (Rk F G)) (fun r=>pj r=kH (eb (eb y fun x=>.ok (f x)) fun q=>C (q,Qk Qb a.Name true h))):=by
 rw [hm,Zr]
 cases y with
 | error e=>exact ⟨_,hG e,rfl⟩
 | ok x=>exact hF x
end
theorem JW {l:List Int} {i:Nat} (h:i < l.length):Q8 l (i:Int)=some (l.getD i 0):=by
 rw [Zp,List.getElem?_eq_getElem h,List.getD_eq_getElem?_getD,List.getElem?_eq_getElem h]; rfl
theorem nH {n d:Nat} {y:GN} {s:Qm} {f:Bool} {dd:List ZX} {h7 h10:VZ} {th:Am} {c:ZJ} {k:ZT} {g:ZY} {b:Zi} (ht:KE d y) (hs:s.Contracts.length≤100) (hn:9223372036854776000≤n) :
  Does (Ho n y c k g b s f dd h7 th h10) (fun r=>pj r=kH (BH y.N s.Contracts th (QA y.Kids) (c,k,g,b) h10)):=by
 obtain ⟨e,rfl,hl,_,hk⟩:=ZP ht
 unfold Ho
 refine WA (n:=n) (B:=fun recl1 (v:Int × ZJ × ZT × ZY × Zi × VZ)=>JK n y s f dd h7 th recl1 v.1 v.2.1 v.2.2.1 v.2.2.2.1 v.2.2.2.2.1 v.2.2.2.2.2) (v:=(0,c,k,g,b,h10))
  (Q:=fun v r=>pj r=kH (BH y.N s.Contracts th (QA (y.Kids.drop v.1.toNat)) (v.2.1,v.2.2.1,v.2.2.2.1,v.2.2.2.2.1) v.2.2.2.2.2)) (fun v=>y.Kids.length - v.1.toNat) (fun v=>∃ i:Nat,v.1=(i:Int)∧i≤y.Kids.length) ?_ ⟨0,rfl,by omega⟩ (by simp only; omega)
 rintro rec ⟨q,c,k,g,b,h⟩ ⟨i,hi,hil⟩ hrec
 simp only at hi hrec ⊢
 subst hi
 unfold JK
 simp only [Qc,List.length_map,QO,Int.toNat_natCast] at hrec ⊢
 by_cases c1:i < y.Kids.length
 rotate_left
 ·rw [Vw zo,cond_false,Um _ zo]; exact QG rfl
 obtain ⟨a,ha,hta,hc⟩:=Gj hk c1
 obtain ⟨C,hC⟩:∃ C:SQ × VZ→Except (Int × Int) (SQ × VZ),C=fun v=>BH y.N s.Contracts th (QA (y.Kids.drop (i+1))) v.1 v.2:=⟨_,rfl⟩
 have hnext:∀ c k g b h,Does (QH (i:Int) rec c k g b h) (fun r=>pj r=kH (C ((c,k,g,b),h))):=by
  intro c k g b h
  rw [hC]
  unfold QH
  rw [KG (x:=(i:Int)+1) zo zo]
  have:=hrec ((i:Int)+1,c,k,g,b,h) ⟨i+1,by simp,c1⟩ (by simp only; omega)
  simpa only [show ((i:Int)+1).toNat=i+1 by omega] using this
 rw [WB zo,cond_true,ha,Zr,hc,YK]
 unfold BH
 by_cases h3:a.Kind=3
 rotate_left
 ·rw [Vw h3,if_neg h3,Bool.not_false,cond_true]
  have:=hnext c k g b h
  rw [hC] at this
  exact this
 rw [WB h3,if_pos h3,Bool.not_true,cond_false]
 simp only [Bool.and_true]
 rw [← hC]
 unfold ut QP
 by_cases c20:a.Name=[108,105,109,105,116]
 ·rw [if_pos c20,beq_iff_eq.2 c20,cond_true]
  refine XA zq zo ?_
  refine Fj (sp:=[(⟨1,1000⟩:ZA)]) (C:=C) (X:=fun e=>_) hta hn zq (fun e=>rfl) (fun l hl1=>?_)
  simp only [SC,List.length_nil] at hl1
  rw [show Q8 l 0=some (l.getD 0 0) from JW (i:=0) zo,Zr]
  exact hnext _ _ _ _ _
 rw [if_neg c20,show (a.Name == [108,105,109,105,116])=false from by simpa using c20,cond_false]
 by_cases c21:a.Name=[110,101,117,116,114,97,108]
 ·rw [if_pos c21,beq_iff_eq.2 c21,cond_true]
  refine XA zq zo ?_
  refine Fj (sp:=[(⟨1,1000⟩:ZA)]) (C:=C) (X:=fun e=>_) hta hn zq (fun e=>rfl) (fun l hl1=>?_)
  simp only [SC,List.length_nil] at hl1
  rw [show Q8 l 0=some (l.getD 0 0) from JW (i:=0) zo,Zr]
  exact hnext _ _ _ _ _
 rw [if_neg c21,show (a.Name == [110,101,117,116,114,97,108])=false from by simpa using c21,cond_false]
 by_cases c22:a.Name=[102,117,115,101]
 ·rw [if_pos c22,beq_iff_eq.2 c22,cond_true]
  refine XA zq zo ?_
  refine Fj (sp:=[(⟨1,1000⟩:ZA),(⟨0,1000000⟩:ZA)]) (C:=C) (X:=fun e=>_) hta hn zq (fun e=>rfl) (fun l hl1=>?_)
  simp only [SC,List.length_nil] at hl1
  rw [show Q8 l 0=some (l.getD 0 0) from JW (i:=0) zo,Zr,show Q8 l 1=some (l.getD 1 0) from JW (i:=1) zo,Zr]
  exact hnext _ _ _ _ _
 rw [if_neg c22,show (a.Name == [102,117,115,101])=false from by simpa using c22,cond_false]
 by_cases c23:a.Name=[116,104,101,114,109,97,108]
 ·rw [if_pos c23,beq_iff_eq.2 c23,cond_true]
  refine XA zq zo ?_
  refine Fj (sp:=[(⟨0,200000⟩:ZA),(⟨0,200000⟩:ZA),(⟨0,1000⟩:ZA),(⟨0,1000⟩:ZA),(⟨1,1000000⟩:ZA)]) (C:=C) (X:=fun e=>_) hta hn zq (fun e=>rfl) (fun l hl1=>?_)
  simp only [SC,List.length_nil] at hl1
  rw [show Q8 l 0=some (l.getD 0 0) from JW (i:=0) zo,Zr,show Q8 l 1=some (l.getD 1 0) from JW (i:=1) zo,Zr,show Q8 l 2=some (l.getD 2 0) from JW (i:=2) zo,Zr,show Q8 l 3=some (l.getD 3 0) from JW (i:=3) zo,Zr,show Q8 l 4=some (l.getD 4 0) from JW (i:=4) zo,Zr]
  exact hnext _ _ _ _ _
 rw [if_neg c23,show (a.Name == [116,104,101,114,109,97,108])=false from by simpa using c23,cond_false]
 by_cases c24:a.Name=[102,114,111,109]
 ·rw [if_pos c24,beq_iff_eq.2 c24,cond_true]
  refine XA zq zo ?_
  exact Dz (C:=C) (X:=fun e=>_) (ul hta (by omega:2000≤n)) (fun e=>rfl) (fun x=>hnext _ _ _ _ _)
 rw [if_neg c24,show (a.Name == [102,114,111,109])=false from by simpa using c24,cond_false]
 by_cases c25:a.Name=[111,119,110,101,114]
 ·rw [if_pos c25,beq_iff_eq.2 c25,cond_true]
  refine XA zq zo ?_
  exact Dz (C:=C) (X:=fun e=>_) (um hta (by omega:2000≤n)) (fun e=>rfl) (fun x=>hnext _ _ _ _ _)
 rw [if_neg c25,show (a.Name == [111,119,110,101,114])=false from by simpa using c25,cond_false]
 by_cases c26:a.Name=[114,97,110,107]
 ·rw [if_pos c26,beq_iff_eq.2 c26,cond_true]
  refine XA zq zo ?_
  refine Fj (sp:=[(⟨1,9⟩:ZA)]) (C:=C) (X:=fun e=>_) hta hn zq (fun e=>rfl) (fun l hl1=>?_)
  simp only [SC,List.length_nil] at hl1
  rw [show Q8 l 0=some (l.getD 0 0) from JW (i:=0) zo,Zr]
  exact hnext _ _ _ _ _
 rw [if_neg c26,show (a.Name == [114,97,110,107])=false from by simpa using c26,cond_false]
 by_cases c27:a.Name=[99,97,114,100]
 ·rw [if_pos c27,beq_iff_eq.2 c27,cond_true]
  refine XA zq zo ?_
  refine uu (C:=C) (X:=fun e=>_) hta hn (fun e=>rfl) (fun l hl1=>?_)
  rw [show Q8 l 0=some (l.getD 0 0) from JW (i:=0) zo,Zr]
  generalize l.getD 0 0=z
  have:=VV (B:=fun recl52 l52=>Ja s (i:Int) c k g b h rec a z recl52 l52) (n:=n) (L:=s.Contracts.length) (fun i2 r=>pj r=kH (eb (if (s.Contracts.drop i2).all (fun c=>!decide (c.Card=z)) then .ok (c,(⟨k.Name,k.Owner,k.Rank,z⟩:ZT),g,b) else .error (5,a.At)) fun q=>C (q,Qk Qb a.Name true h))) zo (fun rec2 i2 hi2 hr2=>?_) 0 zo zo
  ·exact this
  unfold Ja
  simp only [Qc,List.length_map,QO]
  by_cases c2:i2 < s.Contracts.length
  rotate_left
  ·rw [Vw zo,cond_false,List.drop_eq_nil_of_le zo]
   exact hnext _ _ _ _ _
  obtain ⟨w1,w2⟩:=hr2 c2
  rw [WB zo,cond_true,Zp,List.getElem?_eq_getElem c2,Zr,w1,List.drop_eq_getElem_cons c2,List.all_cons,YK]
  generalize s.Contracts[i2]'c2=t
  cases decide (t.Card=z)
  ·simpa using w2
  ·exact QG rfl
 rw [if_neg c27,show (a.Name == [99,97,114,100])=false from by simpa using c27,cond_false]
 by_cases c28:a.Name=[97,116]
 ·rw [if_pos c28,beq_iff_eq.2 c28,cond_true]
  refine XA zq zo ?_
  exact Dz (C:=C) (X:=fun e=>_) (ul hta (by omega:2000≤n)) (fun e=>rfl) (fun x=>hnext _ _ _ _ _)
 rw [if_neg c28,show (a.Name == [97,116])=false from by simpa using c28,cond_false]
 by_cases c29:a.Name=[112,104,97,115,101,115]
 ·rw [if_pos c29,beq_iff_eq.2 c29,cond_true]
  refine XA zq zo ?_
  exact Dz (C:=C) (X:=fun e=>_) (uq hta hn) (fun e=>rfl) (fun x=>hnext _ _ _ _ _)
 rw [if_neg c29,show (a.Name == [112,104,97,115,101,115])=false from by simpa using c29,cond_false]
 by_cases c30:a.Name=[97,109,112,115]
 ·rw [if_pos c30,beq_iff_eq.2 c30,cond_true]
  refine XA zq zo ?_
  refine Fj (sp:=[(⟨1,80⟩:ZA),(⟨1,80⟩:ZA),(⟨1,80⟩:ZA)]) (C:=C) (X:=fun e=>_) hta hn zq (fun e=>rfl) (fun l hl1=>?_)
  simp only [SC,List.length_nil] at hl1
  rw [show Q8 l 0=some (l.getD 0 0) from JW (i:=0) zo,Zr,show Q8 l 1=some (l.getD 1 0) from JW (i:=1) zo,Zr,show Q8 l 2=some (l.getD 2 0) from JW (i:=2) zo,Zr]
  exact hnext _ _ _ _ _
 rw [if_neg c30,show (a.Name == [97,109,112,115])=false from by simpa using c30,cond_false]
 by_cases c31:a.Name=[102,97,108,108,98,97,99,107]
 ·rw [if_pos c31,beq_iff_eq.2 c31,cond_true]
  refine XA zq zo ?_
  refine Fj (sp:=[(⟨0,80⟩:ZA)]) (C:=C) (X:=fun e=>_) hta hn zq (fun e=>rfl) (fun l hl1=>?_)
  simp only [SC,List.length_nil] at hl1
  rw [show Q8 l 0=some (l.getD 0 0) from JW (i:=0) zo,Zr]
  exact hnext _ _ _ _ _
 rw [if_neg c31,show (a.Name == [102,97,108,108,98,97,99,107])=false from by simpa using c31,cond_false]
 by_cases c32:a.Name=[99,104,97,114,103,101,114]
 ·rw [if_pos c32,beq_iff_eq.2 c32,cond_true]
  refine XA zq zo ?_
  exact Dz (C:=C) (X:=fun e=>_) (uo hta (by omega:2000≤n)) (fun e=>rfl) (fun x=>hnext _ _ _ _ _)
 rw [if_neg c32,show (a.Name == [99,104,97,114,103,101,114])=false from by simpa using c32,cond_false]
 exact QG rfl
def needT:List (List Int × List UInt8):=[([1,2],[108,105,109,105,116]),([1,2],[110,101,117,116,114,97,108]),([2],[102,114,111,109]),([4,5],[111,119,110,101,114]),([4],[114,97,110,107]),([4],[99,97,114,100]),([5],[97,116]),([5],[112,104,97,115,101,115]),([5],[97,109,112,115]),([5],[102,97,108,108,98,97,99,107]),([6],[99,104,97,114,103,101,114])]
def Ao (k:Int) (h:VZ):Bool:=needT.any fun p=>p.1.contains k&&!YZ h p.2
def Ap (g:ZY):Bool:=leI g.Min g.Max&&(Qi g.Fallback 0||(leI g.Min g.Fallback&&leI g.Fallback g.Max))
def Aq (k:Int) (c:ZJ) (g:ZY) (h:VZ):Bool:=(YZ h [116,104,101,114,109,97,108]&&!QO c.Cable.Ambient c.Cable.Most)||(Qi k 5&&!Ap g)
def tq (y:GN) (c:ZJ) (g:ZY) (h:VZ):Except (Int × Int) Unit:=if Ao y.N h then .error (4,y.At) else if Aq y.N c g h then .error (3,y.At) else .ok ()
theorem uw {R:Type} {f d:R} {bs:List Bool}:yO (some f) (some d) (bs.map fun b q=>cond b (some f) q)=some (if bs.any id then f else d):=by
 unfold yO
 rw [if_pos (by rw [List.all_eq_true]; intro t ht; obtain ⟨b,_,rfl⟩:=List.mem_map.1 ht; cases b <;> rfl)]
 induction bs with
 | nil=>rfl
 | cons b bs ih =>
  rw [List.map_cons,List.foldr_cons,ih]
  cases b <;> rfl
theorem cb1 {R:Type} {c x:Bool} {k:Bool→Option R}:((cond c (some x) (some false)).bind k)=k (c&&x):=by cases c <;> rfl
theorem cb2 {R:Type} {c:Bool} {q:Option R}:((cond c (some ()) (some ())).bind fun _=>q)=q:=by cases c <;> rfl
theorem tu (n:Nat) (g:ZY):KR n g=some (Ap g):=by
 unfold KR Ap
 cases leI g.Min g.Max
 ·rfl
 ·cases Qi g.Fallback 0
  ·cases leI g.Min g.Fallback <;> rfl
  ·rfl
theorem nI {n:Nat} {y:GN} {s:Qm} {f:Bool} {dd:List ZX} {h7 h10:VZ} {th:Am} {c:ZJ} {k:ZT} {g:ZY} {b:Zi} (hn:2000≤n) :
  Hq n y c k g b s f dd h7 th h10=some (tq y c g h10):=by
 have R:∀ (ks:List Int) (o:Bool),ks.length≤5→QE n ks o y.N=some (ks.contains y.N):=fun ks o h=>uk zo hn
 unfold Hq
 have hj:Vt n y c g h10=some (if Aq y.N c g h10 then .error (3,y.At) else .ok ()):=by
  unfold Vt YN Aq YZ
  rw [tu]
  cases QB Qb [116,104,101,114,109,97,108] false h10 <;> cases QO c.Cable.Ambient c.Cable.Most <;> cases Qi y.N 5 <;> cases Ap g <;> rfl
 rw [hj]
 simp only [R [1,2] false zq,R [1,2] true zq,R [2] false zq,R [4,5] false zq,R [4] false zq,R [5] false zq,R [6] false zq,Zr,cb1,cb2]
 refine (uw (bs:=[([1,2]:List Int).contains y.N&&!YZ h10 [108,105,109,105,116],([1,2]:List Int).contains y.N&&!YZ h10 [110,101,117,116,114,97,108],false,false,([2]:List Int).contains y.N&&!YZ h10 [102,114,111,109],([4,5]:List Int).contains y.N&&!YZ h10 [111,119,110,101,114],([4]:List Int).contains y.N&&!YZ h10 [114,97,110,107],([4]:List Int).contains y.N&&!YZ h10 [99,97,114,100],([5]:List Int).contains y.N&&!YZ h10 [97,116],([5]:List Int).contains y.N&&!YZ h10 [112,104,97,115,101,115],([5]:List Int).contains y.N&&!YZ h10 [97,109,112,115],([5]:List Int).contains y.N&&!YZ h10 [102,97,108,108,98,97,99,107],([6]:List Int).contains y.N&&!YZ h10 [99,104,97,114,103,101,114]])).trans ?_
 unfold tq Ao needT
 simp only [List.any_cons,List.any_nil,id,Bool.or_false,Bool.false_or]
structure BS where
 cs:List ZJ
 os:List Zb
 ks:List ZT
 gs:List ZY
 bs:List Zi
 fd:Bool
 dg:List ZX
 nm:VZ
 th:Am
def BS.t (s:BS):List ZJ × List Zb × List ZT × List ZY × List Zi × Bool × List ZX × VZ × Am:=(s.cs,s.os,s.ks,s.gs,s.bs,s.fd,s.dg,s.nm,s.th)
def BS.u (s:BS):List ZJ × List Zb × List ZT × List ZY × List Zi × Bool × List ZX × Am:=(s.cs,s.os,s.ks,s.gs,s.bs,s.fd,s.dg,s.th)
def BS.err (s:BS) (e:Int × Int):BS:={ s with dg:=s.dg++[⟨e.1,e.2⟩] }
def BS.site (s:BS):Qm:=⟨s.cs,s.os,s.ks,s.gs,s.bs⟩
def Ar:SQ:=(⟨[],0,0,0,⟨0,0⟩,⟨0,0,0,0,0⟩⟩,⟨[],0,0,0⟩,⟨[],0,0,0,0,0,0,0⟩,⟨[],0⟩)
def iL (y:GN) (s:BS):Bool:=YZ s.nm y.Name||(Qi y.N 1&&s.fd)
def DC (k:Int) (s:BS):Int:=cond (Qi k 1||Qi k 2) (s.cs.length:Int) (cond (Qi k 3) (s.os.length:Int) (cond (Qi k 4) (s.ks.length:Int) (cond (Qi k 5) (s.gs.length:Int) (s.bs.length:Int))))
def Au (k:Int):Int:=cond (Qi k 1||Qi k 2) 16 (cond (Qi k 3) 8 (cond (Qi k 4) 32 (cond (Qi k 5) 16 24)))
def O6 (y:GN) (s:BS):Except (Int × Int) SQ:=eb (BH y.N s.ks s.th (QA y.Kids) Ar []) fun v=>eb (tq y v.1.1 v.1.2.2.1 v.2) fun _=>.ok v.1
def Uz (y:GN) (q:SQ) (s:BS):BS :=
 let t:=Qk Qv y.Name (⟨y.N,DC y.N s⟩:Kt) s.th
 if y.N=1 then { s with cs:=s.cs++[⟨y.Name,-1,q.1.Limit,q.1.Neutral,q.1.Fuse,q.1.Cable⟩],th:=t }
 else if y.N=2 then { s with cs:=s.cs++[⟨y.Name,q.1.Up,q.1.Limit,q.1.Neutral,q.1.Fuse,q.1.Cable⟩],th:=t }
 else if y.N=3 then { s with os:=s.os++[⟨y.Name⟩],th:=t }
 else if y.N=4 then { s with ks:=s.ks++[⟨y.Name,q.2.1.Owner,q.2.1.Rank,q.2.1.Card⟩],th:=t }
 else if y.N=5 then { s with gs:=s.gs++[⟨y.Name,q.2.2.1.At,q.2.2.1.Phases,q.2.2.1.Min,q.2.2.1.Max,q.2.2.1.Step,q.2.2.1.Fallback,q.2.2.1.Owner⟩],th:=t }
 else if y.N=6 then { s with bs:=s.bs++[⟨y.Name,q.2.2.2.Charger⟩],th:=t }
 else { s with th:=t }
def ZO (y:GN) (s:BS):BS:={ s with fd:=s.fd||Qi y.N 1,nm:=Qk Qb y.Name true s.nm }
def YS (y:GN) (s:BS):BS :=
 if iL y s then (ZO y s).err (5,y.At)
 else if y.N=7 then ZO y s
 else if Au y.N≤DC y.N s then (ZO y s).err (2,y.At)
 else match O6 y s with
  | .error e=>(ZO y s).err e
  | .ok q=>Uz y q (ZO y s)
def runF:List GN→BS→BS
 | [],s=>s
 | y :: l,s=>if (YS y s).dg.length=20 then YS y s else runF l (YS y s)
def BS.fit (s:BS):Prop:=s.cs.length≤16∧s.os.length≤8∧s.ks.length≤32∧s.gs.length≤16∧s.bs.length≤24
def bs0:BS:=⟨[],[],[],[],[],false,[],[],[]⟩
theorem DD {y:GN} {s:BS} (h:s.fit):(YS y s).fit∧(YS y s).dg.length≤s.dg.length+1∧∃ e,(YS y s).dg=s.dg++e:=by
 obtain ⟨h1,h2,h3,h4,h5⟩:=h
 have herr:∀ e,((ZO y s).err e).fit∧((ZO y s).err e).dg.length≤s.dg.length+1∧∃ d,((ZO y s).err e).dg=s.dg++d:=fun e=>⟨⟨h1,h2,h3,h4,h5⟩,by simp [BS.err,ZO],_,rfl⟩
 have hm:(ZO y s).fit∧(ZO y s).dg.length≤s.dg.length+1∧∃ d,(ZO y s).dg=s.dg++d:=⟨⟨h1,h2,h3,h4,h5⟩,by simp [ZO],[],by simp [ZO]⟩
 unfold YS
 split
 ·exact herr _
 split
 ·exact hm
 split
 ·exact herr _
 rename_i hr
 split
 ·exact herr _
 rename_i q _
 obtain ⟨_,hd,d,hd2⟩:=hm
 unfold Au DC at hr
 unfold Uz
 by_cases c1:y.N=1
 ·rw [if_pos c1]
  rw [c1] at hr
  have:(s.cs.length:Int) < 16:=by simpa [Qi] using hr
  exact ⟨⟨by simp [ZO]; omega,h2,h3,h4,h5⟩,hd,d,hd2⟩
 rw [if_neg c1]
 by_cases c2:y.N=2
 ·rw [if_pos c2]
  rw [c2] at hr
  have:(s.cs.length:Int) < 16:=by simpa [Qi] using hr
  exact ⟨⟨by simp [ZO]; omega,h2,h3,h4,h5⟩,hd,d,hd2⟩
 rw [if_neg c2]
 by_cases c3:y.N=3
 ·rw [if_pos c3]
  rw [c3] at hr
  have:(s.os.length:Int) < 8:=by simpa [Qi] using hr
  exact ⟨⟨h1,by simp [ZO]; omega,h3,h4,h5⟩,hd,d,hd2⟩
 rw [if_neg c3]
 by_cases c4:y.N=4
 ·rw [if_pos c4]
  rw [c4] at hr
  have:(s.ks.length:Int) < 32:=by simpa [Qi] using hr
  exact ⟨⟨h1,h2,by simp [ZO]; omega,h4,h5⟩,hd,d,hd2⟩
 rw [if_neg c4]
 by_cases c5:y.N=5
 ·rw [if_pos c5]
  rw [c5] at hr
  have:(s.gs.length:Int) < 16:=by simpa [Qi] using hr
  exact ⟨⟨h1,h2,h3,by simp [ZO]; omega,h5⟩,hd,d,hd2⟩
 rw [if_neg c5]
 by_cases c6:y.N=6
 ·rw [if_pos c6]
  rw [c6] at hr
  have:(s.bs.length:Int) < 24:=by simpa [Qi] using hr
  exact ⟨⟨h1,h2,h3,h4,by simp [ZO]; omega⟩,hd,d,hd2⟩
 rw [if_neg c6]
 exact ⟨⟨h1,h2,h3,h4,h5⟩,hd,d,hd2⟩
theorem iB {α:Type} {l:List α} {k:Nat} (hl:l.length≤100) (hk:k≤1000):ZB l.length k=true:=by
 unfold ZB
 rw [decide_eq_true_eq]
 refine ⟨Nat.le_trans (Nat.mul_le_mul hl hk) zo,by omega⟩
theorem cod {b c:Bool}:(bif b then true else c)=(b||c):=by cases b <;> rfl
theorem cad {b c:Bool}:(bif b then c else false)=(b&&c):=by cases b <;> rfl
theorem nJ {y:GN} {q:SQ} {s:BS}:(Uz y q s).nm=s.nm:=by
 unfold Uz
 by_cases c1:y.N=1
 ·rw [if_pos c1]
 rw [if_neg c1]
 by_cases c2:y.N=2
 ·rw [if_pos c2]
 rw [if_neg c2]
 by_cases c3:y.N=3
 ·rw [if_pos c3]
 rw [if_neg c3]
 by_cases c4:y.N=4
 ·rw [if_pos c4]
 rw [if_neg c4]
 by_cases c5:y.N=5
 ·rw [if_pos c5]
 rw [if_neg c5]
 by_cases c6:y.N=6
 ·rw [if_pos c6]
 rw [if_neg c6]
theorem nK {y:GN} {s:BS}:(YS y s).nm=Qk Qb y.Name true s.nm:=by
 unfold YS
 split
 ·rfl
 split
 ·rfl
 split
 ·rfl
 split
 ·rfl
 ·rw [nJ]; rfl
theorem nL {n d:Nat} {x:GN} (ht:KE d x) (hn:9223372036854776000≤n) (hs:1+(x.Kids.length:Int)+nA (QA x.Kids)≤1500) :
  YG n x=some (if RL x then (if (runF (QA x.Kids) bs0).dg=[] then (if (runF (QA x.Kids) bs0).fd then ((runF (QA x.Kids) bs0).site,[]) else (⟨[],[],[],[],[]⟩,[⟨4,0⟩])) else (⟨[],[],[],[],[]⟩,(runF (QA x.Kids) bs0).dg)) else (⟨[],[],[],[],[]⟩,[⟨1,0⟩])):=by
 unfold YG
 rw [rJ ht hn hs,Zr]
 cases hv:RL x
 ·rfl
 obtain ⟨e,rfl,hl,_,hk⟩:=ZP ht
 simp only [Bool.not_true,cond_false,if_true]
 have hloop:Does (QZ (fun recl3 (v:Int × List ZJ × List Zb × List ZT × List ZY × List Zi × Bool × List ZX × VZ × Am)=>Y6 n x recl3 v.1 v.2.1 v.2.2.1 v.2.2.2.1 v.2.2.2.2.1 v.2.2.2.2.2.1 v.2.2.2.2.2.2.1 v.2.2.2.2.2.2.2.1 v.2.2.2.2.2.2.2.2.1 v.2.2.2.2.2.2.2.2.2) n (0,[],[],[],[],[],false,[],[],[])) (fun r=>r=(runF (QA x.Kids) bs0).t):=by
  have:=WA (n:=n) (B:=fun recl3 (v:Int × List ZJ × List Zb × List ZT × List ZY × List Zi × Bool × List ZX × VZ × Am)=>Y6 n x recl3 v.1 v.2.1 v.2.2.1 v.2.2.2.1 v.2.2.2.2.1 v.2.2.2.2.2.1 v.2.2.2.2.2.2.1 v.2.2.2.2.2.2.2.1 v.2.2.2.2.2.2.2.2.1 v.2.2.2.2.2.2.2.2.2) (v:=(0,[],[],[],[],[],false,[],[],[]))
   (Q:=fun v r=>∀ s:BS,v.2=s.t→r=(runF (QA (x.Kids.drop v.1.toNat)) s).t) (fun v=>x.Kids.length - v.1.toNat) (fun v=>(∃ i:Nat,v.1=(i:Int)∧i≤x.Kids.length)∧∃ s:BS,v.2=s.t∧s.fit∧s.dg.length < 20) ?_ ⟨⟨0,rfl,by omega⟩,bs0,rfl,by simp [BS.fit,bs0],by simp [bs0]⟩ (by simp only; omega)
  ·obtain ⟨r,e1,h⟩:=this
   exact ⟨r,e1,h bs0 rfl⟩
  rintro rec ⟨q,v⟩ ⟨⟨i,hi,hil⟩,s,hs,hfit,hdg⟩ hrec
  simp only at hi hs hrec ⊢
  subst hi hs
  obtain ⟨cs,os,ks,gs,bs,fd,dg,nm,th⟩:=s
  have hst:∀ s:BS,BS.t ⟨cs,os,ks,gs,bs,fd,dg,nm,th⟩=s.t→(⟨cs,os,ks,gs,bs,fd,dg,nm,th⟩:BS)=s:=by
   intro s h
   obtain ⟨_,_,_,_,_,_,_,_,_⟩:=s
   simp only [BS.t,Prod.mk.injEq] at h
   obtain ⟨rfl,rfl,rfl,rfl,rfl,rfl,rfl,rfl,rfl⟩:=h
   rfl
  unfold Y6
  simp only [Qc,List.length_map,QO,Int.toNat_natCast,BS.t] at hrec ⊢
  by_cases c1:i < x.Kids.length
  rotate_left
  ·rw [Vw zo,cond_false,Um _ zo]
   refine QG fun s hs=>?_
   rw [← hst s hs]; rfl
  obtain ⟨y,hy,hty,hc⟩:=Gj hk c1
  rw [WB zo,cond_true,hy,Zr,hc]
  obtain ⟨f1,f2,_⟩:=DD (y:=y) hfit
  refine XV (Q:=fun v=>v=(YS y ⟨cs,os,ks,gs,bs,fd,dg,nm,th⟩).u) ?_ ?_
  ·obtain ⟨g1,g2,g3,g4,g5⟩:=hfit
   simp only at g1 g2 g3 g4 g5 hdg
   have hd:∀ e:ZX,ZB (List.length (dg++[e])) 16=true:=fun e=>iB (by simp; omega) zo
   simp only [Kh,Zr,cod,cad,hd,cond_true]
   unfold YS
   rw [show (QB Qb y.Name false nm||(Qi y.N 1&&fd))=iL y ⟨cs,os,ks,gs,bs,fd,dg,nm,th⟩ from rfl]
   cases iL y ⟨cs,os,ks,gs,bs,fd,dg,nm,th⟩
   rotate_left
   ·rw [cond_true,if_pos rfl]; exact QG rfl
   rw [cond_false,if_neg zq,YK (y:=7)]
   by_cases c7:y.N=7
   ·rw [WB c7,if_pos c7,cond_true]; exact QG rfl
   rw [Vw c7,if_neg c7,cond_false]
   have hp:(bif (Qi y.N 1||Qi y.N 2) then ((cs.length:Int),(16:Int)) else bif Qi y.N 3 then ((os.length:Int),8) else bif Qi y.N 4 then ((ks.length:Int),32) else bif Qi y.N 5 then ((gs.length:Int),16) else ((bs.length:Int),24))=(DC y.N ⟨cs,os,ks,gs,bs,fd,dg,nm,th⟩,Au y.N):=by
    unfold DC Au
    cases (Qi y.N 1||Qi y.N 2)
    ·cases Qi y.N 3
     ·cases Qi y.N 4
      ·cases Qi y.N 5 <;> rfl
      ·rfl
     ·rfl
    ·rfl
   have hx:(bif (Qi y.N 1||Qi y.N 2) then (cs.length:Int) else bif Qi y.N 3 then (os.length:Int) else bif Qi y.N 4 then (ks.length:Int) else bif Qi y.N 5 then (gs.length:Int) else (bs.length:Int))=DC y.N ⟨cs,os,ks,gs,bs,fd,dg,nm,th⟩:=rfl
   have k1:∀ e:ZJ,ZB (List.length (cs++[e])) 96=true:=fun e=>iB (by simp; omega) zo
   have k2:∀ e:Zb,ZB (List.length (os++[e])) 16=true:=fun e=>iB (by simp; omega) zo
   have k3:∀ e:ZT,ZB (List.length (ks++[e])) 40=true:=fun e=>iB (by simp; omega) zo
   have k4:∀ e:ZY,ZB (List.length (gs++[e])) 72=true:=fun e=>iB (by simp; omega) zo
   have k5:∀ e:Zi,ZB (List.length (bs++[e])) 24=true:=fun e=>iB (by simp; omega) zo
   simp only [QcV,hp,hx,leI,k1,k2,k3,k4,k5,cond_true]
   by_cases c8:Au y.N≤DC y.N ⟨cs,os,ks,gs,bs,fd,dg,nm,th⟩
   ·rw [WB c8,if_pos c8]; exact QG rfl
   rw [Vw c8,if_neg c8,cond_false]
   obtain ⟨r,e1,h⟩:=nH (n:=n) (y:=y) (s:=⟨cs,os,ks,gs,bs⟩) (f:=(fd||Qi y.N 1)) (dd:=dg) (h7:=Qk Qb y.Name true nm) (h10:=[]) (th:=th) (c:=⟨[],0,0,0,⟨0,0⟩,⟨0,0,0,0,0⟩⟩) (k:=⟨[],0,0,0⟩) (g:=⟨[],0,0,0,0,0,0,0⟩) (b:=⟨[],0⟩) hty (by simp only; omega) hn
   rw [e1,Zr]
   change pj r=kH (BH y.N ks th (QA y.Kids) Ar []) at h
   have hR:O6 y ⟨cs,os,ks,gs,bs,fd,dg,nm,th⟩=eb (BH y.N ks th (QA y.Kids) Ar []) fun v=>eb (tq y v.1.1 v.1.2.2.1 v.2) fun _=>.ok v.1:=rfl
   rw [hR]
   generalize BH y.N ks th (QA y.Kids) Ar []=z at h
   cases r with
   | error e =>
    cases z with
    | ok v=>cases h
    | error z =>
     have h:e.1=z:=by simpa [pj,kH,eb] using h
     subst h
     simp only [Rk,eb]
     exact QG rfl
   | ok w =>
    cases z with
    | error z=>cases h
    | ok v =>
     have h:w=(v.1.1,v.1.2.1,v.1.2.2.1,v.1.2.2.2,v.2):=by simpa [pj,kH,eb] using h
     subst h
     simp only [Rk,eb]
     rw [nI zo,Zr]
     cases hw:tq y v.1.1 v.1.2.2.1 v.2 with
     | error e =>
      simp only [Rk]
      exact QG rfl
     | ok _ =>
      simp only [Rk,YK]
      unfold Uz
      by_cases c1:y.N=1
      ·rw [WB c1,if_pos c1]; exact QG (by simp only [BS.u,ZO,YK,WB c1]; rfl)
      rw [Vw c1,if_neg c1]
      by_cases c2:y.N=2
      ·rw [WB c2,if_pos c2]; exact QG (by simp only [BS.u,ZO,YK,Vw c1]; rfl)
      rw [Vw c2,if_neg c2]
      by_cases c3:y.N=3
      ·rw [WB c3,if_pos c3]; exact QG (by simp only [BS.u,ZO,YK,Vw c1]; rfl)
      rw [Vw c3,if_neg c3]
      by_cases c4:y.N=4
      ·rw [WB c4,if_pos c4]; exact QG (by simp only [BS.u,ZO,YK,Vw c1]; rfl)
      rw [Vw c4,if_neg c4]
      by_cases c5:y.N=5
      ·rw [WB c5,if_pos c5]; exact QG (by simp only [BS.u,ZO,YK,Vw c1]; rfl)
      rw [Vw c5,if_neg c5]
      by_cases c6:y.N=6
      ·rw [WB c6,if_pos c6]; exact QG (by simp only [BS.u,ZO,YK,Vw c1]; rfl)
      rw [Vw c6,if_neg c6]
      exact QG (by simp only [BS.u,ZO,YK,Vw c1]; rfl)
  rintro ⟨u1,u2,u3,u4,u5,u6,u7,u8⟩ hu
  have hnm:=nK (y:=y) (s:=⟨cs,os,ks,gs,bs,fd,dg,nm,th⟩)
  refine Yp (Q:=fun r=>r=(runF (y :: QA (x.Kids.drop (i+1))) ⟨cs,os,ks,gs,bs,fd,dg,nm,th⟩).t) ?_ (fun r hr s hs=>by rw [hr,hst s hs]; rfl)
  unfold runF
  generalize YS y ⟨cs,os,ks,gs,bs,fd,dg,nm,th⟩=z at *
  obtain ⟨z1,z2,z3,z4,z5,z6,z7,z8,z9⟩:=z
  simp only [BS.u,Prod.mk.injEq] at hu
  obtain ⟨rfl,rfl,rfl,rfl,rfl,rfl,rfl,rfl⟩:=hu
  simp only at hnm f2 hdg ⊢
  subst hnm
  rw [YK]
  by_cases c9:u7.length=20
  ·rw [WB zo,if_pos c9]; exact QG rfl
  ·rw [Vw zo,if_neg c9,cond_false,KG (x:=(i:Int)+1) zo zo]
   refine Yp (hrec ((i:Int)+1,u1,u2,u3,u4,u5,u6,u7,_,u8) ⟨⟨i+1,by simp,c1⟩,⟨u1,u2,u3,u4,u5,u6,u7,_,u8⟩,rfl,f1,by simp only; omega⟩ (by simp only; omega)) ?_
   intro r hr
   have:=hr ⟨u1,u2,u3,u4,u5,u6,u7,_,u8⟩ rfl
   rw [show ((i:Int)+1).toNat=i+1 by omega] at this
   exact this
 obtain ⟨r,e1,h⟩:=hloop
 rw [h] at e1
 rw [e1,Zr]
 generalize runF (QA x.Kids) bs0=z
 obtain ⟨z1,z2,z3,z4,z5,z6,z7,z8,z9⟩:=z
 show (cond (QO 0 (Qc (List.map ZX.cs z7))) (some ((⟨[],[],[],[],[]⟩:Qm),z7)) (cond (!z6) (some ((⟨[],[],[],[],[]⟩:Qm),[(⟨4,0⟩:ZX)])) (some ((⟨z1,z2,z3,z4,z5⟩:Qm),[]))))=_
 simp only [BS.site]
 cases z7 with
 | nil=>cases z6 <;> rfl
 | cons a l =>
  rw [if_neg zq]
  simp only [Qc,QO,List.length_map,SC]
  rw [WB zo]
  rfl
theorem tC:Xv 36893488147419103232=some true:=by kernel_rfl
theorem Qb6 {n d:Nat} {x:GN} (ht:KE d x) (hn:9223372036854776000≤n):Does (Uk n x 400) (fun b=>b=true→1+(x.Kids.length:Int)+nA (QA x.Kids)≤400):=by
 obtain ⟨c,e,c1,c2,c3⟩:=nz 400 n d x 400 ht zo zo zo zo
 unfold Uk
 rw [e,Zr,leI]
 by_cases h:c≤400
 rotate_left
 ·rw [Vw h]; exact QG fun h=>by cases h
 rw [WB h,cond_true]
 refine XV (xY 50 n d x 50 ht zo zo zo zo) fun r _=>QG fun _=>?_
 have:=c3 h 3
 rw [sz3 ht] at this
 omega
theorem uy {y:GN} {q:SQ} {s:BS}:(Uz y q s).nm=s.nm∧(Uz y q s).fd=s.fd∧(Uz y q s).dg=s.dg∧(∃ a,(Uz y q s).cs=s.cs++a)∧(∃ a,(Uz y q s).os=s.os++a)∧(∃ a,(Uz y q s).ks=s.ks++a)∧(∃ a,(Uz y q s).gs=s.gs++a)∧(∃ a,(Uz y q s).bs=s.bs++a):=by
 have z:∀ {α:Type} (l:List α),∃ a,l=l++a:=fun l=>⟨[],by simp⟩
 unfold Uz
 by_cases c1:y.N=1
 ·rw [if_pos c1]; exact ⟨rfl,rfl,rfl,⟨_,rfl⟩,z _,z _,z _,z _⟩
 rw [if_neg c1]
 by_cases c2:y.N=2
 ·rw [if_pos c2]; exact ⟨rfl,rfl,rfl,⟨_,rfl⟩,z _,z _,z _,z _⟩
 rw [if_neg c2]
 by_cases c3:y.N=3
 ·rw [if_pos c3]; exact ⟨rfl,rfl,rfl,z _,⟨_,rfl⟩,z _,z _,z _⟩
 rw [if_neg c3]
 by_cases c4:y.N=4
 ·rw [if_pos c4]; exact ⟨rfl,rfl,rfl,z _,z _,⟨_,rfl⟩,z _,z _⟩
 rw [if_neg c4]
 by_cases c5:y.N=5
 ·rw [if_pos c5]; exact ⟨rfl,rfl,rfl,z _,z _,z _,⟨_,rfl⟩,z _⟩
 rw [if_neg c5]
 by_cases c6:y.N=6
 ·rw [if_pos c6]; exact ⟨rfl,rfl,rfl,z _,z _,z _,z _,⟨_,rfl⟩⟩
 rw [if_neg c6]
 exact ⟨rfl,rfl,rfl,z _,z _,z _,z _,z _⟩
def IL (s t:BS):Prop:=(∃ a,t.dg=s.dg++a)∧(∃ a,t.cs=s.cs++a)∧(∃ a,t.os=s.os++a)∧(∃ a,t.ks=s.ks++a)∧(∃ a,t.gs=s.gs++a)∧(∃ a,t.bs=s.bs++a)
theorem Av {α:Type} {l m r:List α} (h1:∃ a,m=l++a) (h2:∃ a,r=m++a):∃ a,r=l++a:=by
 obtain ⟨a,rfl⟩:=h1
 obtain ⟨b,rfl⟩:=h2
 exact ⟨a++b,by simp⟩
theorem uz {s t u:BS} (h1:IL s t) (h2:IL t u):IL s u :=
 ⟨Av h1.1 h2.1,Av h1.2.1 h2.2.1,Av h1.2.2.1 h2.2.2.1,Av h1.2.2.2.1 h2.2.2.2.1,Av h1.2.2.2.2.1 h2.2.2.2.2.1,Av h1.2.2.2.2.2 h2.2.2.2.2.2⟩
theorem uA (s:BS):IL s s:=⟨⟨[],by simp⟩,⟨[],by simp⟩,⟨[],by simp⟩,⟨[],by simp⟩,⟨[],by simp⟩,⟨[],by simp⟩⟩
theorem Aw {y:GN} {s:BS}:IL s (YS y s)∧(YS y s).fd=(s.fd||Qi y.N 1):=by
 have hm:IL s (ZO y s):=uA s
 have he:∀ e,IL s ((ZO y s).err e):=fun e=>⟨⟨_,rfl⟩,hm.2⟩
 unfold YS
 split
 ·exact ⟨he _,rfl⟩
 split
 ·exact ⟨hm,rfl⟩
 split
 ·exact ⟨he _,rfl⟩
 split
 ·exact ⟨he _,rfl⟩
 ·rename_i q _
  obtain ⟨_,d1,d2,d3⟩:=uy (y:=y) (q:=q) (s:=ZO y s)
  exact ⟨uz hm ⟨⟨[],by rw [d2]; simp⟩,d3⟩,d1⟩
theorem O7:∀ {l:List GN} {s:BS},IL s (runF l s)
 | [],s=>uA s
 | y :: l,s=>by
  unfold runF
  split
  ·exact Aw.1
  ·exact uz Aw.1 O7
theorem tF {s t:BS} (h:IL s t) (ht:t.dg=[]):s.dg=[]:=by
 obtain ⟨a,e⟩:=h.1
 rw [ht] at e
 exact (List.append_eq_nil_iff.1 e.symm).1
theorem jd {y:GN} {l:List GN} {s:BS} (h:(runF (y :: l) s).dg=[]):(YS y s).dg=[]∧runF (y :: l) s=runF l (YS y s):=by
 have e:runF (y :: l) s=if (YS y s).dg.length=20 then YS y s else runF l (YS y s):=rfl
 rw [e] at h ⊢
 split at h
 ·rename_i h1; rw [h] at h1; cases h1
 ·rename_i h1
  rw [if_neg h1]
  exact ⟨tF O7 h,rfl⟩
theorem good_step {y:GN} {s:BS} (h:(YS y s).dg=[]):iL y s=false∧((y.N=7∧YS y s=ZO y s)∨(y.N ≠ 7∧¬ Au y.N≤DC y.N s∧∃ q,O6 y s=.ok q∧YS y s=Uz y q (ZO y s))):=by
 unfold YS at h ⊢
 split at h
 ·simp [BS.err] at h
 rename_i h1
 simp only [Bool.not_eq_true] at h1
 rw [if_neg (by rw [h1]; simp)]
 refine ⟨h1,?_⟩
 split at h
 ·rename_i h2; exact .inl ⟨h2,by rw [if_pos h2]⟩
 rename_i h2
 rw [if_neg h2]
 split at h
 ·simp [BS.err] at h
 rename_i h3
 rw [if_neg h3]
 split at h
 ·simp [BS.err] at h
 rename_i q hq
 exact .inr ⟨h2,h3,q,hq,rfl⟩
theorem vo:∀ {l:List GN} {s:BS},s.fit→(runF l s).fit
 | [],s,h=>h
 | y :: l,s,h=>by
  unfold runF
  split
  ·exact (DD h).1
  ·exact vo (DD h).1
theorem iM:bs0.fit:=by simp [BS.fit,bs0]
theorem nM {n:Nat} {a:Qm} (h1:a.Conductors.length≤1000) (h2:a.Owners.length≤1000) (h3:a.Contracts.length≤1000) (h4:a.Chargers.length≤1000) (h5:a.Bays.length≤1000) (hn:2000≤n):Yu n a a=some true:=by
 unfold Yu
 have:=VV (B:=fun rec i=>VO a a rec i) (n:=n) (L:=a.Bays.length) (fun i r=>r=true) zo (fun rec i hi hr=>?_) 0 zo zo
 ·obtain ⟨r,e,rfl⟩:=this
  exact e
 unfold VO
 simp only [Qc,List.length_map,QO]
 by_cases c1:i < a.Bays.length
 rotate_left
 ·rw [Vw zo,cond_false]; exact BC rfl rfl
 obtain ⟨w1,w2⟩:=hr c1
 rw [WB zo,cond_true,Zp,List.getElem?_eq_getElem c1]
 simp only [Zr,w1,Xx,QP,Qi,beq_self_eq_true,Bool.and_self,Bool.not_true,cond_false]
 exact w2
theorem nN {n:Nat} {a:Qm} (h1:a.Conductors.length≤1000) (h2:a.Owners.length≤1000) (h3:a.Contracts.length≤1000) (h4:a.Chargers.length≤1000) (h5:a.Bays.length≤1000) (hn:2000≤n):Yv n a a=some true:=by
 unfold Yv
 have:=VV (B:=fun rec i=>VP n a a rec i) (n:=n) (L:=a.Chargers.length) (fun i r=>r=true) zo (fun rec i hi hr=>?_) 0 zo zo
 ·obtain ⟨r,e,rfl⟩:=this
  exact e
 unfold VP
 simp only [Qc,List.length_map,QO]
 by_cases c1:i < a.Chargers.length
 rotate_left
 ·rw [Vw zo,cond_false]; exact BC (nM h1 h2 h3 h4 h5 hn) rfl
 obtain ⟨w1,w2⟩:=hr c1
 rw [WB zo,cond_true,Zp,List.getElem?_eq_getElem c1]
 simp only [Zr,w1,Xx,QP,Qi,beq_self_eq_true,Bool.and_self,Bool.not_true,cond_false]
 exact w2
theorem nO {n:Nat} {a:Qm} (h1:a.Conductors.length≤1000) (h2:a.Owners.length≤1000) (h3:a.Contracts.length≤1000) (h4:a.Chargers.length≤1000) (h5:a.Bays.length≤1000) (hn:2000≤n):Yw n a a=some true:=by
 unfold Yw
 have:=VV (B:=fun rec i=>VQ n a a rec i) (n:=n) (L:=a.Contracts.length) (fun i r=>r=true) zo (fun rec i hi hr=>?_) 0 zo zo
 ·obtain ⟨r,e,rfl⟩:=this
  exact e
 unfold VQ
 simp only [Qc,List.length_map,QO]
 by_cases c1:i < a.Contracts.length
 rotate_left
 ·rw [Vw zo,cond_false]; exact BC (nN h1 h2 h3 h4 h5 hn) rfl
 obtain ⟨w1,w2⟩:=hr c1
 rw [WB zo,cond_true,Zp,List.getElem?_eq_getElem c1]
 simp only [Zr,w1,Xx,QP,Qi,beq_self_eq_true,Bool.and_self,Bool.not_true,cond_false]
 exact w2
theorem nP {n:Nat} {a:Qm} (h1:a.Conductors.length≤1000) (h2:a.Owners.length≤1000) (h3:a.Contracts.length≤1000) (h4:a.Chargers.length≤1000) (h5:a.Bays.length≤1000) (hn:2000≤n):Yx n a a=some true:=by
 unfold Yx
 have:=VV (B:=fun rec i=>VR n a a rec i) (n:=n) (L:=a.Owners.length) (fun i r=>r=true) zo (fun rec i hi hr=>?_) 0 zo zo
 ·obtain ⟨r,e,rfl⟩:=this
  exact e
 unfold VR
 simp only [Qc,List.length_map,QO]
 by_cases c1:i < a.Owners.length
 rotate_left
 ·rw [Vw zo,cond_false]; exact BC (nO h1 h2 h3 h4 h5 hn) rfl
 obtain ⟨w1,w2⟩:=hr c1
 rw [WB zo,cond_true,Zp,List.getElem?_eq_getElem c1]
 simp only [Zr,w1,Xx,QP,beq_self_eq_true,Bool.and_self,Bool.not_true,cond_false]
 exact w2
theorem nQ {n:Nat} {a:Qm} (h1:a.Conductors.length≤1000) (h2:a.Owners.length≤1000) (h3:a.Contracts.length≤1000) (h4:a.Chargers.length≤1000) (h5:a.Bays.length≤1000) (hn:2000≤n):QZ (fun rec i=>YP n a a rec i) n 0=some true:=by
 have:=VV (B:=fun rec i=>YP n a a rec i) (n:=n) (L:=a.Conductors.length) (fun i r=>r=true) zo (fun rec i hi hr=>?_) 0 zo zo
 ·obtain ⟨r,e,rfl⟩:=this
  exact e
 unfold YP
 simp only [Qc,List.length_map,QO]
 by_cases c1:i < a.Conductors.length
 rotate_left
 ·rw [Vw zo,cond_false]; exact BC (nP h1 h2 h3 h4 h5 hn) rfl
 obtain ⟨w1,w2⟩:=hr c1
 rw [WB zo,cond_true,Zp,List.getElem?_eq_getElem c1]
 simp only [Zr,w1,Xx,QP,Qi,beq_self_eq_true,Bool.and_self,Bool.not_true,cond_false]
 exact w2
theorem je {n:Nat} {a:Qm} (h1:a.Conductors.length≤1000) (h2:a.Owners.length≤1000) (h3:a.Contracts.length≤1000) (h4:a.Chargers.length≤1000) (h5:a.Bays.length≤1000) (hn:2000≤n):Jr n a a=some true:=by
 unfold Jr
 simp only [Qi,beq_self_eq_true,Bool.not_true,cond_false,Zr]
 exact nQ h1 h2 h3 h4 h5 hn
theorem uB (s k:List UInt8):∀ m:List (List UInt8 × Bool),QB Qb s false (Qk Qb k true m)=(QB Qb s false m||(s == k))
 | []=>by
  unfold Qk QB XO XO Qb QP
  by_cases h:s=k
  ·subst h; simp
  ·rw [show (s == k)=false from by simpa using h]; rfl
 | (q,w) :: m=>by
  have ih:=uB s k m
  unfold QB at ih ⊢
  unfold Qk
  unfold Qb QP at ih ⊢
  by_cases h:k=q
  ·subst h
   rw [beq_self_eq_true,cond_true]
   unfold XO
   by_cases h2:s=k
   ·subst h2; simp
   ·rw [show (s == k)=false from by simpa using h2]; simp
  ·rw [show (k == q)=false from by simpa using h,cond_false]
   unfold XO
   by_cases h2:s=q
   ·subst h2
    rw [beq_self_eq_true,cond_true,cond_true,show (s == k)=false from by simpa using fun e=>h e.symm,Bool.or_false]
   ·rw [show (s == q)=false from by simpa using h2,cond_false,cond_false]
    exact ih
theorem DF (s k:List UInt8) (m:VZ):YZ (Qk Qb k true m) s=(YZ m s||(s == k)):=uB s k m
theorem nR (n:Nat) (s:Qm):Wz n s=some ((s.Conductors.length:Int),(s.Owners.length:Int),(s.Contracts.length:Int),(s.Chargers.length:Int),(s.Bays.length:Int),0):=by
 unfold Wz
 simp only [Qc,List.length_map]
section
variable {ks:List Int} {k:Int} {a:GN} {h hh:VZ} {v v2:Except (Int × Int) SQ} {w:SQ × VZ}
theorem Jf (hv:LB ks k a h v=.ok w):ks.contains k=true∧YZ h a.Name=false∧∃ q,v=.ok q∧w=(q,Qk Qb a.Name true h):=by
 unfold LB at hv
 split at hv
 rotate_left
 ·cases hv
 rename_i h1
 split at hv
 ·cases hv
 rename_i h2
 simp only [Bool.not_eq_true] at h2
 cases v with
 | error e=>cases hv
 | ok q=>cases hv; exact ⟨h1,h2,q,rfl,rfl⟩
end
abbrev vv:List UInt8:=[108,105,109,105,116]
abbrev Az:List UInt8:=[110,101,117,116,114,97,108]
abbrev tH:List UInt8:=[102,117,115,101]
abbrev RN:List UInt8:=[116,104,101,114,109,97,108]
abbrev rO:List UInt8:=[102,114,111,109]
abbrev vw:List UInt8:=[111,119,110,101,114]
abbrev uC:List UInt8:=[114,97,110,107]
abbrev uD:List UInt8:=[99,97,114,100]
abbrev iN:List UInt8:=[97,116]
abbrev O8:List UInt8:=[112,104,97,115,101,115]
abbrev uE:List UInt8:=[97,109,112,115]
abbrev Pj:List UInt8:=[102,97,108,108,98,97,99,107]
abbrev AA:List UInt8:=[99,104,97,114,103,101,114]
def SB (th:Am) (ks:List Int) (x:Int):Prop:=∃ w t,XO Qv w th=some t∧ks.contains t.kind=true∧t.index=x
structure RQ (K:List ZT) (th:Am) (q:SQ) (h:VZ):Prop where
 limit:YZ h vv=true→1≤q.1.Limit∧q.1.Limit≤1000
 neutral:YZ h Az=true→1≤q.1.Neutral∧q.1.Neutral≤1000
 fuse:(q.1.Fuse.Rated=0∧q.1.Fuse.Heat=0)∨((1≤q.1.Fuse.Rated∧q.1.Fuse.Rated≤1000)∧0≤q.1.Fuse.Heat∧q.1.Fuse.Heat≤1000000)
 cold:YZ h RN=false→q.1.Cable=⟨0,0,0,0,0⟩
 thermal:YZ h RN=true→(0≤q.1.Cable.Ambient∧q.1.Cable.Ambient≤200000)∧(0≤q.1.Cable.Most∧q.1.Cable.Most≤200000)∧(0≤q.1.Cable.Gain∧q.1.Cable.Gain≤1000)∧(0≤q.1.Cable.Loss∧q.1.Cable.Loss≤1000)∧1≤q.1.Cable.Den∧q.1.Cable.Den≤1000000
 frm:YZ h rO=true→SB th [1,2] q.1.Up
 owner:YZ h vw=true→SB th [3] q.2.1.Owner∧SB th [3] q.2.2.1.Owner
 rank:YZ h uC=true→1≤q.2.1.Rank∧q.2.1.Rank≤9
 card:YZ h uD=true→(1≤q.2.1.Card∧q.2.1.Card≤1000000)∧∀ c ∈ K,c.Card ≠ q.2.1.Card
 at_:YZ h iN=true→SB th [1,2] q.2.2.1.At
 phases:YZ h O8=true→1≤q.2.2.1.Phases∧q.2.2.1.Phases≤7
 amps:YZ h uE=true→(1≤q.2.2.1.Min∧q.2.2.1.Min≤80)∧(1≤q.2.2.1.Max∧q.2.2.1.Max≤80)∧1≤q.2.2.1.Step∧q.2.2.1.Step≤80
 fallback:YZ h Pj=true→0≤q.2.2.1.Fallback∧q.2.2.1.Fallback≤80
 charger:YZ h AA=true→SB th [5] q.2.2.2.Charger
theorem rq0 (K:List ZT) (th:Am):RQ K th Ar [] :=
 ⟨nofun,nofun, .inl ⟨rfl,rfl⟩,fun _=>rfl,nofun,nofun,nofun,nofun,nofun,nofun,nofun,nofun,nofun,nofun⟩
theorem Qj {h:VZ} {k w:List UInt8} (e:(w == k)=false):YZ (Qk Qb k true h) w=YZ h w:=by rw [DF,e,Bool.or_false]
theorem tJ {h:VZ} {k:List UInt8}:YZ (Qk Qb k true h) k=true:=by rw [DF,beq_self_eq_true,Bool.or_true]
theorem uF:∀ {l:List GN} {sp:List ZA} {i:Nat} {s:ZA},l.length=sp.length→(l.zip sp).all O4=true→sp[i]?=some s→s.from_≤(l.map (·.N)).getD i 0∧(l.map (·.N)).getD i 0≤s.to_
 | [],[],i,s,_,_,hs=>by simp at hs
 | x :: l,p :: sp,0,s,_,h,hs=>by
  simp only [List.zip_cons_cons,List.all_cons,Kb,O4,decide_eq_true_eq] at h
  simp only [List.getElem?_cons_zero,Za] at hs
  subst hs
  exact h.1
 | x :: l,p :: sp,i+1,s,hl,h,hs=>by
  simp only [List.zip_cons_cons,List.all_cons,Kb] at h
  have:=uF (i:=i) (s:=s) (by simpa using hl) h.2 (by simpa using hs)
  simpa using this
theorem Jz {a:GN} {sp:List ZA} {l:List Int} {d:Nat} (ht:KE d a) (h:kD a sp=.ok l) {i:Nat} {s:ZA} (hs:sp[i]?=some s):s.from_≤l.getD i 0∧l.getD i 0≤s.to_:=by
 obtain ⟨h1,h2,h3⟩:=Dy ht h
 subst h2
 exact uF (by simpa using h1) h3 hs
theorem iO {ks:List Int} {th:Am} {a:GN} {x:Int} (h:nC ks th a=.ok x):SB th ks x:=by
 unfold nC at h
 split at h
 ·rename_i y hy
  split at h
  ·split at h
   ·rename_i t ht
    split at h
    ·rename_i hc
     cases h
     exact ⟨_,t,ht,hc,rfl⟩
    ·cases h
   ·cases h
  ·cases h
 ·cases h
theorem TH {a:GN} {sp:List ZA} {f:List Int→SQ} {q:SQ} (h:Pi a sp f=.ok q):∃ l,kD a sp=.ok l∧q=f l:=by
 unfold Pi at h
 cases e:kD a sp with
 | error e1=>rw [e] at h; cases h
 | ok l=>rw [e] at h; cases h; exact ⟨l,rfl,rfl⟩
theorem IM {ks:List Int} {th:Am} {a:GN} {f:Int→SQ} {q:SQ} (h:iA ks th a f=.ok q):∃ x,SB th ks x∧q=f x:=by
 unfold iA at h
 cases e:nC ks th a with
 | error e1=>rw [e] at h; cases h
 | ok x=>rw [e] at h; cases h; exact ⟨x,iO e,rfl⟩
theorem nS {K:List ZT} {a:GN} {f:List Int→SQ} {q:SQ} (h:O5 K a f=.ok q):∃ l,kD a [(⟨1,1000000⟩:ZA)]=.ok l∧q=f l∧∀ c ∈ K,c.Card ≠ l.getD 0 0:=by
 unfold O5 at h
 cases e:kD a [(⟨1,1000000⟩:ZA)] with
 | error e1=>rw [e] at h; cases h
 | ok l =>
  rw [e] at h
  simp only [eb] at h
  split at h
  ·rename_i hc
   cases h
   refine ⟨l,rfl,rfl,fun c hc2=>?_⟩
   have:=List.all_eq_true.1 hc c hc2
   simpa using this
  ·cases h
theorem iP {a:GN} {b:Int} {d:Nat} (ht:KE d a) (h:iy a=.ok b):1≤b∧b≤7:=by
 unfold iy at h
 split at h
 rotate_left
 ·cases h
 rename_i hl
 cases e:kD a (Ph a) with
 | error e1=>rw [e] at h; cases h
 | ok l =>
  rw [e] at h
  have h:iw a l 0 0=.ok b:=h
  obtain ⟨hll,_,_⟩:=Dy ht e
  have hr:∀ i < l.length,1≤l.getD i 0∧l.getD i 0≤3:=by
   intro i hi
   rw [hll] at hi
   have hs:(Ph a)[i]?=some ⟨1,3⟩:=by
    have hi2:i < a.Kids.length∧i < 3:=by unfold Ph at hi; simp at hi; omega
    unfold Ph
    rw [List.getElem?_take_of_lt hi2.1]
    obtain ⟨_,h3⟩:=hi2
    match i,h3 with
    | 0,_=>rfl
    | 1,_=>rfl
    | 2,_=>rfl
   exact Jz ht e hs
  have hl3:l.length≤3∧1≤l.length:=by rw [hll]; unfold Ph; simp; omega
  clear hll e hl ht
  match l,hl3 with
  | [x],_ =>
   have hx:=hr 0 zq
   simp only [List.getD_cons_zero] at hx
   have:x=1∨x=2∨x=3:=by omega
   clear hr hx
   rcases this with rfl | rfl | rfl <;> (cases h; decide)
  | [x,y],_ =>
   have hx:=hr 0 zq
   have hy:=hr 1 zq
   simp only [List.getD_cons_zero,List.getD_cons_succ] at hx hy
   have h1:x=1∨x=2∨x=3:=by omega
   have h2:y=1∨y=2∨y=3:=by omega
   clear hr hx hy
   rcases h1 with rfl | rfl | rfl <;> rcases h2 with rfl | rfl | rfl <;> first | (cases h; done) | (cases h; decide)
  | [x,y,z],_ =>
   have hx:=hr 0 zq
   have hy:=hr 1 zq
   have hz:=hr 2 zq
   simp only [List.getD_cons_zero,List.getD_cons_succ] at hx hy hz
   have h1:x=1∨x=2∨x=3:=by omega
   have h2:y=1∨y=2∨y=3:=by omega
   have h3:z=1∨z=2∨z=3:=by omega
   clear hr hx hy hz
   rcases h1 with rfl | rfl | rfl <;> rcases h2 with rfl | rfl | rfl <;> rcases h3 with rfl | rfl | rfl <;> first | (cases h; done) | (cases h; decide)
theorem nT {k:Int} {K:List ZT} {th:Am} {a:GN} {q:SQ} {h:VZ} {w:SQ × VZ} {d:Nat} (ht:KE d a) (hv:ut k K th a q h=.ok w) (r:RQ K th q h):RQ K th w.1 w.2:=by
 unfold ut at hv
 by_cases c_limit:a.Name=vv
 ·rw [if_pos c_limit] at hv
  obtain ⟨_,_,q2,e,rfl⟩:=Jf hv
  rw [c_limit]
  obtain ⟨l,e1,rfl⟩:=TH e
  exact ⟨fun _=>Jz ht e1 (i:=0) rfl,fun t=>r.neutral ((Qj (by rfl)).symm.trans t),r.fuse,fun t=>r.cold ((Qj (by rfl)).symm.trans t),fun t=>r.thermal ((Qj (by rfl)).symm.trans t),fun t=>r.frm ((Qj (by rfl)).symm.trans t),fun t=>r.owner ((Qj (by rfl)).symm.trans t),fun t=>r.rank ((Qj (by rfl)).symm.trans t),fun t=>r.card ((Qj (by rfl)).symm.trans t),fun t=>r.at_ ((Qj (by rfl)).symm.trans t),fun t=>r.phases ((Qj (by rfl)).symm.trans t),fun t=>r.amps ((Qj (by rfl)).symm.trans t),fun t=>r.fallback ((Qj (by rfl)).symm.trans t),fun t=>r.charger ((Qj (by rfl)).symm.trans t)⟩
 rw [if_neg c_limit] at hv
 by_cases c_neutral:a.Name=Az
 ·rw [if_pos c_neutral] at hv
  obtain ⟨_,_,q2,e,rfl⟩:=Jf hv
  rw [c_neutral]
  obtain ⟨l,e1,rfl⟩:=TH e
  exact ⟨fun t=>r.limit ((Qj (by rfl)).symm.trans t),fun _=>Jz ht e1 (i:=0) rfl,r.fuse,fun t=>r.cold ((Qj (by rfl)).symm.trans t),fun t=>r.thermal ((Qj (by rfl)).symm.trans t),fun t=>r.frm ((Qj (by rfl)).symm.trans t),fun t=>r.owner ((Qj (by rfl)).symm.trans t),fun t=>r.rank ((Qj (by rfl)).symm.trans t),fun t=>r.card ((Qj (by rfl)).symm.trans t),fun t=>r.at_ ((Qj (by rfl)).symm.trans t),fun t=>r.phases ((Qj (by rfl)).symm.trans t),fun t=>r.amps ((Qj (by rfl)).symm.trans t),fun t=>r.fallback ((Qj (by rfl)).symm.trans t),fun t=>r.charger ((Qj (by rfl)).symm.trans t)⟩
 rw [if_neg c_neutral] at hv
 by_cases c_fuse:a.Name=tH
 ·rw [if_pos c_fuse] at hv
  obtain ⟨_,_,q2,e,rfl⟩:=Jf hv
  rw [c_fuse]
  obtain ⟨l,e1,rfl⟩:=TH e
  exact ⟨fun t=>r.limit ((Qj (by rfl)).symm.trans t),fun t=>r.neutral ((Qj (by rfl)).symm.trans t), .inr ⟨Jz ht e1 (i:=0) rfl,Jz ht e1 (i:=1) rfl⟩,fun t=>r.cold ((Qj (by rfl)).symm.trans t),fun t=>r.thermal ((Qj (by rfl)).symm.trans t),fun t=>r.frm ((Qj (by rfl)).symm.trans t),fun t=>r.owner ((Qj (by rfl)).symm.trans t),fun t=>r.rank ((Qj (by rfl)).symm.trans t),fun t=>r.card ((Qj (by rfl)).symm.trans t),fun t=>r.at_ ((Qj (by rfl)).symm.trans t),fun t=>r.phases ((Qj (by rfl)).symm.trans t),fun t=>r.amps ((Qj (by rfl)).symm.trans t),fun t=>r.fallback ((Qj (by rfl)).symm.trans t),fun t=>r.charger ((Qj (by rfl)).symm.trans t)⟩
 rw [if_neg c_fuse] at hv
 by_cases c_thermal:a.Name=RN
 ·rw [if_pos c_thermal] at hv
  obtain ⟨_,_,q2,e,rfl⟩:=Jf hv
  rw [c_thermal]
  obtain ⟨l,e1,rfl⟩:=TH e
  exact ⟨fun t=>r.limit ((Qj (by rfl)).symm.trans t),fun t=>r.neutral ((Qj (by rfl)).symm.trans t),r.fuse,fun t=>(by rw [tJ] at t; cases t),fun _=>⟨Jz ht e1 (i:=0) rfl,Jz ht e1 (i:=1) rfl,Jz ht e1 (i:=2) rfl,Jz ht e1 (i:=3) rfl,Jz ht e1 (i:=4) rfl⟩,fun t=>r.frm ((Qj (by rfl)).symm.trans t),fun t=>r.owner ((Qj (by rfl)).symm.trans t),fun t=>r.rank ((Qj (by rfl)).symm.trans t),fun t=>r.card ((Qj (by rfl)).symm.trans t),fun t=>r.at_ ((Qj (by rfl)).symm.trans t),fun t=>r.phases ((Qj (by rfl)).symm.trans t),fun t=>r.amps ((Qj (by rfl)).symm.trans t),fun t=>r.fallback ((Qj (by rfl)).symm.trans t),fun t=>r.charger ((Qj (by rfl)).symm.trans t)⟩
 rw [if_neg c_thermal] at hv
 by_cases c_frm:a.Name=rO
 ·rw [if_pos c_frm] at hv
  obtain ⟨_,_,q2,e,rfl⟩:=Jf hv
  rw [c_frm]
  obtain ⟨x,hx,rfl⟩:=IM e
  exact ⟨fun t=>r.limit ((Qj (by rfl)).symm.trans t),fun t=>r.neutral ((Qj (by rfl)).symm.trans t),r.fuse,fun t=>r.cold ((Qj (by rfl)).symm.trans t),fun t=>r.thermal ((Qj (by rfl)).symm.trans t),fun _=>hx,fun t=>r.owner ((Qj (by rfl)).symm.trans t),fun t=>r.rank ((Qj (by rfl)).symm.trans t),fun t=>r.card ((Qj (by rfl)).symm.trans t),fun t=>r.at_ ((Qj (by rfl)).symm.trans t),fun t=>r.phases ((Qj (by rfl)).symm.trans t),fun t=>r.amps ((Qj (by rfl)).symm.trans t),fun t=>r.fallback ((Qj (by rfl)).symm.trans t),fun t=>r.charger ((Qj (by rfl)).symm.trans t)⟩
 rw [if_neg c_frm] at hv
 by_cases c_owner:a.Name=vw
 ·rw [if_pos c_owner] at hv
  obtain ⟨_,_,q2,e,rfl⟩:=Jf hv
  rw [c_owner]
  obtain ⟨x,hx,rfl⟩:=IM e
  exact ⟨fun t=>r.limit ((Qj (by rfl)).symm.trans t),fun t=>r.neutral ((Qj (by rfl)).symm.trans t),r.fuse,fun t=>r.cold ((Qj (by rfl)).symm.trans t),fun t=>r.thermal ((Qj (by rfl)).symm.trans t),fun t=>r.frm ((Qj (by rfl)).symm.trans t),fun _=>⟨hx,hx⟩,fun t=>r.rank ((Qj (by rfl)).symm.trans t),fun t=>r.card ((Qj (by rfl)).symm.trans t),fun t=>r.at_ ((Qj (by rfl)).symm.trans t),fun t=>r.phases ((Qj (by rfl)).symm.trans t),fun t=>r.amps ((Qj (by rfl)).symm.trans t),fun t=>r.fallback ((Qj (by rfl)).symm.trans t),fun t=>r.charger ((Qj (by rfl)).symm.trans t)⟩
 rw [if_neg c_owner] at hv
 by_cases c_rank:a.Name=uC
 ·rw [if_pos c_rank] at hv
  obtain ⟨_,_,q2,e,rfl⟩:=Jf hv
  rw [c_rank]
  obtain ⟨l,e1,rfl⟩:=TH e
  exact ⟨fun t=>r.limit ((Qj (by rfl)).symm.trans t),fun t=>r.neutral ((Qj (by rfl)).symm.trans t),r.fuse,fun t=>r.cold ((Qj (by rfl)).symm.trans t),fun t=>r.thermal ((Qj (by rfl)).symm.trans t),fun t=>r.frm ((Qj (by rfl)).symm.trans t),fun t=>r.owner ((Qj (by rfl)).symm.trans t),fun _=>Jz ht e1 (i:=0) rfl,fun t=>r.card ((Qj (by rfl)).symm.trans t),fun t=>r.at_ ((Qj (by rfl)).symm.trans t),fun t=>r.phases ((Qj (by rfl)).symm.trans t),fun t=>r.amps ((Qj (by rfl)).symm.trans t),fun t=>r.fallback ((Qj (by rfl)).symm.trans t),fun t=>r.charger ((Qj (by rfl)).symm.trans t)⟩
 rw [if_neg c_rank] at hv
 by_cases c_card:a.Name=uD
 ·rw [if_pos c_card] at hv
  obtain ⟨_,_,q2,e,rfl⟩:=Jf hv
  rw [c_card]
  obtain ⟨l,e1,rfl,hx⟩:=nS e
  exact ⟨fun t=>r.limit ((Qj (by rfl)).symm.trans t),fun t=>r.neutral ((Qj (by rfl)).symm.trans t),r.fuse,fun t=>r.cold ((Qj (by rfl)).symm.trans t),fun t=>r.thermal ((Qj (by rfl)).symm.trans t),fun t=>r.frm ((Qj (by rfl)).symm.trans t),fun t=>r.owner ((Qj (by rfl)).symm.trans t),fun t=>r.rank ((Qj (by rfl)).symm.trans t),fun _=>⟨Jz ht e1 (i:=0) rfl,hx⟩,fun t=>r.at_ ((Qj (by rfl)).symm.trans t),fun t=>r.phases ((Qj (by rfl)).symm.trans t),fun t=>r.amps ((Qj (by rfl)).symm.trans t),fun t=>r.fallback ((Qj (by rfl)).symm.trans t),fun t=>r.charger ((Qj (by rfl)).symm.trans t)⟩
 rw [if_neg c_card] at hv
 by_cases c_at:a.Name=iN
 ·rw [if_pos c_at] at hv
  obtain ⟨_,_,q2,e,rfl⟩:=Jf hv
  rw [c_at]
  obtain ⟨x,hx,rfl⟩:=IM e
  exact ⟨fun t=>r.limit ((Qj (by rfl)).symm.trans t),fun t=>r.neutral ((Qj (by rfl)).symm.trans t),r.fuse,fun t=>r.cold ((Qj (by rfl)).symm.trans t),fun t=>r.thermal ((Qj (by rfl)).symm.trans t),fun t=>r.frm ((Qj (by rfl)).symm.trans t),fun t=>r.owner ((Qj (by rfl)).symm.trans t),fun t=>r.rank ((Qj (by rfl)).symm.trans t),fun t=>r.card ((Qj (by rfl)).symm.trans t),fun _=>hx,fun t=>r.phases ((Qj (by rfl)).symm.trans t),fun t=>r.amps ((Qj (by rfl)).symm.trans t),fun t=>r.fallback ((Qj (by rfl)).symm.trans t),fun t=>r.charger ((Qj (by rfl)).symm.trans t)⟩
 rw [if_neg c_at] at hv
 by_cases c_phases:a.Name=O8
 ·rw [if_pos c_phases] at hv
  obtain ⟨_,_,q2,e,rfl⟩:=Jf hv
  rw [c_phases]
  cases e1:iy a with
  | error e2=>rw [e1] at e; cases e
  | ok b =>
  rw [e1] at e
  cases e
  exact ⟨fun t=>r.limit ((Qj (by rfl)).symm.trans t),fun t=>r.neutral ((Qj (by rfl)).symm.trans t),r.fuse,fun t=>r.cold ((Qj (by rfl)).symm.trans t),fun t=>r.thermal ((Qj (by rfl)).symm.trans t),fun t=>r.frm ((Qj (by rfl)).symm.trans t),fun t=>r.owner ((Qj (by rfl)).symm.trans t),fun t=>r.rank ((Qj (by rfl)).symm.trans t),fun t=>r.card ((Qj (by rfl)).symm.trans t),fun t=>r.at_ ((Qj (by rfl)).symm.trans t),fun _=>iP ht e1,fun t=>r.amps ((Qj (by rfl)).symm.trans t),fun t=>r.fallback ((Qj (by rfl)).symm.trans t),fun t=>r.charger ((Qj (by rfl)).symm.trans t)⟩
 rw [if_neg c_phases] at hv
 by_cases c_amps:a.Name=uE
 ·rw [if_pos c_amps] at hv
  obtain ⟨_,_,q2,e,rfl⟩:=Jf hv
  rw [c_amps]
  obtain ⟨l,e1,rfl⟩:=TH e
  exact ⟨fun t=>r.limit ((Qj (by rfl)).symm.trans t),fun t=>r.neutral ((Qj (by rfl)).symm.trans t),r.fuse,fun t=>r.cold ((Qj (by rfl)).symm.trans t),fun t=>r.thermal ((Qj (by rfl)).symm.trans t),fun t=>r.frm ((Qj (by rfl)).symm.trans t),fun t=>r.owner ((Qj (by rfl)).symm.trans t),fun t=>r.rank ((Qj (by rfl)).symm.trans t),fun t=>r.card ((Qj (by rfl)).symm.trans t),fun t=>r.at_ ((Qj (by rfl)).symm.trans t),fun t=>r.phases ((Qj (by rfl)).symm.trans t),fun _=>⟨Jz ht e1 (i:=0) rfl,Jz ht e1 (i:=1) rfl,Jz ht e1 (i:=2) rfl⟩,fun t=>r.fallback ((Qj (by rfl)).symm.trans t),fun t=>r.charger ((Qj (by rfl)).symm.trans t)⟩
 rw [if_neg c_amps] at hv
 by_cases c_fallback:a.Name=Pj
 ·rw [if_pos c_fallback] at hv
  obtain ⟨_,_,q2,e,rfl⟩:=Jf hv
  rw [c_fallback]
  obtain ⟨l,e1,rfl⟩:=TH e
  exact ⟨fun t=>r.limit ((Qj (by rfl)).symm.trans t),fun t=>r.neutral ((Qj (by rfl)).symm.trans t),r.fuse,fun t=>r.cold ((Qj (by rfl)).symm.trans t),fun t=>r.thermal ((Qj (by rfl)).symm.trans t),fun t=>r.frm ((Qj (by rfl)).symm.trans t),fun t=>r.owner ((Qj (by rfl)).symm.trans t),fun t=>r.rank ((Qj (by rfl)).symm.trans t),fun t=>r.card ((Qj (by rfl)).symm.trans t),fun t=>r.at_ ((Qj (by rfl)).symm.trans t),fun t=>r.phases ((Qj (by rfl)).symm.trans t),fun t=>r.amps ((Qj (by rfl)).symm.trans t),fun _=>Jz ht e1 (i:=0) rfl,fun t=>r.charger ((Qj (by rfl)).symm.trans t)⟩
 rw [if_neg c_fallback] at hv
 by_cases c_charger:a.Name=AA
 ·rw [if_pos c_charger] at hv
  obtain ⟨_,_,q2,e,rfl⟩:=Jf hv
  rw [c_charger]
  obtain ⟨x,hx,rfl⟩:=IM e
  exact ⟨fun t=>r.limit ((Qj (by rfl)).symm.trans t),fun t=>r.neutral ((Qj (by rfl)).symm.trans t),r.fuse,fun t=>r.cold ((Qj (by rfl)).symm.trans t),fun t=>r.thermal ((Qj (by rfl)).symm.trans t),fun t=>r.frm ((Qj (by rfl)).symm.trans t),fun t=>r.owner ((Qj (by rfl)).symm.trans t),fun t=>r.rank ((Qj (by rfl)).symm.trans t),fun t=>r.card ((Qj (by rfl)).symm.trans t),fun t=>r.at_ ((Qj (by rfl)).symm.trans t),fun t=>r.phases ((Qj (by rfl)).symm.trans t),fun t=>r.amps ((Qj (by rfl)).symm.trans t),fun t=>r.fallback ((Qj (by rfl)).symm.trans t),fun _=>hx⟩
 rw [if_neg c_charger] at hv
 cases hv
theorem IP {k:Int} {K:List ZT} {th:Am} {d:Nat}:∀ {l:List GN} {q:SQ} {h:VZ} {w:SQ × VZ},(∀ a ∈ l,KE d a)→BH k K th l q h=.ok w→RQ K th q h→RQ K th w.1 w.2
 | [],q,h,w,_,hv,r=>by cases hv; exact r
 | a :: l,q,h,w,ht,hv,r=>by
  unfold BH at hv
  split at hv
  ·cases e:ut k K th a q h with
   | error e1=>rw [e] at hv; cases hv
   | ok v =>
    rw [e] at hv
    exact IP (fun b hb=>ht b (by simp [hb])) hv (nT (ht a zq) e r)
  ·exact IP (fun b hb=>ht b (by simp [hb])) hv r
theorem nU {y:GN} {s:BS} {q:SQ} {d:Nat} (ht:KE d y) (h:O6 y s=.ok q):∃ hh,RQ s.ks s.th q hh∧Ao y.N hh=false∧Aq y.N q.1 q.2.2.1 hh=false:=by
 obtain ⟨e,rfl,_,_,hk⟩:=ZP ht
 unfold O6 at h
 cases e1:BH y.N s.ks s.th (QA y.Kids) Ar [] with
 | error e2=>rw [e1] at h; cases h
 | ok v =>
  rw [e1] at h
  have r:=IP (fun a ha=>Ff hk a ha) e1 (rq0 _ _)
  have h:eb (tq y v.1.1 v.1.2.2.1 v.2) (fun _=>.ok v.1)=.ok q:=h
  unfold tq at h
  by_cases hm:Ao y.N v.2=true
  ·rw [if_pos hm] at h; cases h
  by_cases hl:Aq y.N v.1.1 v.1.2.2.1 v.2=true
  ·rw [if_neg hm,if_pos hl] at h; cases h
  rw [if_neg hm,if_neg hl] at h
  cases h
  exact ⟨v.2,r,by simpa using hm,by simpa using hl⟩
theorem uG {k:Int} {h:VZ} (hm:Ao k h=false) {ks:List Int} {w:List UInt8} (hn:(ks,w) ∈ needT) (hk:ks.contains k=true):YZ h w=true:=by
 unfold Ao at hm
 have:=List.any_eq_false.1 hm _ hn
 rw [hk] at this
 simpa using this
theorem Pk {K V:Type} {eq:K→K→Bool} (he:∀ a b,eq a b=true↔a=b) (k k2:K) (v:V):∀ m:List (K × V),XO eq k2 (Qk eq k v m)=bif eq k2 k then some v else XO eq k2 m
 | []=>by unfold Qk XO XO; cases eq k2 k <;> rfl
 | (q,w) :: m=>by
  have ih:=Pk he k k2 v m
  unfold Qk
  cases h:eq k q
  ·rw [cond_false]
   unfold XO
   rw [ih]
   cases h2:eq k2 q
   ·rfl
   ·have:eq k2 k=false:=by
     cases h3:eq k2 k
     ·rfl
     ·rw [(he _ _).1 h2] at h3
      rw [(he _ _).1 h3,(he k k).2 rfl] at h
      cases h
    rw [this]; rfl
  ·obtain rfl:=(he _ _).1 h
   rw [cond_true]
   unfold XO
   cases eq k2 k <;> rfl
theorem iQ (a b:List UInt8):Qv a b=true↔a=b:=by
 unfold Qv QP
 exact beq_iff_eq
def THi (th:Am) (a b c:Nat):Prop:=∀ w t,XO Qv w th=some t→(t.kind=1∨t.kind=2→0≤t.index∧t.index < a)∧(t.kind=3→0≤t.index∧t.index < b)∧(t.kind=5→0≤t.index∧t.index < c)
theorem RO {th:Am} {a b c a2 b2 c2:Nat} {w:List UInt8} {k i:Int} (h:THi th a b c) (h1:a≤a2) (h2:b≤b2) (h3:c≤c2) (hn:(k=1∨k=2→0≤i∧i < a2)∧(k=3→0≤i∧i < b2)∧(k=5→0≤i∧i < c2)) :
  THi (Qk Qv w (⟨k,i⟩:Kt) th) a2 b2 c2:=by
 intro v t ht
 rw [Pk iQ] at ht
 cases e:Qv v w
 ·rw [e,cond_false] at ht
  obtain ⟨g1,g2,g3⟩:=h v t ht
  exact ⟨fun q=>by have:=g1 q; omega,fun q=>by have:=g2 q; omega,fun q=>by have:=g3 q; omega⟩
 ·rw [e,cond_true,Za] at ht
  subst ht
  exact hn
theorem Pm {th:Am} {a b c:Nat} (h:THi th a b c) {x:Int}:(SB th [1,2] x→0≤x∧x < a)∧(SB th [3] x→0≤x∧x < b)∧(SB th [5] x→0≤x∧x < c):=by
 refine ⟨?_,?_,?_⟩
 all_goals
  rintro ⟨w,t,h1,h2,rfl⟩
  obtain ⟨g1,g2,g3⟩:=h w t h1
  simp only [List.contains_cons,List.contains_nil,Bool.or_false,Bool.or_eq_true,beq_iff_eq] at h2
 ·exact g1 h2
 ·exact g2 h2
 ·exact g3 h2
def Zw (s:Qm):List (List UInt8):=s.Conductors.map (·.Name)++s.Owners.map (·.Name)++s.Contracts.map (·.Name)++s.Chargers.map (·.Name)++s.Bays.map (·.Name)
def okF (f:Rw):Prop:=(f.Rated=0∧f.Heat=0)∨((1≤f.Rated∧f.Rated≤1000)∧0≤f.Heat∧f.Heat≤1000000)
def okW (c:J4):Prop:=c=⟨0,0,0,0,0⟩∨(((0≤c.Ambient∧c.Ambient≤200000)∧(0≤c.Most∧c.Most≤200000)∧(0≤c.Gain∧c.Gain≤1000)∧(0≤c.Loss∧c.Loss≤1000)∧1≤c.Den∧c.Den≤1000000)∧c.Ambient < c.Most)
def iC (c:ZJ) (i:Nat):Prop:=((i=0→c.Up=-1)∧(0 < i→0≤c.Up∧c.Up < i))∧(1≤c.Limit∧c.Limit≤1000)∧(1≤c.Neutral∧c.Neutral≤1000)∧okF c.Fuse∧okW c.Cable
def okK (no:Nat) (c:ZT):Prop:=(0≤c.Owner∧c.Owner < no)∧(1≤c.Rank∧c.Rank≤9)∧1≤c.Card∧c.Card≤1000000
def iD (nc no:Nat) (c:ZY):Prop:=(0≤c.At∧c.At < nc)∧(0≤c.Owner∧c.Owner < no)∧(1≤c.Phases∧c.Phases≤7)∧(1≤c.Min∧c.Min≤80)∧(1≤c.Max∧c.Max≤80)∧(1≤c.Step∧c.Step≤80)∧(0≤c.Fallback∧c.Fallback≤80)∧c.Min≤c.Max∧(c.Fallback=0∨(c.Min≤c.Fallback∧c.Fallback≤c.Max))
structure OkS (s:Qm):Prop where
 c:∀ i c,s.Conductors[i]?=some c→iC c i
 k:∀ c ∈ s.Contracts,okK s.Owners.length c
 kd:s.Contracts.Pairwise fun a b=>a.Card ≠ b.Card
 g:∀ c ∈ s.Chargers,iD s.Conductors.length s.Owners.length c
 b:∀ c ∈ s.Bays,0≤c.Charger∧c.Charger < s.Chargers.length
 nm:∀ w ∈ Zw s,Wu w=true
 nd:(Zw s).Nodup
structure IV (s:BS):Prop where
 ok:OkS s.site
 fd:s.fd=true↔s.cs ≠ []
 th:THi s.th s.cs.length s.os.length s.gs.length
 nm:∀ w ∈ Zw s.site,YZ s.nm w=true
theorem iv0:IV bs0 :=
 ⟨⟨fun i c h=>by simp [bs0,BS.site] at h,fun c h=>by simp [bs0,BS.site] at h,List.Pairwise.nil,fun c h=>by simp [bs0,BS.site] at h,fun c h=>by simp [bs0,BS.site] at h,fun w h=>by simp [bs0,BS.site,Zw] at h,List.nodup_nil⟩,by simp [bs0],fun w t h=>by simp [bs0,XO] at h,fun w h=>by simp [bs0,BS.site,Zw] at h⟩
theorem jf {L L2:List (List UInt8)} {nm:VZ} {w:List UInt8} (h1:∀ v ∈ L,YZ nm v=true) (h2:∀ v ∈ L,Wu v=true) (h3:L.Nodup) (hw:YZ nm w=false) (hb:Wu w=true) (hp:L2.Perm (w :: L)) :
  (∀ v ∈ L2,YZ (Qk Qb w true nm) v=true)∧(∀ v ∈ L2,Wu v=true)∧L2.Nodup:=by
 have hm:∀ v ∈ L2,v=w∨v ∈ L:=fun v hv=>by simpa using hp.mem_iff.1 hv
 refine ⟨fun v hv=>?_,fun v hv=>?_,?_⟩
 ·rw [DF]
  rcases hm v hv with rfl | h
  ·rw [beq_self_eq_true,Bool.or_true]
  ·rw [h1 v h,Bool.true_or]
 ·rcases hm v hv with rfl | h
  ·exact hb
  ·exact h2 v h
 ·rw [hp.nodup_iff,List.nodup_cons]
  exact ⟨fun h=>(by rw [h1 w h] at hw; cases hw),h3⟩
theorem RP {α:Type} {A B L L2:List α} {x:α} (h1:L2=A++x :: B) (h2:L=A++B):L2.Perm (x :: L):=by
 subst h1 h2
 exact List.perm_middle
theorem rP {l:List ZJ} {c:ZJ} (h:∀ i c,l[i]?=some c→iC c i) (hc:iC c l.length):∀ i c2,(l++[c])[i]?=some c2→iC c2 i:=by
 intro i c2 hi
 by_cases h1:i < l.length
 ·rw [List.getElem?_append_left h1] at hi; exact h i c2 hi
 ·rw [List.getElem?_append_right zo] at hi
  obtain ⟨h2,h3⟩:=List.getElem?_eq_some_iff.1 hi
  simp only [List.length_singleton] at h2
  have:i=l.length:=by omega
  subst this
  simp only [Nat.sub_self,List.getElem_cons_zero] at h3
  subst h3
  exact hc
theorem IQ {α:Type} {P:α→Prop} {l:List α} {x:α} (h:∀ c ∈ l,P c) (hx:P x):∀ c ∈ l++[x],P c:=by
 intro c hc
 rcases List.mem_append.1 hc with h1 | h1
 ·exact h c h1
 ·rw [List.mem_singleton.1 h1]; exact hx
theorem kI {nc no nc2 no2:Nat} {c:ZY} (h1:nc≤nc2) (h2:no≤no2) (h:iD nc no c):iD nc2 no2 c:=by
 unfold iD at h ⊢
 omega
theorem tK {no no2:Nat} {c:ZT} (h2:no≤no2) (h:okK no c):okK no2 c:=by
 unfold okK at h ⊢
 omega
theorem Fp {α:Type} {l:List α} {x:α}:l.length≤(l++[x]).length:=by simp
theorem nV {y:GN} {s:BS} {d:Nat} (ht:KE d y) (hb:Wu y.Name=true) (hN:1≤y.N∧y.N≤7) (h:IV s) (hg:(YS y s).dg=[]):IV (YS y s) ∧
  (YS y s).cs.length=s.cs.length+(if y.N=1∨y.N=2 then 1 else 0)∧(YS y s).os.length=s.os.length+(if y.N=3 then 1 else 0)∧(YS y s).ks.length=s.ks.length+(if y.N=4 then 1 else 0)∧(YS y s).gs.length=s.gs.length+(if y.N=5 then 1 else 0)∧(YS y s).bs.length=s.bs.length+(if y.N=6 then 1 else 0):=by
 obtain ⟨htw,hg⟩:=good_step hg
 unfold iL at htw
 rw [Bool.or_eq_false_iff] at htw
 obtain ⟨hw,htw⟩:=htw
 obtain ⟨⟨o1,o2,o3,o4,o5,o6,o7⟩,hfd,hth,hnm⟩:=h
 rcases hg with ⟨h7,e⟩ | ⟨h7,hr,q,hq,e⟩
 ·rw [e,h7]
  refine ⟨⟨⟨o1,o2,o3,o4,o5,o6,o7⟩,?_,hth,fun w hw2=>?_⟩,rfl,rfl,rfl,rfl,rfl⟩
  ·show (s.fd||Qi y.N 1)=true↔_
   rw [h7,show Qi 7 1=false from rfl,Bool.or_false]
   exact hfd
  ·show YZ (Qk Qb y.Name true s.nm) w=true
   rw [DF,hnm w hw2,Bool.true_or]
 obtain ⟨hh,R,hm,hl⟩:=nU ht hq
 have M:∀ {ks:List Int} {w:List UInt8},(ks,w) ∈ needT→ks.contains y.N=true→YZ hh w=true:=fun a b=>uG hm a b
 unfold Aq at hl
 rw [Bool.or_eq_false_iff] at hl
 obtain ⟨l1,l2⟩:=hl
 have hcab:okW q.1.Cable:=by
  cases e2:YZ hh RN
  ·exact .inl (R.cold e2)
  ·rw [e2,Bool.true_and] at l1
   have l1:(!QO q.1.Cable.Ambient q.1.Cable.Most)=false:=l1
   simp only [QO,Bool.not_eq_false',decide_eq_true_eq] at l1
   exact .inr ⟨R.thermal e2,l1⟩
 rw [e]
 have hp:∀ {L2:List (List UInt8)},L2.Perm (y.Name :: Zw s.site)→(∀ v ∈ L2,YZ (Qk Qb y.Name true s.nm) v=true)∧(∀ v ∈ L2,Wu v=true)∧L2.Nodup:=fun hp=>jf hnm o6 o7 hw hb hp
 obtain ⟨cs,os,ks,gs,bs,fd,dg,nm,th⟩:=s
 simp only [BS.site] at o1 o2 o3 o4 o5 o6 o7 hnm hp hfd hth hw htw R
 rw [show ZO y (⟨cs,os,ks,gs,bs,fd,dg,nm,th⟩:BS)=⟨cs,os,ks,gs,bs,fd||Qi y.N 1,dg,Qk Qb y.Name true nm,th⟩ from rfl]
 unfold Uz DC
 dsimp only
 by_cases c1:y.N=1
 ·rw [if_pos c1]
  have hf:fd=false:=by
   rw [c1] at htw
   simpa [Qi] using htw
  have hc0:cs=[]:=by
   cases cs with
   | nil=>rfl
   | cons a l=>rw [hfd.2 zq] at hf; cases hf
  subst hc0
  have hlim:=R.limit (M (ks:=[1,2]) (by simp [needT]) (by rw [c1]; rfl))
  have hneu:=R.neutral (M (ks:=[1,2]) (by simp [needT]) (by rw [c1]; rfl))
  obtain ⟨p1,p2,p3⟩:=hp (RP (A:=([]:List ZJ).map (·.Name)) (B:=os.map (·.Name)++ks.map (·.Name)++gs.map (·.Name)++bs.map (·.Name)) rfl (by simp [Zw]))
  refine ⟨⟨⟨rP o1 ⟨⟨fun _=>rfl,fun h=>absurd h zq⟩,hlim,hneu,R.fuse,hcab⟩,o2,o3,fun c hc=>kI Fp (Nat.le_refl _) (o4 c hc),o5,fun v hv=>p2 v (by simpa [Zw,BS.site,ZO] using hv),by simpa [Zw,BS.site,ZO] using p3⟩,⟨fun _=>by simp,fun _=>by simp [c1,Qi]⟩,RO hth Fp (Nat.le_refl _) (Nat.le_refl _) (by simp [c1,Qi]; try omega),fun v hv=>p1 v (by simpa [Zw,BS.site,ZO] using hv)⟩,?_⟩
  simp [c1]
 rw [if_neg c1]
 by_cases c2:y.N=2
 ·rw [if_pos c2]
  have hfr:=R.frm (M (ks:=[2]) (by simp [needT]) (by rw [c2]; rfl))
  have hup:=(Pm hth).1 hfr
  have hcn:cs ≠ []:=by rintro rfl; simp at hup; omega
  have hlim:=R.limit (M (ks:=[1,2]) (by simp [needT]) (by rw [c2]; rfl))
  have hneu:=R.neutral (M (ks:=[1,2]) (by simp [needT]) (by rw [c2]; rfl))
  obtain ⟨p1,p2,p3⟩:=hp (RP (A:=cs.map (·.Name)) (B:=os.map (·.Name)++ks.map (·.Name)++gs.map (·.Name)++bs.map (·.Name)) rfl (by simp [Zw]))
  refine ⟨⟨⟨rP o1 ⟨⟨fun h=>absurd (List.length_eq_zero_iff.1 h) hcn,fun _=>hup⟩,hlim,hneu,R.fuse,hcab⟩,o2,o3,fun c hc=>kI Fp (Nat.le_refl _) (o4 c hc),o5,fun v hv=>p2 v (by simpa [Zw,BS.site,ZO] using hv),by simpa [Zw,BS.site,ZO] using p3⟩,⟨fun _=>by simp,fun _=>by simp [hfd.2 hcn]⟩,RO hth Fp (Nat.le_refl _) (Nat.le_refl _) (by simp [c2,Qi]; try omega),fun v hv=>p1 v (by simpa [Zw,BS.site,ZO] using hv)⟩,?_⟩
  simp [c2]
 rw [if_neg c2]
 by_cases c3:y.N=3
 ·rw [if_pos c3]
  obtain ⟨p1,p2,p3⟩:=hp (RP (A:=cs.map (·.Name)++os.map (·.Name)) (B:=ks.map (·.Name)++gs.map (·.Name)++bs.map (·.Name)) rfl (by simp [Zw]))
  refine ⟨⟨⟨o1,fun c hc=>tK Fp (o2 c hc),o3,fun c hc=>kI (Nat.le_refl _) Fp (o4 c hc),o5,fun v hv=>p2 v (by simpa [Zw,BS.site,ZO] using hv),by simpa [Zw,BS.site,ZO] using p3⟩,by simp only [c3]; rw [show Qi 3 1=false from rfl,Bool.or_false]; exact hfd,RO hth (Nat.le_refl _) Fp (Nat.le_refl _) (by simp [c3,Qi]; try omega),fun v hv=>p1 v (by simpa [Zw,BS.site,ZO] using hv)⟩,?_⟩
  simp [c3]
 rw [if_neg c3]
 by_cases c4:y.N=4
 ·rw [if_pos c4]
  have hown:=R.owner (M (ks:=[4,5]) (by simp [needT]) (by rw [c4]; rfl))
  have hrank:=R.rank (M (ks:=[4]) (by simp [needT]) (by rw [c4]; rfl))
  have hcard:=R.card (M (ks:=[4]) (by simp [needT]) (by rw [c4]; rfl))
  have hoi:=(Pm hth).2.1 hown.1
  obtain ⟨p1,p2,p3⟩:=hp (RP (A:=cs.map (·.Name)++os.map (·.Name)++ks.map (·.Name)) (B:=gs.map (·.Name)++bs.map (·.Name)) rfl (by simp [Zw]))
  refine ⟨⟨⟨o1,IQ o2 ⟨hoi,hrank,hcard.1⟩,List.pairwise_append.2 ⟨o3,List.pairwise_singleton _ _,fun a ha b hb=>by rw [List.mem_singleton.1 hb]; exact hcard.2 a ha⟩,o4,o5,fun v hv=>p2 v (by simpa [Zw,BS.site,ZO] using hv),by simpa [Zw,BS.site,ZO] using p3⟩,by simp only [c4]; rw [show Qi 4 1=false from rfl,Bool.or_false]; exact hfd,RO hth (Nat.le_refl _) (Nat.le_refl _) (Nat.le_refl _) (by simp [c4,Qi]; try omega),fun v hv=>p1 v (by simpa [Zw,BS.site,ZO] using hv)⟩,?_⟩
  simp [c4]
 rw [if_neg c4]
 by_cases c5:y.N=5
 ·rw [if_pos c5]
  have hown:=R.owner (M (ks:=[4,5]) (by simp [needT]) (by rw [c5]; rfl))
  have hat:=R.at_ (M (ks:=[5]) (by simp [needT]) (by rw [c5]; rfl))
  have hph:=R.phases (M (ks:=[5]) (by simp [needT]) (by rw [c5]; rfl))
  have ham:=R.amps (M (ks:=[5]) (by simp [needT]) (by rw [c5]; rfl))
  have hfb:=R.fallback (M (ks:=[5]) (by simp [needT]) (by rw [c5]; rfl))
  have hoi:=(Pm hth).2.1 hown.2
  have hai:=(Pm hth).1 hat
  have hga:q.2.2.1.Min≤q.2.2.1.Max∧(q.2.2.1.Fallback=0∨(q.2.2.1.Min≤q.2.2.1.Fallback∧q.2.2.1.Fallback≤q.2.2.1.Max)):=by
   rw [c5] at l2
   have l2:Ap q.2.2.1=true:=by simpa [Qi] using l2
   unfold Ap at l2
   simpa [leI,Qi] using l2
  obtain ⟨p1,p2,p3⟩:=hp (RP (A:=cs.map (·.Name)++os.map (·.Name)++ks.map (·.Name)++gs.map (·.Name)) (B:=bs.map (·.Name)) rfl (by simp [Zw]))
  refine ⟨⟨⟨o1,o2,o3,IQ o4 ⟨hai,hoi,hph,ham.1,ham.2.1,ham.2.2,hfb,hga⟩,fun c hc=>⟨(o5 c hc).1,Int.lt_of_lt_of_le (o5 c hc).2 (Int.ofNat_le.2 Fp)⟩,fun v hv=>p2 v (by simpa [Zw,BS.site,ZO] using hv),by simpa [Zw,BS.site,ZO] using p3⟩,by simp only [c5]; rw [show Qi 5 1=false from rfl,Bool.or_false]; exact hfd,RO hth (Nat.le_refl _) (Nat.le_refl _) Fp (by simp [c5,Qi]; try omega),fun v hv=>p1 v (by simpa [Zw,BS.site,ZO] using hv)⟩,?_⟩
  simp [c5]
 rw [if_neg c5]
 by_cases c6:y.N=6
 ·rw [if_pos c6]
  have hch:=R.charger (M (ks:=[6]) (by simp [needT]) (by rw [c6]; rfl))
  have hci:=(Pm hth).2.2 hch
  obtain ⟨p1,p2,p3⟩:=hp (RP (A:=cs.map (·.Name)++os.map (·.Name)++ks.map (·.Name)++gs.map (·.Name)++bs.map (·.Name)) (B:=[]) rfl (by simp [Zw]))
  refine ⟨⟨⟨o1,o2,o3,o4,IQ o5 hci,fun v hv=>p2 v (by simpa [Zw,BS.site,ZO] using hv),by simpa [Zw,BS.site,ZO] using p3⟩,by simp only [c6]; rw [show Qi 6 1=false from rfl,Bool.or_false]; exact hfd,RO hth (Nat.le_refl _) (Nat.le_refl _) (Nat.le_refl _) (by simp [c6,Qi]; try omega),fun v hv=>p1 v (by simpa [Zw,BS.site,ZO] using hv)⟩,?_⟩
  simp [c6]
 rw [if_neg c6]
 omega
theorem uH {d:Nat}:∀ {l:List GN} {s:BS},(∀ y ∈ l,KE d y∧Wu y.Name=true∧1≤y.N∧y.N≤7)→IV s→(runF l s).dg=[]→IV (runF l s) ∧
  (runF l s).cs.length=s.cs.length+l.countP (fun y=>decide (y.N=1∨y.N=2))∧(runF l s).os.length=s.os.length+l.countP (fun y=>decide (y.N=3))∧(runF l s).ks.length=s.ks.length+l.countP (fun y=>decide (y.N=4))∧(runF l s).gs.length=s.gs.length+l.countP (fun y=>decide (y.N=5))∧(runF l s).bs.length=s.bs.length+l.countP (fun y=>decide (y.N=6))
 | [],s,_,h,_=>⟨h,by simp [runF],by simp [runF],by simp [runF],by simp [runF],by simp [runF]⟩
 | y :: l,s,hl,h,hg=>by
  obtain ⟨h1,h2⟩:=jd hg
  obtain ⟨t1,t2,t3⟩:=hl y zq
  obtain ⟨g,g1,g2,g3,g4,g5⟩:=nV t1 t2 t3 h h1
  rw [h2] at hg ⊢
  obtain ⟨k,k1,k2,k3,k4,k5⟩:=uH (fun z hz=>hl z (by simp [hz])) g hg
  refine ⟨k,?_,?_,?_,?_,?_⟩
  ·rw [k1,g1,List.countP_cons]; simp only [decide_eq_true_eq]; omega
  ·rw [k2,g2,List.countP_cons]; simp only [decide_eq_true_eq]; omega
  ·rw [k3,g3,List.countP_cons]; simp only [decide_eq_true_eq]; omega
  ·rw [k4,g4,List.countP_cons]; simp only [decide_eq_true_eq]; omega
  ·rw [k5,g5,List.countP_cons]; simp only [decide_eq_true_eq]; omega
theorem step_loop {R V:Type} {B:(V→Option R)→V→Option R} {E:Option R} {f:Nat→V} {k:Nat} (hs:∀ rec (i:Nat),i < k→B rec (f i)=rec (f (i+1))) (he:∀ rec,B rec (f k)=E):∀ {n:Nat} (i:Nat),i≤k→k - i < n→QZ B n (f i)=E
 | 0,_,_,h=>absurd h (Nat.not_lt_zero _)
 | n+1,i,hi,h=>by
  unfold QZ
  by_cases c:i < k
  ·rw [hs _ i c]; exact step_loop hs he (i+1) c zo
  ·rw [show i=k by omega]; exact he _
theorem Hu {n:Nat} {x lo hi:Int} (h:lo≤x∧x≤hi):QC n x lo hi=some true:=by
 unfold QC
 rw [DT h.1,cond_true,DT h.2]
theorem GI {n:Nat} {x lo hi:Int} (h:lo≤x∧x≤hi):Qy n (⟨lo,hi⟩:ZA) x=some true:=by
 unfold Qy
 rw [DT h.1,cond_true,DT h.2]
theorem uI {f:Rw} (h:okF f):Xx ((Qi f.Rated 0)&&((Qi f.Heat 0)&&true))=true∨(Xx ((Qi f.Rated 0)&&((Qi f.Heat 0)&&true))=false∧(1≤f.Rated∧f.Rated≤1000)∧0≤f.Heat∧f.Heat≤1000000):=by
 rcases h with ⟨h1,h2⟩ | ⟨h1,h2⟩
 ·left; rw [h1,h2]; rfl
 ·right; refine ⟨?_,h1,h2⟩
  rw [AJ zo]; rfl
theorem vz {c:J4} (h:okW c):Xx ((Qi c.Ambient 0)&&((Qi c.Most 0)&&((Qi c.Gain 0)&&((Qi c.Loss 0)&&((Qi c.Den 0)&&true)))))=true∨(Xx ((Qi c.Ambient 0)&&((Qi c.Most 0)&&((Qi c.Gain 0)&&((Qi c.Loss 0)&&((Qi c.Den 0)&&true)))))=false∧((0≤c.Ambient∧c.Ambient≤200000)∧(0≤c.Most∧c.Most≤200000)∧(0≤c.Gain∧c.Gain≤1000)∧(0≤c.Loss∧c.Loss≤1000)∧1≤c.Den∧c.Den≤1000000)∧c.Ambient < c.Most):=by
 rcases h with rfl | h
 ·left; rfl
 ·right; refine ⟨?_,h⟩
  rw [AJ (show ¬ c.Den=0 by omega)]; simp [Xx]
theorem tL {n:Nat} {c:ZJ} {i:Nat} (hb:i≤1000) (h:iC c i):Vi n c (i:Int)=some true:=by
 obtain ⟨⟨u1,u2⟩,h2,h3,h4,h5⟩:=h
 unfold Vi
 rw [Hu h2,Zr,Bool.not_true,cond_false,Hu h3,Zr,Bool.not_true,cond_false]
 have hu:(cond (Qi (i:Int) 0) (cond (!Qi c.Up (-1)) (some true) (cond (QO 0 (i:Int)) ((QC n c.Up 0 (wi ((i:Int) - 1))).bind fun r9=>some (!r9)) (some false))) (cond (QO 0 (i:Int)) ((QC n c.Up 0 (wi ((i:Int) - 1))).bind fun r11=>some (!r11)) (some false)))=some false:=by
  by_cases h0:i=0
  ·subst h0
   rw [u1 rfl]; rfl
  ·have hi:=u2 zo
   rw [AJ zo,cond_false,JE zo,cond_true]
   rw [KG zo zo,Hu zo]; rfl
 rw [hu,Zr,cond_false]
 have hf:(cond (!Xx ((Qi c.Fuse.Rated 0)&&((Qi c.Fuse.Heat 0)&&true))) ((QC n c.Fuse.Rated 1 1000).bind fun r14=>cond (!r14) (some true) ((QC n c.Fuse.Heat 0 1000000).bind fun r16=>some (!r16))) (some false))=some false:=by
  rcases uI h4 with e | ⟨e,e1,e2⟩
  ·rw [e]; rfl
  ·rw [e,Hu e1,Zr,Hu e2]; rfl
 rw [hf,Zr,cond_false]
 rcases vz h5 with e | ⟨e,⟨e1,e2,e3,e4,e5⟩,e6⟩
 ·rw [e]; rfl
 ·rw [e,cond_false,Hu e1,Zr,cond_true,KG zo zo,Hu zo,Zr,cond_true,Hu e3,Zr,cond_true,Hu e4,Zr,cond_true,Hu e5]; rfl
theorem tN {n:Nat} {c:ZJ} {i:Nat} (h:iC c i):KX n c (i:Int)=some true:=by
 obtain ⟨⟨u1,u2⟩,h2,h3,h4,h5⟩:=h
 unfold KX
 have hu:(cond (Qi (i:Int) 0) (cond (!Qi c.Up (-1)) (some true) (cond (QO 0 (i:Int)) (cond (QO c.Up 0) (some true) (some (leI (i:Int) c.Up))) (some false))) (cond (QO 0 (i:Int)) (cond (QO c.Up 0) (some true) (some (leI (i:Int) c.Up))) (some false)))=some false:=by
  by_cases h0:i=0
  ·subst h0
   rw [u1 rfl]; rfl
  ·have hi:=u2 zo
   rw [AJ zo,cond_false,JE zo,cond_true,Y1 zo,cond_false,rR zo]
 rw [hu,Zr,cond_false,GI h2,Zr,Bool.not_true,cond_false,GI h3,Zr,Zr,Bool.not_true,cond_false]
 have hf:(cond (!Xx ((Qi c.Fuse.Rated 0)&&((Qi c.Fuse.Heat 0)&&true))) ((Qy n (⟨1,1000⟩:ZA) c.Fuse.Rated).bind fun r14=>cond r14 ((Qy n (⟨0,1000000⟩:ZA) c.Fuse.Heat).bind fun r16=>some (!r16)) (some true)) (some false))=some false:=by
  rcases uI h4 with e | ⟨e,e1,e2⟩
  ·rw [e]; rfl
  ·rw [e,GI e1,Zr,GI e2]; rfl
 rw [hf,Zr,cond_false]
 rcases vz h5 with e | ⟨e,⟨e1,e2,e3,e4,e5⟩,e6⟩
 ·rw [e]; rfl
 ·rw [e,cond_false,GI e1,Zr,cond_true,GI e2,Zr,cond_true,GI e3,Zr,cond_true,GI e4,Zr,cond_true,GI e5,Zr,cond_true]
  unfold YN
  rw [JE e6]; rfl
theorem LC {k:Nat} (h:k≤1000):wi ((k:Int) - 1)=(k:Int) - 1:=KG zo zo
theorem iT {n nc no:Nat} {c:ZY} (h:iD nc no c) (h1:nc≤1000) (h2:no≤1000):Wt n c=some true∧QC n c.At 0 (wi ((nc:Int) - 1))=some true∧QC n c.Owner 0 (wi ((no:Int) - 1))=some true:=by
 obtain ⟨a1,a2,a3,a4,a5,a6,a7,a8,a9⟩:=h
 refine ⟨?_,by rw [LC h1]; exact Hu zo,by rw [LC h2]; exact Hu zo⟩
 unfold Wt
 rw [Hu a3,Zr,cond_true,Hu a4,Zr,cond_true,Hu zo,Zr,cond_true,Hu a6,Zr,cond_true]
 rcases a9 with a9 | a9
 ·rw [a9]; rfl
 ·cases Qi c.Fallback 0
  ·rw [cond_false,Hu a9]; rfl
  ·rfl
theorem iU {n:Nat} {s:Qm} {c:ZY} (h:iD s.Conductors.length s.Owners.length c) (h1:s.Conductors.length≤1000) (h2:s.Owners.length≤1000):YD n s c=some true:=by
 obtain ⟨a1,a2,a3,a4,a5,a6,a7,a8,a9⟩:=h
 unfold YD
 simp only [Qc,List.length_map]
 rw [LC h1,LC h2,GI zo,Zr,cond_true,GI zo,Zr,cond_true,GI a3,Zr,cond_true,GI a4,Zr,cond_true,GI a5,Zr,cond_true,GI a6,Zr,cond_true,GI a7,Zr,cond_true]
 unfold KR
 rw [DT a8,cond_true]
 rcases a9 with a9 | a9
 ·rw [a9]; rfl
 ·rw [DT a9.1,DT a9.2]
  cases Qi c.Fallback 0 <;> rfl
theorem kJ {α:Type} {L:List α} {i:Nat} (hi:i < L.length):L.take (i+1)=L.take i++[L[i]]:=by
 rw [List.take_add_one,List.getElem?_eq_getElem hi]; rfl
theorem Vp {α:Type} {L:List α} {nm:α→List UInt8} {cs:α→List PV} {B:(List (List UInt8) × Int→Option (List (List UInt8)))→List (List UInt8) × Int→Option (List (List UInt8))} {n:Nat} {acc:List (List UInt8)}
  (hB:∀ rec a i,B rec (a,i)=cond (QO i (Qc (L.map cs))) ((Q8 L i).bind fun x=>cond (ZB (List.length (a++[nm x])) 16) (rec (a++[nm x],wi (i+1))) none) (some a)) (hl:L.length≤50) (ha:acc.length≤500) (hn:2000≤n):QZ B n (acc,0)=some (acc++L.map nm):=by
 have:=step_loop (B:=B) (E:=some (acc++L.map nm)) (k:=L.length) (f:=fun i=>(acc++(L.take i).map nm,(i:Int))) (fun rec i hi=>?_) (fun rec=>?_) (n:=n) 0 zo zo
 ·simpa using this
 ·rw [hB]
  simp only [Qc,List.length_map]
  rw [JE zo,cond_true,Zp,List.getElem?_eq_getElem hi,Zr,KG zo zo]
  have e:acc++List.map nm (List.take i L)++[nm L[i]]=acc++(L.take (i+1)).map nm:=by rw [kJ hi,List.map_append,List.append_assoc]; rfl
  rw [e,show ZB (List.length (acc++(L.take (i+1)).map nm)) 16=true from by unfold ZB; simp; omega,cond_true]
  rfl
 ·rw [hB]
  simp only [Qc,List.length_map]
  rw [Y1 zo,cond_false,List.take_length]
theorem iV {n:Nat} {l:List (List UInt8)} {s:List UInt8} (hs:s ∉ l) (hl:l.length≤1000) (hn:2000≤n):Ul n l s=some false:=by
 unfold Ul
 refine step_loop (f:=fun i:Nat=>(i:Int)) (k:=l.length) (fun rec i hi=>?_) (fun rec=>?_) 0 zo zo
 ·unfold Jd
  simp only [Qc,List.length_map]
  rw [JE zo,cond_true,Zp,List.getElem?_eq_getElem hi,Zr,KG zo zo]
  have:QP l[i] s=false:=by
   unfold QP
   rw [beq_eq_false_iff_ne]
   intro e
   exact hs (e ▸ List.getElem_mem hi)
  rw [this,cond_false]
  rfl
 ·unfold Jd
  simp only [Qc,List.length_map]
  rw [Y1 zo,cond_false]
theorem jg {s:List UInt8} (h:Wu s=true):s.length≤12:=by
 unfold Wu at h
 simp only [Kb,decide_eq_true_eq] at h
 exact h.1.1.1.2
theorem Pn {l:List (List UInt8)} (h:l.Nodup) {i:Nat} (hi:i < l.length):l[i] ∉ l.take i:=by
 intro hm
 obtain ⟨j,hj,e⟩:=List.mem_iff_getElem.1 hm
 simp only [List.length_take] at hj
 rw [List.getElem_take] at e
 have:=(List.getElem_inj h).1 e
 omega
theorem uJ {n:Nat} {l:List (List UInt8)} (h1:∀ w ∈ l,Wu w=true) (h2:l.Nodup) (hl:l.length≤500) (hn:2000≤n):QZ (fun rec i=>Ym n l rec i) n 0=some true:=by
 refine step_loop (f:=fun i:Nat=>(i:Int)) (k:=l.length) (fun rec i hi=>?_) (fun rec=>?_) 0 zo zo
 ·unfold Ym
  simp only [Qc,List.length_map]
  have hb:=h1 _ (List.getElem_mem hi)
  rw [JE zo,cond_true,Zp,List.getElem?_eq_getElem hi,Zr,ik _ _ zo (by have:=jg hb; omega),hb,Zr,Bool.not_true,cond_false]
  rw [show sliceB 0 (i:Int) l.length=true from by unfold sliceB; rw [decide_eq_true_eq]; omega,cond_true,Zr]
  have e:List.drop (Int.toNat 0) (List.take (Int.toNat (i:Int)) l)=l.take i:=by simp
  rw [e,iV (Pn h2 hi) (by simp; omega) hn,Zr,Zr,cond_false,KG zo zo]
  rfl
 ·unfold Ym
  simp only [Qc,List.length_map]
  rw [Y1 zo,cond_false]
def O9 (s:Qm):Prop:=s.Conductors.length≤16∧s.Owners.length≤8∧s.Contracts.length≤32∧s.Chargers.length≤16∧s.Bays.length≤24
theorem Po {s:Qm} (h:O9 s):(Zw s).length≤100:=by
 unfold O9 at h
 simp only [Zw,nD,List.length_map]
 omega
theorem nW {n:Nat} {s:Qm} (hf:O9 s) (hb:∀ w ∈ Zw s,Wu w=true) (hd:(Zw s).Nodup) (hn:2000≤n):JL n s=some true:=by
 obtain ⟨f1,f2,f3,f4,f5⟩:=hf
 unfold JL
 refine (congrArg (fun q=>Option.bind q _) (Vp (L:=s.Conductors) (nm:=(·.Name)) (acc:=[]) (B:=fun rec (v:List (List UInt8) × Int)=>Js s rec v.1 v.2) (fun _ _ _=>rfl) zo (by simp; try omega) hn)).trans ?_
 rw [Zr]
 refine (congrArg (fun q=>Option.bind q _) (Vp (L:=s.Owners) (nm:=(·.Name)) (acc:=([]++s.Conductors.map (·.Name))) (B:=fun rec (v:List (List UInt8) × Int)=>Jt s rec v.1 v.2) (fun _ _ _=>rfl) zo (by simp; try omega) hn)).trans ?_
 rw [Zr]
 refine (congrArg (fun q=>Option.bind q _) (Vp (L:=s.Contracts) (nm:=(·.Name)) (acc:=(([]++s.Conductors.map (·.Name))++s.Owners.map (·.Name))) (B:=fun rec (v:List (List UInt8) × Int)=>Ju s rec v.1 v.2) (fun _ _ _=>rfl) zo (by simp; try omega) hn)).trans ?_
 rw [Zr]
 refine (congrArg (fun q=>Option.bind q _) (Vp (L:=s.Chargers) (nm:=(·.Name)) (acc:=((([]++s.Conductors.map (·.Name))++s.Owners.map (·.Name))++s.Contracts.map (·.Name))) (B:=fun rec (v:List (List UInt8) × Int)=>WJ s rec v.1 v.2) (fun _ _ _=>rfl) zo (by simp; try omega) hn)).trans ?_
 rw [Zr]
 refine (congrArg (fun q=>Option.bind q _) (Vp (L:=s.Bays) (nm:=(·.Name)) (acc:=(((([]++s.Conductors.map (·.Name))++s.Owners.map (·.Name))++s.Contracts.map (·.Name))++s.Chargers.map (·.Name))) (B:=fun rec (v:List (List UInt8) × Int)=>WK s rec v.1 v.2) (fun _ _ _=>rfl) zo (by simp; try omega) hn)).trans ?_
 rw [Zr]
 rw [List.nil_append]
 exact uJ hb hd (by have:=Po ⟨f1,f2,f3,f4,f5⟩; unfold Zw at this; omega) hn
theorem nX {n:Nat} {s:Qm} (hf:O9 s) (hn:2000≤n):Jb n s=some (Zw s):=by
 obtain ⟨f1,f2,f3,f4,f5⟩:=hf
 unfold Jb
 refine (congrArg (fun q=>Option.bind q _) (Vp (L:=s.Conductors) (nm:=(·.Name)) (acc:=[]) (B:=fun rec (v:List (List UInt8) × Int)=>WG s rec v.1 v.2) (fun _ _ _=>rfl) zo (by simp; try omega) hn)).trans ?_
 rw [Zr]
 refine (congrArg (fun q=>Option.bind q _) (Vp (L:=s.Owners) (nm:=(·.Name)) (acc:=([]++s.Conductors.map (·.Name))) (B:=fun rec (v:List (List UInt8) × Int)=>WH s rec v.1 v.2) (fun _ _ _=>rfl) zo (by simp; try omega) hn)).trans ?_
 rw [Zr]
 refine (congrArg (fun q=>Option.bind q _) (Vp (L:=s.Contracts) (nm:=(·.Name)) (acc:=(([]++s.Conductors.map (·.Name))++s.Owners.map (·.Name))) (B:=fun rec (v:List (List UInt8) × Int)=>WI s rec v.1 v.2) (fun _ _ _=>rfl) zo (by simp; try omega) hn)).trans ?_
 rw [Zr]
 refine (congrArg (fun q=>Option.bind q _) (Vp (L:=s.Chargers) (nm:=(·.Name)) (acc:=((([]++s.Conductors.map (·.Name))++s.Owners.map (·.Name))++s.Contracts.map (·.Name))) (B:=fun rec (v:List (List UInt8) × Int)=>Wi s rec v.1 v.2) (fun _ _ _=>rfl) zo (by simp; try omega) hn)).trans ?_
 rw [Zr]
 refine (Vp (L:=s.Bays) (nm:=(·.Name)) (acc:=(((([]++s.Conductors.map (·.Name))++s.Owners.map (·.Name))++s.Contracts.map (·.Name))++s.Chargers.map (·.Name))) (B:=fun rec (v:List (List UInt8) × Int)=>Wj s rec v.1 v.2) (fun _ _ _=>rfl) zo (by simp; try omega) hn).trans ?_
 rw [List.nil_append]; rfl
theorem uK {n:Nat} {s:Qm} (h:OkS s) (hf:O9 s) (h1:1≤s.Conductors.length) (hn:2000≤n):Wy n s=some true:=by
 have hnm:=nW hf h.nm h.nd hn
 obtain ⟨f1,f2,f3,f4,f5⟩:=hf
 unfold Wy
 simp only [Qc,List.length_map]
 rw [Hu zo,Zr,Bool.not_true,cond_false,Y1 zo,cond_false,Y1 zo,cond_false,Y1 zo,cond_false,Y1 zo,cond_false,hnm,Zr,Zr,Bool.not_true,cond_false]
 refine step_loop (f:=fun i:Nat=>(i:Int)) (k:=s.Conductors.length) (fun rec i hi=>?_) (fun rec=>?_) 0 zo zo
 ·unfold Vn
  simp only [Qc,List.length_map]
  rw [JE zo,cond_true,Zp,List.getElem?_eq_getElem hi,Zr,tL zo (h.c i _ (List.getElem?_eq_getElem hi)),Zr,Bool.not_true,cond_false,KG zo zo]
  rfl
 unfold Vn
 simp only [Qc,List.length_map]
 rw [Y1 zo,cond_false]
 unfold YQ
 refine step_loop (f:=fun i:Nat=>(i:Int)) (k:=s.Contracts.length) (fun rec i hi=>?_) (fun rec=>?_) 0 zo zo
 ·unfold Vm
  simp only [Qc,List.length_map]
  obtain ⟨k1,k2,k3⟩:=h.k _ (List.getElem_mem hi)
  rw [JE zo,cond_true,Zp,List.getElem?_eq_getElem hi,Zr,LC zo,Hu zo,Zr,Bool.not_true,cond_false,Hu k2,Zr,Bool.not_true,cond_false,Hu k3,Zr,Bool.not_true,Zr,cond_false]
  refine (step_loop (f:=fun j:Nat=>(j:Int)) (k:=i) (E:=rec ((i+1:Nat):Int)) (fun rec2 j hj=>?_) (fun rec2=>?_) 0 zo zo)
  ·unfold Vl
   rw [JE zo,cond_true,Zp,List.getElem?_eq_getElem (show j < s.Contracts.length by omega),Zr,AJ (List.pairwise_iff_getElem.1 h.kd j i zo hi hj),cond_false,KG zo zo]
   rfl
  ·unfold Vl
   rw [Y1 zo,cond_false,KG zo zo]
   rfl
 unfold Vm
 simp only [Qc,List.length_map]
 rw [Y1 zo,cond_false]
 unfold Yo
 refine step_loop (f:=fun i:Nat=>(i:Int)) (k:=s.Chargers.length) (fun rec i hi=>?_) (fun rec=>?_) 0 zo zo
 ·unfold Vk
  simp only [Qc,List.length_map]
  obtain ⟨k1,k2,k3⟩:=iT (n:=n) (h.g _ (List.getElem_mem hi)) zo zo
  rw [JE zo,cond_true,Zp,List.getElem?_eq_getElem hi,Zr,k1,Zr,Bool.not_true,cond_false,k2,Zr,Bool.not_true,cond_false,k3,Zr,Bool.not_true,Zr,cond_false,KG zo zo]
  rfl
 unfold Vk
 simp only [Qc,List.length_map]
 rw [Y1 zo,cond_false]
 unfold Yn
 refine step_loop (f:=fun i:Nat=>(i:Int)) (k:=s.Bays.length) (fun rec i hi=>?_) (fun rec=>?_) 0 zo zo
 ·unfold Vj
  simp only [Qc,List.length_map]
  have k1:=h.b _ (List.getElem_mem hi)
  rw [JE zo,cond_true,Zp,List.getElem?_eq_getElem hi,Zr,LC zo,Hu zo,Zr,Bool.not_true,cond_false,KG zo zo]
  rfl
 unfold Vj
 simp only [Qc,List.length_map]
 rw [Y1 zo,cond_false]
def qa (l:List ZT):List (Int × Bool):=l.foldl (fun m c=>Qk Zf c.Card true m) []
theorem uL (a b:Int):Zf a b=true↔a=b:=by
 unfold Zf Qi
 simp
theorem AB:∀ (l:List ZT) (m:List (Int × Bool)) (z:Int),(∀ c ∈ l,c.Card ≠ z)→QB Zf z false m=false→QB Zf z false (l.foldl (fun m c=>Qk Zf c.Card true m) m)=false
 | [],m,z,_,h=>h
 | c :: l,m,z,hc,h=>by
  rw [List.foldl_cons]
  refine AB l _ z (fun a ha=>hc a (by simp [ha])) ?_
  unfold QB at h ⊢
  rw [Pk uL,show Zf z c.Card=false from by
   cases e:Zf z c.Card
   ·rfl
   ·exact absurd ((uL _ _).1 e).symm (hc c zq)]
  exact h
def qb (l:List (List UInt8)):VZ:=l.foldl (fun m w=>Qk Qb w true m) []
theorem AC:∀ (l:List (List UInt8)) (m:VZ) (z:List UInt8),z ∉ l→QB Qb z false m=false→QB Qb z false (l.foldl (fun m w=>Qk Qb w true m) m)=false
 | [],m,z,_,h=>h
 | c :: l,m,z,hc,h=>by
  rw [List.foldl_cons]
  simp only [List.mem_cons,not_or] at hc
  refine AC l _ z hc.2 ?_
  have:=DF z c m
  unfold YZ at this
  rw [this,h,Bool.false_or,beq_eq_false_iff_ne]
  exact hc.1
theorem nY {n:Nat} {s:Qm} (h:OkS s) (hf:O9 s) (hn:2000≤n):Vf n s=some true:=by
 obtain ⟨f1,f2,f3,f4,f5⟩:=hf
 unfold Vf
 refine step_loop (f:=fun i:Nat=>(i:Int)) (k:=s.Conductors.length) (fun rec i hi=>?_) (fun rec=>?_) 0 zo zo
 ·unfold KY
  simp only [Qc,List.length_map]
  rw [JE zo,cond_true,Zp,List.getElem?_eq_getElem hi,Zr,tN (h.c i _ (List.getElem?_eq_getElem hi)),Zr,Bool.not_true,cond_false,KG zo zo]
  rfl
 unfold KY
 simp only [Qc,List.length_map]
 rw [Y1 zo,cond_false]
 unfold KD
 refine step_loop (B:=fun rec (v:Int × List (Int × Bool))=>Kg n s rec v.1 v.2) (f:=fun i:Nat=>((i:Int),qa (s.Contracts.take i))) (k:=s.Contracts.length) (fun rec i hi=>?_) (fun rec=>?_) 0 zo zo
 ·unfold Kg
  simp only [Qc,List.length_map]
  obtain ⟨k1,k2,k3⟩:=h.k _ (List.getElem_mem hi)
  have e:QB Zf s.Contracts[i].Card false (qa (s.Contracts.take i))=false:=by
   refine AB _ _ _ (fun c hc=>?_) rfl
   obtain ⟨j,hj,e⟩:=List.mem_iff_getElem.1 hc
   simp only [List.length_take] at hj
   rw [List.getElem_take] at e
   rw [← e]
   exact List.pairwise_iff_getElem.1 h.kd j i zo hi zo
  have e2:qa (s.Contracts.take (i+1))=Qk Zf s.Contracts[i].Card true (qa (s.Contracts.take i)):=by
   unfold qa
   rw [kJ hi,List.foldl_append]; rfl
  rw [JE zo,cond_true,Zp,List.getElem?_eq_getElem hi,Zr,LC zo,GI zo,Zr,Bool.not_true,cond_false,GI k2,Zr,Bool.not_true,cond_false,GI k3,Zr,Bool.not_true,cond_false,e,Zr,cond_false,KG zo zo,e2]
  rfl
 unfold Kg
 simp only [Qc,List.length_map]
 rw [Y1 zo,cond_false]
 unfold KC
 refine step_loop (f:=fun i:Nat=>(i:Int)) (k:=s.Chargers.length) (fun rec i hi=>?_) (fun rec=>?_) 0 zo zo
 ·unfold Yi
  simp only [Qc,List.length_map]
  rw [JE zo,cond_true,Zp,List.getElem?_eq_getElem hi,Zr,iU (h.g _ (List.getElem_mem hi)) zo zo,Zr,Bool.not_true,cond_false,KG zo zo]
  rfl
 unfold Yi
 simp only [Qc,List.length_map]
 rw [Y1 zo,cond_false]
 unfold KA
 refine step_loop (f:=fun i:Nat=>(i:Int)) (k:=s.Bays.length) (fun rec i hi=>?_) (fun rec=>?_) 0 zo zo
 ·unfold Yh
  simp only [Qc,List.length_map]
  have k1:=h.b _ (List.getElem_mem hi)
  rw [JE zo,cond_true,Zp,List.getElem?_eq_getElem hi,Zr,LC zo,GI zo,Zr,Bool.not_true,cond_false,KG zo zo]
  rfl
 unfold Yh
 simp only [Qc,List.length_map]
 rw [Y1 zo,cond_false]
theorem uM {n:Nat} {s:Qm} (h:OkS s) (hf:O9 s) (h1:1≤s.Conductors.length) (hn:2000≤n):Vg n s=some true:=by
 have hp:=nY h hf hn
 have hnm:=nX hf hn
 have hl:=Po hf
 obtain ⟨f1,f2,f3,f4,f5⟩:=hf
 unfold Vg
 simp only [Qc,List.length_map]
 rw [Y1 zo,cond_false,Y1 zo,cond_false,Y1 zo,cond_false,Y1 zo,cond_false,Y1 zo,cond_false,Y1 zo,Zr,cond_false,hnm,Zr]
 refine step_loop (B:=fun rec (v:Int × VZ)=>YO n s (Zw s) rec v.1 v.2) (f:=fun i:Nat=>((i:Int),qb ((Zw s).take i))) (k:=(Zw s).length) (fun rec i hi=>?_) (fun rec=>?_) 0 zo zo
 ·unfold YO
  simp only [Qc,List.length_map]
  have e:QB Qb (Zw s)[i] false (qb ((Zw s).take i))=false:=AC _ _ _ (Pn h.nd hi) rfl
  have e2:qb ((Zw s).take (i+1))=Qk Qb (Zw s)[i] true (qb ((Zw s).take i)):=by
   unfold qb
   rw [kJ hi,List.foldl_append]; rfl
  have e3:Ws n (Zw s)[i]=some true:=by
   unfold Ws
   rw [ny n _ zo,h.nm _ (List.getElem_mem hi)]; rfl
  rw [JE zo,cond_true,Zp,List.getElem?_eq_getElem hi,Zr,e3,Zr,Bool.not_true,cond_false,e,Zr,cond_false,KG zo zo,e2]
  rfl
 unfold YO
 simp only [Qc,List.length_map]
 rw [Y1 zo,cond_false]
 unfold Y7
 rw [hp]; rfl
def Xh (p:Int→Bool) (l:List GN):Int:=(l.countP (fun y=>p y.N):Nat)
theorem uN (p:Int→Bool) (y:GN) (l:List GN):Xh p (y :: l)=Xh p l+(if p y.N then 1 else 0):=by
 unfold Xh
 rw [List.countP_cons]
 split <;> simp
theorem uO {n d:Nat} {x:GN} (hk:NF d x.Kids) (hl:x.Kids.length≤1000) (hn:2000≤n):∃ z,VT n x=some (Xh (fun k=>decide (k=1∨k=2)) (QA x.Kids),Xh (fun k=>decide (k=3)) (QA x.Kids),Xh (fun k=>decide (k=4)) (QA x.Kids),Xh (fun k=>decide (k=5)) (QA x.Kids),Xh (fun k=>decide (k=6)) (QA x.Kids),z):=by
 have:=WA (n:=n) (B:=fun rec (v:Int × Int × Int × Int × Int × Int × Int)=>Vh x rec v.1 v.2.1 v.2.2.1 v.2.2.2.1 v.2.2.2.2.1 v.2.2.2.2.2.1 v.2.2.2.2.2.2) (v:=(0,0,0,0,0,0,0))
  (Q:=fun v r=>∃ z,r=(v.2.1+Xh (fun k=>decide (k=1∨k=2)) (QA (x.Kids.drop v.1.toNat)),v.2.2.1+Xh (fun k=>decide (k=3)) (QA (x.Kids.drop v.1.toNat)),v.2.2.2.1+Xh (fun k=>decide (k=4)) (QA (x.Kids.drop v.1.toNat)),v.2.2.2.2.1+Xh (fun k=>decide (k=5)) (QA (x.Kids.drop v.1.toNat)),v.2.2.2.2.2.1+Xh (fun k=>decide (k=6)) (QA (x.Kids.drop v.1.toNat)),z))
  (fun v=>x.Kids.length - v.1.toNat) (fun v=>∃ i:Nat,v.1=(i:Int)∧i≤x.Kids.length∧(0≤v.2.1∧v.2.1≤i)∧(0≤v.2.2.1∧v.2.2.1≤i)∧(0≤v.2.2.2.1∧v.2.2.2.1≤i)∧(0≤v.2.2.2.2.1∧v.2.2.2.2.1≤i)∧(0≤v.2.2.2.2.2.1∧v.2.2.2.2.2.1≤i)∧(0≤v.2.2.2.2.2.2∧v.2.2.2.2.2.2≤i)) ?_ ⟨0,rfl,by omega,by simp,by simp,by simp,by simp,by simp,by simp⟩ (by simp only; omega)
 ·obtain ⟨r,e,z,h⟩:=this
  refine ⟨z,?_⟩
  have h2:r=_:=h
  simp only [Int.zero_add] at h2
  rw [show VT n x=some r from e,h2]
  rfl
 rintro rec ⟨q,c1,c2,c3,c4,c5,c6⟩ ⟨i,hi,hil,b1,b2,b3,b4,b5,b6⟩ hrec
 simp only at hi b1 b2 b3 b4 b5 b6 hrec ⊢
 subst hi
 unfold Vh
 simp only [Qc,List.length_map,Int.toNat_natCast] at hrec ⊢
 by_cases h1:i < x.Kids.length
 rotate_left
 ·rw [Y1 zo,cond_false,Um _ zo]
  exact QG ⟨c6,by simp [Xh]⟩
 obtain ⟨y,hy,hty,hc⟩:=Gj hk h1
 rw [JE zo,cond_true,hy,Zr,hc]
 simp only [uN,YK,Kh,Zr,decide_eq_true_eq]
 have key:∀ a1 a2 a3 a4 a5 a6:Int,(0≤a1∧a1≤(i+1:Nat))→(0≤a2∧a2≤(i+1:Nat))→(0≤a3∧a3≤(i+1:Nat))→(0≤a4∧a4≤(i+1:Nat))→(0≤a5∧a5≤(i+1:Nat))→(0≤a6∧a6≤(i+1:Nat)) →
   Does (rec (wi ((i:Int)+1),a1,a2,a3,a4,a5,a6)) (fun r=>∃ z,r=(a1+Xh (fun k=>decide (k=1∨k=2)) (QA (x.Kids.drop (i+1))),a2+Xh (fun k=>decide (k=3)) (QA (x.Kids.drop (i+1))),a3+Xh (fun k=>decide (k=4)) (QA (x.Kids.drop (i+1))),a4+Xh (fun k=>decide (k=5)) (QA (x.Kids.drop (i+1))),a5+Xh (fun k=>decide (k=6)) (QA (x.Kids.drop (i+1))),z)):=by
  intro a1 a2 a3 a4 a5 a6 e1 e2 e3 e4 e5 e6
  rw [KG (x:=(i:Int)+1) zo zo]
  have:=hrec ((i:Int)+1,a1,a2,a3,a4,a5,a6) ⟨i+1,by simp,h1,e1,e2,e3,e4,e5,e6⟩ (by simp only; omega)
  simpa only [show ((i:Int)+1).toNat=i+1 by omega] using this
 have W:∀ {c:Int},0≤c∧c≤(i:Int)→wi (c+1)=c+1:=fun h=>KG zo zo
 have hz:∀ {a1 a2 a3 a4 a5:Int} {f1 f2 f3 f4 f5:Int},a1=f1→a2=f2→a3=f3→a4=f4→a5=f5→∀ z:Int,(a1,a2,a3,a4,a5,z)=(f1,f2,f3,f4,f5,z):=by rintro _ _ _ _ _ _ _ _ _ _ rfl rfl rfl rfl rfl z; rfl
 by_cases n12:y.N=1∨y.N=2
 ·rw [show (bif decide (y.N=1) then decide (y.N=1) else decide (y.N=2))=true from by rcases n12 with h | h <;> rw [h] <;> rfl,cond_true,W b1]
  refine Yp (key (c1+1) c2 c3 c4 c5 c6 zo zo zo zo zo zo) ?_
  rintro r ⟨z,rfl⟩
  refine ⟨z,hz ?_ ?_ ?_ ?_ ?_ z⟩
  all_goals (first | (rw [if_pos zo]; omega) | (rw [if_neg zo]; omega))
 rw [show (bif decide (y.N=1) then decide (y.N=1) else decide (y.N=2))=false from by rw [Vw zo,cond_false,Vw zo],cond_false]
 by_cases n3:y.N=3
 ·rw [WB n3,cond_true,W b2]
  refine Yp (key c1 (c2+1) c3 c4 c5 c6 zo zo zo zo zo zo) ?_
  rintro r ⟨z,rfl⟩
  refine ⟨z,hz ?_ ?_ ?_ ?_ ?_ z⟩
  all_goals (first | (rw [if_pos zo]; omega) | (rw [if_neg zo]; omega))
 rw [Vw n3,cond_false]
 by_cases n4:y.N=4
 ·rw [WB n4,cond_true,W b3]
  refine Yp (key c1 c2 (c3+1) c4 c5 c6 zo zo zo zo zo zo) ?_
  rintro r ⟨z,rfl⟩
  refine ⟨z,hz ?_ ?_ ?_ ?_ ?_ z⟩
  all_goals (first | (rw [if_pos zo]; omega) | (rw [if_neg zo]; omega))
 rw [Vw n4,cond_false]
 by_cases n5:y.N=5
 ·rw [WB n5,cond_true,W b4]
  refine Yp (key c1 c2 c3 (c4+1) c5 c6 zo zo zo zo zo zo) ?_
  rintro r ⟨z,rfl⟩
  refine ⟨z,hz ?_ ?_ ?_ ?_ ?_ z⟩
  all_goals (first | (rw [if_pos zo]; omega) | (rw [if_neg zo]; omega))
 rw [Vw n5,cond_false]
 by_cases n6:y.N=6
 ·rw [WB n6,cond_true,W b5]
  refine Yp (key c1 c2 c3 c4 (c5+1) c6 zo zo zo zo zo zo) ?_
  rintro r ⟨z,rfl⟩
  refine ⟨z,hz ?_ ?_ ?_ ?_ ?_ z⟩
  all_goals (first | (rw [if_pos zo]; omega) | (rw [if_neg zo]; omega))
 rw [Vw n6,cond_false]
 rw [W b6]
 refine Yp (key c1 c2 c3 c4 c5 (c6+1) zo zo zo zo zo zo) ?_
 rintro r ⟨z,rfl⟩
 refine ⟨z,hz ?_ ?_ ?_ ?_ ?_ z⟩
 all_goals (rw [if_neg zo]; omega)
theorem jh (n:Nat) (xs:List Int):zI n xs xs=true:=by
 unfold zI
 rw [List.all_eq_true]
 intro j _
 exact rT rfl
theorem IR {x y:GN} (h:RL x=true) (hy:y ∈ QA x.Kids):Wu y.Name=true∧1≤y.N∧y.N≤7:=by
 simp only [RL,Kb,List.all_eq_true] at h
 have hi:=h.2.2.2 y hy
 simp only [TG,Kb,decide_eq_true_eq] at hi
 exact ⟨hi.2.2.2.1,hi.2.1,hi.2.2.1⟩
theorem qc:∀ {l:List GN} {s:BS},s.fit→s.dg.length < 20→(runF l s).dg.length≤20
 | [],s,_,h=>Nat.le_of_lt h
 | y :: l,s,hf,h=>by
  obtain ⟨f1,f2,_⟩:=DD (y:=y) hf
  unfold runF
  split
  ·omega
  ·exact qc f1 zo
theorem qf {n d:Nat} {x:GN} (ht:KE d x) (hn:9223372036854776000≤n) (hs:1+(x.Kids.length:Int)+nA (QA x.Kids)≤400) (hv:RL x=true) (hdg:(runF (QA x.Kids) bs0).dg=[]) (hfd:(runF (QA x.Kids) bs0).fd=true) :
  ((VT n x).bind fun r8=>cond true ((Wy n (runF (QA x.Kids) bs0).site).bind fun r10=>cond r10 ((Vg n (runF (QA x.Kids) bs0).site).bind fun r12=>cond r12 ((Wz n (runF (QA x.Kids) bs0).site).bind fun r14 =>
   some (Xx (zI 6 [r14.1,r14.2.1,r14.2.2.1,r14.2.2.2.1,r14.2.2.2.2.1,r14.2.2.2.2.2] [r8.1,r8.2.1,r8.2.2.1,r8.2.2.2.1,r8.2.2.2.2.1,0]))) (some false)) (some false)) (some false))=some true:=by
 obtain ⟨e,rfl,hl,_,hk⟩:=ZP ht
 have hsw:=Na (QA x.Kids)
 obtain ⟨iv,i1,i2,i3,i4,i5⟩:=uH (d:=e) (fun y hy=>⟨Ff hk y hy,IR hv hy⟩) iv0 hdg
 have hfit:O9 (runF (QA x.Kids) bs0).site:=vo (l:=QA x.Kids) iM
 have h1:1≤(runF (QA x.Kids) bs0).site.Conductors.length:=by
  have:=iv.fd.1 hfd
  exact List.length_pos_iff.2 this
 obtain ⟨z,hc⟩:=uO (n:=n) hk zo zo
 have hV:=uK (n:=n) iv.ok hfit h1 zo
 have hW:=uM (n:=n) iv.ok hfit h1 zo
 rw [hc,Zr,cond_true,hV,Zr,cond_true,hW,Zr,cond_true,nR,Zr]
 have e1:((runF (QA x.Kids) bs0).site.Conductors.length:Int)=Xh (fun k=>decide (k=1∨k=2)) (QA x.Kids):=by unfold Xh; rw [show (runF (QA x.Kids) bs0).site.Conductors.length=_ from i1]; simp [bs0]
 have e2:((runF (QA x.Kids) bs0).site.Owners.length:Int)=Xh (fun k=>decide (k=3)) (QA x.Kids):=by unfold Xh; rw [show (runF (QA x.Kids) bs0).site.Owners.length=_ from i2]; simp [bs0]
 have e3:((runF (QA x.Kids) bs0).site.Contracts.length:Int)=Xh (fun k=>decide (k=4)) (QA x.Kids):=by unfold Xh; rw [show (runF (QA x.Kids) bs0).site.Contracts.length=_ from i3]; simp [bs0]
 have e4:((runF (QA x.Kids) bs0).site.Chargers.length:Int)=Xh (fun k=>decide (k=5)) (QA x.Kids):=by unfold Xh; rw [show (runF (QA x.Kids) bs0).site.Chargers.length=_ from i4]; simp [bs0]
 have e5:((runF (QA x.Kids) bs0).site.Bays.length:Int)=Xh (fun k=>decide (k=6)) (QA x.Kids):=by unfold Xh; rw [show (runF (QA x.Kids) bs0).site.Bays.length=_ from i5]; simp [bs0]
 simp only [e1,e2,e3,e4,e5,jh,Xx]
theorem TI {n:Nat} {dg:List ZX} (hn:2000≤n) (hl:dg.length≤20) :
  ((cond true ((Jr n (⟨[],[],[],[],[]⟩:Qm) (⟨[],[],[],[],[]⟩:Qm)).bind fun r6=>cond r6 (some (leI (dg.length:Int) 20)) (some false)) (some false)).bind fun j4=>some j4)=some true:=by
 rw [cond_true,je zq zq zq zq zq hn,Zr,cond_true,DT zo]
 rfl
theorem kK {n d:Nat} {x:GN} (ht:KE d x) (hn:9223372036854776000≤n) (hh:Xv n=some true):K5 n x=some true:=by
 obtain ⟨b,hb,hfew⟩:=Qb6 ht hn
 unfold K5
 rw [hh,Zr,hb,Zr]
 cases b
 ·rfl
 have hs:=hfew rfl
 simp only [Bool.not_true,cond_false,Qc,List.length_map]
 rw [nL ht hn zo,Zr]
 by_cases hv:RL x=true
 rotate_left
 ·rw [if_neg hv]
  simp only [List.length_singleton]
  rw [JE (by decide),cond_true]
  exact TI (dg:=[⟨1,0⟩]) zo zq
 rw [if_pos hv]
 by_cases hdg:(runF (QA x.Kids) bs0).dg=[]
 rotate_left
 ·rw [if_neg hdg]
  have h1:=List.length_pos_iff.2 hdg
  simp only
  rw [JE zo,cond_true]
  exact TI zo (qc iM (by simp [bs0]))
 rw [if_pos hdg]
 by_cases hfd:(runF (QA x.Kids) bs0).fd=true
 rotate_left
 ·rw [if_neg hfd]
  simp only [List.length_singleton]
  rw [JE (by decide),cond_true]
  exact TI (dg:=[⟨4,0⟩]) zo zq
 rw [if_pos hfd]
 simp only [List.length_nil]
 rw [Y1 (by decide),cond_false]
 exact qf ht hn hs hv hdg hfd
theorem Pq {d:Nat} {x:GN} (ht:KE d x):K5 36893488147419103232 x=some true:=kK ht zo tC
end Go.Proofs
namespace Go.Proofs.YteakahdpnpecoaaGreat
open Go Go.Abs Go.Proofs
theorem vB:∀ (d:Nat) (x:GN),GN.wfd d x→KE d x
 | 0,_,h=>h.elim
 | d+1,x,h=>by
  obtain ⟨h0,h1,h2,h3,h4⟩:=h
  exact ⟨h0,h2,h3,h1,h4.1,fun k hk=>by
   obtain ⟨y,e,g⟩:=h4.2 k hk
   exact ⟨y,by rw [e]; exact nu _ _ _ _ _,vB d y g⟩⟩
theorem siteBuilds_holds:Rows.SiteBuildsSaid :=
 NU (fun x h=>by
  obtain ⟨d,h⟩:=h
  exact ⟨_,Pq (vB d x h)⟩)
end Go.Proofs.YteakahdpnpecoaaGreat
