/-
  A part of the proof of a statement of the seat YteakahdpnpecoaaGreat.
-/
import Derived.Test.YteakahdpnpecoaaGreatNam05
set_option linter.unusedVariables false
namespace Go.Proofs
open Go Go.Abs
set_option maxRecDepth 100000
theorem sU {n d:Nat} {x:GN} (ht:ZC d x) (hn:9223372036854776000≤n):Wj n x=some (He x):=by
 obtain ⟨e,rfl,hl,hs,hk⟩:=Q5 ht
 have hloop:QT (fun recl6 l6=>YF n x recl6 l6) n 0=some (F8 (decide (x.N=7)) false (Qw x.Kids)):=by
  have:=K6 (B:=fun recl6 l6=>YF n x recl6 l6) (n:=n) (L:=x.Kids.length) (fun i r=>r=F8 (decide (x.N=7)) (decide (0 < i)&&((Option.bind (Q4 x.Kids ((i:Int) - 1)) GN.of).map fun z=>decide (z.Kind=4)).getD false) (Qw (x.Kids.drop i))) hl (fun rec i hi hr=>?_) 0 zo zo
  ·obtain ⟨r,e,h⟩:=this
   rw [show ((0:Nat):Int)=0 from rfl] at e
   rw [e,h]; rfl
  unfold YF
  simp only [Qc,List.length_map,QL]
  by_cases c1:i < x.Kids.length
  rotate_left
  ·rw [K7 zo,WT _ zo]; exact Qs rfl
  obtain ⟨y,hy,hty,hc⟩:=Xj hk c1
  obtain ⟨w1,w2⟩:=hr c1
  have hprev:cond (decide (0 < (i:Int))) ((Option.bind (Q4 x.Kids (wi ((i:Int) - 1))) GN.of).bind fun x15=>some (Qi x15.Kind 4)) (some false)=some (decide (0 < i)&&((Option.bind (Q4 x.Kids ((i:Int) - 1)) GN.of).map fun z=>decide (z.Kind=4)).getD false):=by
   by_cases h0:0 < i
   ·obtain ⟨z,hz,_⟩:=RF hk (show i - 1 < x.Kids.length by omega)
    rw [Y7 (x:=(i:Int) - 1) zo zo,show (i:Int) - 1=((i - 1:Nat):Int) by omega,hz,YU zo,YU h0]
    simp only [cond_true,ZW,Kh,Bool.true_and,Option.map_some,Option.getD_some]
   ·rw [K7 zo,K7 h0]; rfl
  rw [YU zo,cond_true,hy,ZW,w1,aZ hty hn,ZW,hprev,hc,Kh,Kh,Kh]
  generalize (decide (0 < i)&&((Option.bind (Q4 x.Kids ((i:Int) - 1)) GN.of).map fun z=>decide (z.Kind=4)).getD false)=p
  have hp1:(decide (0 < i+1)&&((Option.bind (Q4 x.Kids (((i+1:Nat):Int) - 1)) GN.of).map fun z=>decide (z.Kind=4)).getD false)=decide (y.Kind=4):=by
   rw [YU zo,show (((i+1:Nat):Int) - 1)=(i:Int) by omega,hy]
   rfl
  rw [hp1] at w2
  rw [show F8 (decide (x.N=7)) p (y :: Qw (List.drop (i+1) x.Kids))=((Vv y&&!(decide (y.Kind=4)&&!decide (x.N=7))&&!(decide (y.Kind=3)&&p))&&F8 (decide (x.N=7)) (decide (y.Kind=4)) (Qw (List.drop (i+1) x.Kids))) from rfl]
  generalize F8 (decide (x.N=7)) (decide (y.Kind=4)) (Qw (List.drop (i+1) x.Kids))=z at w2 ⊢
  generalize rec ((i+1:Nat):Int)=q at w2 ⊢
  obtain ⟨r,rfl,rfl⟩:=w2
  cases Vv y <;> cases decide (y.Kind=4) <;> cases decide (x.N=7) <;> cases decide (y.Kind=3) <;> cases p <;> exact Qs rfl
 unfold Wj He
 rw [hloop,wH hn hs]
 simp only [ZW,Zx,Kh,QL]
 by_cases c1:x.N < 1
 ·rw [YU c1,K7 (show ¬ 1≤x.N by omega)]
  cases decide (x.Kind=2) <;> rfl
 rw [K7 c1,YU (show 1≤x.N by omega)]
 by_cases c2:7 < x.N
 ·rw [YU c2,K7 (show ¬ x.N≤7 by omega)]
  cases decide (x.Kind=2) <;> rfl
 rw [K7 c2,YU (show x.N≤7 by omega)]
 cases decide (x.Kind=2) <;> cases Uk x.Name <;> rfl
theorem mZ {n d:Nat} {x:GN} {left:Int} (ht:ZC d x) (hn:9223372036854776000≤n) (hle:(x.Kids.length:Int)+Sg (Qw x.Kids)≤left∧left≤1500) :
  Does (Ju n x left) (fun r=>r.1=He x∧(He x=true→r.2=left - x.Kids.length - Sg (Qw x.Kids))):=by
 obtain ⟨e,rfl,hl,hs,hk⟩:=Q5 ht
 have hpw:∀ l:List GN,0≤Sg l:=by
  intro l
  induction l with
  | nil=>exact Int.le_refl _
  | cons a l ih=>unfold Sg at ih ⊢; simp only [List.map_cons,List.sum_cons]; omega
 have hp0:=hpw (Qw x.Kids)
 have hw:wi (left - Qc (List.map KI x.Kids))=left - x.Kids.length:=by
  simp only [Qc,List.length_map]; exact Y7 zo zo
 have hloop:Does (QT (fun recl8 (v:Bool × Int × Int)=>VM n x recl8 v.1 v.2.1 v.2.2) n (false,0,left - x.Kids.length)) (fun r=>r.1=G9 (decide (x.N=7)) false (Qw x.Kids)∧(G9 (decide (x.N=7)) false (Qw x.Kids)=true→r.2=left - x.Kids.length - Sg (Qw x.Kids))):=by
  refine KX (Q:=fun (v:Bool × Int × Int) (r:Bool × Int)=>r.1=G9 (decide (x.N=7)) v.1 (Qw (x.Kids.drop v.2.1.toNat))∧(G9 (decide (x.N=7)) v.1 (Qw (x.Kids.drop v.2.1.toNat))=true→r.2=v.2.2 - Sg (Qw (x.Kids.drop v.2.1.toNat)))) (fun v=>x.Kids.length - v.2.1.toNat)
   (fun (v:Bool × Int × Int)=>(∃ i:Nat,v.2.1=(i:Int)∧i≤x.Kids.length)∧Sg (Qw (x.Kids.drop v.2.1.toNat))≤v.2.2∧v.2.2≤1500) ?_ ⟨⟨0,rfl,by omega⟩,by simp only [show (0:Int).toNat=0 from rfl,List.drop_zero]; omega,by simp only; omega⟩ (by simp only; omega)
  rintro rec ⟨fl,E9,lf⟩ ⟨⟨i,hi,hil⟩,g1,g2⟩ hrec
  simp only at hi hrec g1 g2 ⊢
  subst hi
  simp only [Int.toNat_natCast] at g1 ⊢
  unfold VM
  simp only [Qc,List.length_map,QL]
  by_cases c1:i < x.Kids.length
  rotate_left
  ·rw [K7 zo,cond_false,WT _ zo]
   unfold YW
   rw [Kh]
   cases fl
   ·exact Qs ⟨rfl,fun _=>by simp [Sg]⟩
   ·exact Qs ⟨rfl,fun _=>by simp [Sg]⟩
  obtain ⟨y,hy,hty,hc⟩:=Xj hk c1
  rw [hc] at g1 ⊢
  have hcons:Sg (y :: Qw (List.drop (i+1) x.Kids))=(y.Kids.length:Int)+Sg (Qw (List.drop (i+1) x.Kids)):=rfl
  rw [hcons] at g1 ⊢
  have h0:=hpw (Qw (List.drop (i+1) x.Kids))
  rw [YU zo,cond_true,hy,ZW]
  have hj10:∀ b:Bool,Does (Z6 n (i:Int) lf rec y b) fun r=>r.1=(Vv y&&G9 (decide (x.N=7)) b (Qw (List.drop (i+1) x.Kids)))∧((Vv y&&G9 (decide (x.N=7)) b (Qw (List.drop (i+1) x.Kids)))=true→r.2=lf - ((y.Kids.length:Int)+Sg (Qw (List.drop (i+1) x.Kids)))):=by
   intro b
   unfold Z6
   rw [Y7 (x:=(i:Int)+1) zo zo]
   refine XK (ib hty hn ⟨by omega,g2⟩) ?_
   rintro ⟨r1,r2⟩ ⟨q1,q2⟩
   simp only at q1 q2 ⊢
   subst q1
   cases hb:Vv y
   ·exact Qs ⟨rfl,fun h=>by cases h⟩
   have q2:=q2 hb
   simp only [Bool.not_true,cond_false,Bool.true_and]
   refine Yf (hrec (b,(i:Int)+1,r2) ⟨⟨i+1,by simp,c1⟩,by simp only [show ((i:Int)+1).toNat=i+1 by omega]; omega,by simp only; omega⟩ (by simp only; omega)) ?_
   rintro ⟨s1,s2⟩ ⟨t1,t2⟩
   simp only [show ((i:Int)+1).toNat=i+1 by omega] at t1 t2 ⊢
   exact ⟨t1,fun h=>by rw [t2 h]; omega⟩
  rw [Kh]
  unfold G9
  cases decide (y.Kind=4)
  ·cases fl
   ·exact hj10 false
   ·exact Qs ⟨rfl,fun h=>by cases h⟩
  ·exact hj10 true
 unfold Ju
 rw [EY n x.Name zo,hw,show QL (left - (x.Kids.length:Int)) 0=false from yV zo]
 simp only [ZW,Zx,Kh,QL]
 have hb:He x=(decide (x.Kind=2)&&(decide (1≤x.N)&&(decide (x.N≤7)&&(Uk x.Name&&G9 (decide (x.N=7)) false (Qw x.Kids))))):=by
  unfold He; rw [MZ]; simp
 rw [hb]
 have hfalse:∀ b:Bool,b=false→Does (some (false,left)) (fun r=>r.1=b∧(b=true→r.2=left - x.Kids.length - Sg (Qw x.Kids))):=by
  intro b h
  subst h
  exact Qs ⟨rfl,fun h=>by cases h⟩
 by_cases c0:x.Kind=2
 rotate_left
 ·rw [K7 c0]; exact hfalse _ rfl
 rw [YU c0]
 by_cases c1:x.N < 1
 ·rw [YU c1,K7 (show ¬ 1≤x.N by omega)]; exact hfalse _ rfl
 rw [K7 c1,YU (show 1≤x.N by omega)]
 by_cases c2:7 < x.N
 ·rw [YU c2,K7 (show ¬ x.N≤7 by omega)]; exact hfalse _ rfl
 rw [K7 c2,YU (show x.N≤7 by omega)]
 cases Uk x.Name
 ·exact hfalse _ rfl
 ·exact hloop
def sz:Nat→GN→Int
 | 0,_=>1
 | k+1,x=>1+((Qw x.Kids).map (sz k)).sum
theorem Ff {f:GN→Int} (hf:∀ y,0≤f y):∀ l:List GN,0≤(l.map f).sum
 | []=>Int.le_refl _
 | a :: l=>by have:=Ff hf l; have:=hf a; simp only [List.map_cons,List.sum_cons]; omega
theorem xL:∀ (m n d:Nat) (x:GN) (most:Int),ZC d x→0≤most→most≤m→m≤1000000→m+3≤n→Does (ZV n x most) (fun r=>1≤r∧r≤most+1∧(r≤most→∀ k,sz k x≤r)):=by
 intro m
 induction m with
 | zero =>
  intro n d x most ht h0 h1 h2 h3
  obtain ⟨r,e,g1,g2⟩:=MX 0 n d x most ht h0 h1 h2 h3
  exact ⟨r,e,g1,g2,fun h=>by omega⟩
 | succ m ih =>
  intro n d x most ht h0 h1 h2 h3
  obtain ⟨n,rfl⟩:∃ q,n=q+1:=⟨n - 1,by omega⟩
  obtain ⟨e,rfl,hl,_,hk⟩:=Q5 ht
  unfold ZV Yb
  have:=KX (n:=n) (v:=((1:Int),(0:Int))) (B:=fun recl1 (v:Int × Int)=>Ya x most (ZV n) recl1 v.1 v.2) (Q:=fun (v:Int × Int) r=>v.1≤r∧r≤most+1∧(r≤most→∀ k,v.1+((Qw (x.Kids.drop v.2.toNat)).map (sz k)).sum≤r)) (fun v=>(most+1 - v.1).toNat) (fun v=>1≤v.1∧v.1≤most+1∧∃ i:Nat,v.2=(i:Int)∧i≤x.Kids.length) ?_ ⟨by omega,by omega,0,rfl,by omega⟩ (by simp only; omega)
  ·obtain ⟨r,e1,g1,g2,g3⟩:=this
   refine ⟨r,e1,g1,g2,fun h k=>?_⟩
   cases k with
   | zero=>exact g1
   | succ k=>exact g3 h k
  rintro rec ⟨many,E9⟩ ⟨g1,g2,i,hi,hil⟩ hrec
  simp only at g1 g2 hi hrec ⊢
  subst hi
  simp only [Int.toNat_natCast]
  unfold Ya
  simp only [Qc,List.length_map,QL,leI]
  by_cases c1:i < x.Kids.length
  rotate_left
  ·rw [K7 zo]
   refine Qs ⟨Int.le_refl _,g2,fun _ k=>?_⟩
   rw [WT _ zo]
   simp
  rw [YU zo]
  by_cases c2:many≤most
  rotate_left
  ·rw [K7 c2]
   exact Qs ⟨Int.le_refl _,g2,fun h=>absurd h c2⟩
  rw [YU c2]
  obtain ⟨y,hy,hty,hc⟩:=Xj hk c1
  simp only [cond_true,ZW]
  rw [hy,ZW,Y7 (x:=most - many) zo zo]
  refine XK (ih n e y (most - many) hty zo zo zo zo) ?_
  rintro r ⟨r1,r2,r3⟩
  rw [Y7 (x:=many+r) zo zo,Y7 (x:=(i:Int)+1) zo zo]
  refine Yf (hrec (many+r,(i:Int)+1) ⟨by simp only; omega,by simp only; omega,i+1,by simp,c1⟩ (by simp only; omega)) ?_
  rintro q ⟨q1,q2,q3⟩
  simp only at q1 q3
  refine ⟨by omega,q2,fun h k=>?_⟩
  have:=q3 h k
  have:=r3 zo k
  rw [hc]
  simp only [show ((i:Int)+1).toNat=i+1 by omega,List.map_cons,List.sum_cons] at *
  omega
theorem VD {d:Nat}:∀ {l:List (List PV)},Nv d l→(Qw l).length=l.length
 | [],_=>rfl
 | c :: r,h=>by
  obtain ⟨y,e,_⟩:=h c zq
  have:=VD (l:=r) (fun k hk=>h k (by simp [hk]))
  unfold Qw at this ⊢
  rw [List.filterMap_cons,e]
  simp [this]
theorem Vb {d:Nat} {l:List (List PV)} (h:Nv d l):∀ y ∈ Qw l,ZC d y:=by
 intro y hy
 obtain ⟨c,hc,e⟩:=List.mem_filterMap.1 hy
 obtain ⟨z,e',t⟩:=h c hc
 rw [e'] at e
 cases e
 exact t
theorem sz1 {d:Nat} {x:GN} (h:ZC d x):sz 1 x=1+x.Kids.length:=by
 obtain ⟨e,rfl,_,_,hk⟩:=Q5 h
 have:∀ l:List GN,(l.map (sz 0)).sum=l.length:=by
  intro l
  induction l with
  | nil=>rfl
  | cons a l ih=>simp only [List.map_cons,List.sum_cons,sz,E8] at ih ⊢; rw [ih]; omega
 show 1+((Qw x.Kids).map (sz 0)).sum=_
 rw [this,VD hk]
theorem sz2 {d:Nat} {x:GN} (h:ZC d x):sz 2 x=1+x.Kids.length+Sg (Qw x.Kids):=by
 obtain ⟨e,rfl,_,_,hk⟩:=Q5 h
 have:∀ l:List GN,(∀ y ∈ l,ZC e y)→(l.map (sz 1)).sum=l.length+Sg l:=by
  intro l
  induction l with
  | nil=>intro _; rfl
  | cons a l ih =>
   intro hl
   have:=ih (fun y hy=>hl y (by simp [hy]))
   have h1:=sz1 (hl a zq)
   unfold Sg at this ⊢
   simp only [List.map_cons,List.sum_cons,E8] at this ⊢
   rw [this,h1]; omega
 show 1+((Qw x.Kids).map (sz 1)).sum=_
 rw [this _ (Vb hk),VD hk]
 omega
def zI (l:List GN):Int:=(l.map fun k=>(k.Kids.length:Int)+Sg (Qw k.Kids)).sum
theorem sz3 {d:Nat} {x:GN} (h:ZC d x):sz 3 x=1+x.Kids.length+zI (Qw x.Kids):=by
 obtain ⟨e,rfl,_,_,hk⟩:=Q5 h
 have:∀ l:List GN,(∀ y ∈ l,ZC e y)→(l.map (sz 2)).sum=l.length+zI l:=by
  intro l
  induction l with
  | nil=>intro _; rfl
  | cons a l ih =>
   intro hl
   have:=ih (fun y hy=>hl y (by simp [hy]))
   have h1:=sz2 (hl a zq)
   unfold zI at this ⊢
   simp only [List.map_cons,List.sum_cons,E8] at this ⊢
   rw [this,h1]; omega
 show 1+((Qw x.Kids).map (sz 2)).sum=_
 rw [this _ (Vb hk),VD hk]
 omega
def UG (x:GN):Bool:=decide (x.Kind=1)&&(decide (x.Name=[])&&(decide (x.N=0)&&(Qw x.Kids).all He))
theorem RG (l:List GN):0≤Sg l:=Ff (fun y=>by omega) l
theorem Bt (l:List GN):0≤zI l:=Ff (fun y=>by have:=RG (Qw y.Kids); omega) l
theorem ng {n d:Nat} {x:GN} (ht:ZC d x) (hn:9223372036854776000≤n) (hs:1+(x.Kids.length:Int)+zI (Qw x.Kids)≤1500):UE n x=some (UG x):=by
 obtain ⟨e,rfl,hl,_,hk⟩:=Q5 ht
 have hw:wi (1499 - Qc (List.map KI x.Kids))=1499 - x.Kids.length:=by
  simp only [Qc,List.length_map]; exact Y7 zo zo
 have hsw:=Bt (Qw x.Kids)
 have hloop:Does (QT (fun recl5 (v:Int × Int)=>Jf n x recl5 v.1 v.2) n (0,1499 - x.Kids.length)) (fun r=>r=(Qw x.Kids).all He):=by
  refine KX (Q:=fun (v:Int × Int) (r:Bool)=>r=(Qw (x.Kids.drop v.1.toNat)).all He) (fun v=>x.Kids.length - v.1.toNat) (fun v=>(∃ i:Nat,v.1=(i:Int)∧i≤x.Kids.length)∧zI (Qw (x.Kids.drop v.1.toNat))≤v.2∧v.2≤1500) ?_ ⟨⟨0,rfl,by omega⟩,by simp only [show (0:Int).toNat=0 from rfl,List.drop_zero]; omega,by simp only; omega⟩ (by simp only; omega)
  rintro rec ⟨E9,lf⟩ ⟨⟨i,hi,hil⟩,g1,g2⟩ hrec
  simp only at hi hrec g1 g2 ⊢
  subst hi
  simp only [Int.toNat_natCast] at g1 ⊢
  unfold Jf
  simp only [Qc,List.length_map,QL]
  by_cases c1:i < x.Kids.length
  rotate_left
  ·rw [K7 zo,cond_false,WT _ zo]
   exact Qs rfl
  obtain ⟨y,hy,hty,hc⟩:=Xj hk c1
  rw [hc] at g1 ⊢
  have hcons:zI (y :: Qw (List.drop (i+1) x.Kids))=((y.Kids.length:Int)+Sg (Qw y.Kids))+zI (Qw (List.drop (i+1) x.Kids)):=rfl
  rw [hcons] at g1
  have h0:=Bt (Qw (List.drop (i+1) x.Kids))
  rw [YU zo,cond_true,hy,ZW,List.all_cons,Y7 (x:=(i:Int)+1) zo zo]
  refine XK (mZ hty hn ⟨by omega,g2⟩) ?_
  rintro ⟨r1,r2⟩ ⟨q1,q2⟩
  simp only at q1 q2 ⊢
  subst q1
  cases hb:He y
  ·exact Qs rfl
  have q2:=q2 hb
  have hpw:=RG (Qw y.Kids)
  simp only [Bool.not_true,cond_false,Bool.true_and]
  refine Yf (hrec ((i:Int)+1,r2) ⟨⟨i+1,by simp,c1⟩,by simp only [show ((i:Int)+1).toNat=i+1 by omega]; omega,by simp only; omega⟩ (by simp only; omega)) ?_
  intro r hr
  simpa only [show ((i:Int)+1).toNat=i+1 by omega] using hr
 obtain ⟨r,er,rfl⟩:=hloop
 unfold UE UG
 rw [hw,show QL (1499 - (x.Kids.length:Int)) 0=false from yV zo,cO]
 simp only [Zx,ZW,Kh]
 have er':QT (fun recl5 (x_1:Int × Int)=>match x_1 with | (l5_1,l5_2)=>Jf n x recl5 l5_1 l5_2) n (0,1499 - (x.Kids.length:Int))=some ((Qw x.Kids).all He):=er
 rw [er']
 cases decide (x.Kind=1) <;> cases decide (x.Name=[]) <;> cases decide (x.N=0) <;> rfl
theorem ni {n d:Nat} {x:GN} (ht:ZC d x) (hn:9223372036854776000≤n) {c:Int} (hc:ZV n x 1500=some c) (h15:c≤1500):KP n x=some (UG x):=by
 obtain ⟨e,rfl,hl,_,hk⟩:=Q5 ht
 have hloop:Does (QT (fun recl6 l6=>Yd n x recl6 l6) n 0) (fun r=>r=(Qw x.Kids).all He):=by
  refine K6 (B:=fun recl6 l6=>Yd n x recl6 l6) (n:=n) (L:=x.Kids.length) (fun i r=>r=(Qw (x.Kids.drop i)).all He) hl (fun rec i hi hr=>?_) 0 zo zo
  unfold Yd
  simp only [Qc,List.length_map,QL]
  by_cases c1:i < x.Kids.length
  rotate_left
  ·rw [K7 zo,WT _ zo]; exact Qs rfl
  obtain ⟨y,hy,hty,hc⟩:=Xj hk c1
  obtain ⟨w1,w2⟩:=hr c1
  rw [YU zo,cond_true,hy,ZW,w1,sU hty hn,ZW,hc,List.all_cons]
  cases He y
  ·exact Qs rfl
  ·simpa using w2
 obtain ⟨r,er,rfl⟩:=hloop
 unfold KP UG
 rw [er,hc,cO]
 simp only [ZW,Zx,Kh,QL]
 rw [K7 (show ¬ 1500 < c by omega)]
 cases decide (x.Kind=1) <;> cases decide (x.Name=[]) <;> cases decide (x.N=0) <;> rfl
theorem xM {d:Nat} {l:List (List PV)} (h:Nv d l):∀ {i:Nat},i < l.length→∃ y,Option.bind (Q4 l (i:Int)) GN.of=some y∧ZC d y∧(Qw l)[i]?=some y:=by
 induction l with
 | nil=>intro i hi; cases hi
 | cons c l ih =>
  intro i hi
  obtain ⟨z,e,t⟩:=h c zq
  have hk:Qw (c :: l)=z :: Qw l:=by unfold Qw; rw [List.filterMap_cons,e]
  rw [hk]
  cases i with
  | zero=>exact ⟨z,by rw [ZF]; exact e,t,rfl⟩
  | succ i =>
   obtain ⟨y,h1,h2,h3⟩:=ih (fun k hk=>h k (by simp [hk])) (i:=i) (by simpa using hi)
   refine ⟨y,?_,h2,h3⟩
   rw [ZF] at h1 ⊢
   exact h1
theorem OH {α:Type} {l:List α} {i:Nat} (h:i < l.length):∃ x,Q4 l (i:Int)=some x∧l[i]?=some x:=⟨l[i],by rw [ZF,List.getElem?_eq_getElem h],List.getElem?_eq_getElem h⟩
theorem xP {n:Nat} {l:List Int} {b:Bool} {k:Int} (hl:l.length≤1000) (hn:2000≤n):QB n l b k=some (l.contains k):=by
 unfold QB
 have:=K6 (B:=fun recl1 l1=>Vk l k recl1 l1) (n:=n) (L:=l.length) (fun i r=>r=(l.drop i).contains k) zo (fun rec i hi hr=>?_) 0 zo zo
 ·obtain ⟨r,e,h⟩:=this
  rw [show ((0:Nat):Int)=0 from rfl] at e
  rw [e,h]; rfl
 unfold Vk
 simp only [Qc,List.length_map,QL]
 by_cases c1:i < l.length
 rotate_left
 ·rw [K7 zo,cond_false,List.drop_eq_nil_of_le zo]; exact Qs rfl
 obtain ⟨w1,w2⟩:=hr c1
 rw [YU zo,cond_true,ZF,List.getElem?_eq_getElem c1,ZW,w1,List.drop_eq_getElem_cons c1,List.contains_cons,Kh]
 generalize l[i]'c1=y
 by_cases h:y=k
 ·subst h
  rw [YU rfl,cond_true,beq_self_eq_true,Bool.true_or]
  exact Qs rfl
 ·rw [K7 h,cond_false,show (k == y)=false from by simpa using fun e=>h e.symm,Bool.false_or]
  exact w2
def Ih (p:GN × ZH):Bool:=decide (p.2.from_≤p.1.N)&&decide (p.1.N≤p.2.to_)
def iy (a:GN) (sp:List ZH):Except (Int × Int) (List Int) :=
 if ((Qw a.Kids).zip sp).all Ih then .ok ((Qw a.Kids).map (·.N)) else .error (3,a.At)
def zJ (a:GN) (sp:List ZH):Except (Int × Int) (List Int) :=
 if a.Kids.length=sp.length then if (Qw a.Kids).all (fun y=>decide (y.Kind=6)) then iy a sp else .error (9,a.At) else .error (9,a.At)
theorem zK {n d:Nat} {a:GN} {sp:List ZH} (ht:ZC d a) (hn:2000≤n) (hl:a.Kids.length=sp.length) (hs:sp.length≤10):KT n a sp=some (iy a sp):=by
 obtain ⟨e,rfl,_,_,hk⟩:=Q5 ht
 have hlen:=VD hk
 unfold KT
 simp only [Qc,List.length_map]
 rw [show qK (sp.length:Int) (sp.length:Int) 8=true from by unfold qK; simp; omega,cond_true]
 have:=KX (n:=n) (B:=fun recl2 (v:List Int × Int)=>Vl n a sp recl2 v.1 v.2) (v:=(List.replicate (Int.toNat (sp.length:Int)) 0,0))
  (Q:=fun v r=>∀ i:Nat,v.2=(i:Int)→r=if (((Qw a.Kids).drop i).zip (sp.drop i)).all Ih then .ok ((Qw a.Kids).map (·.N)) else .error (3,a.At))
  (fun v=>sp.length - v.2.toNat) (fun v=>∃ i:Nat,v.2=(i:Int)∧i≤sp.length∧v.1=((Qw a.Kids).take i).map (·.N)++List.replicate (sp.length - i) 0) ?_ ⟨0,rfl,by omega,by simp⟩ (by simp only; omega)
 ·obtain ⟨r,e1,h⟩:=this
  rw [e1,h 0 rfl]; rfl
 rintro rec ⟨l,q⟩ ⟨i,hq,hi,hL⟩ hrec
 simp only at hq hL hrec ⊢
 subst hq
 unfold Vl
 simp only [Qc,List.length_map,QL]
 by_cases c1:i < a.Kids.length
 rotate_left
 ·rw [K7 zo,cond_false]
  refine Qs fun j hj=>?_
  obtain rfl:i=j:=by omega
  rw [List.drop_eq_nil_of_le (by omega:(Qw a.Kids).length≤i),List.zip_nil_left,List.all_nil,if_pos rfl,hL,List.take_of_length_le zo,show sp.length - i=0 by omega]
  simp
 obtain ⟨y,hy,hty,hK⟩:=xM hk c1
 obtain ⟨hKi,hKe⟩:=List.getElem?_eq_some_iff.1 hK
 have hKlen:(Qw a.Kids).length=sp.length:=by omega
 obtain ⟨s,hs1,hs2⟩:=OH (l:=sp) (i:=i) zo
 obtain ⟨hsi,hse⟩:=List.getElem?_eq_some_iff.1 hs2
 have hlL:l.length=sp.length:=by rw [hL]; simp; omega
 obtain ⟨z,hz,_⟩:=OH (l:=l) (i:=i) zo
 rw [YU zo,cond_true,hy,ZW,hs1,ZW]
 have hin:QD n s y.N=some (Ih (y,s)):=by
  unfold QD Ih leI
  cases decide (s.from_≤y.N) <;> rfl
 rw [hin,ZW,hz,ZW,Y7 (x:=(i:Int)+1) zo zo,Int.toNat_natCast]
 have hcons:((Qw a.Kids).drop i).zip (sp.drop i)=(y,s) :: ((Qw a.Kids).drop (i+1)).zip (sp.drop (i+1)):=by
  rw [List.drop_eq_getElem_cons hKi,List.drop_eq_getElem_cons hsi,hKe,hse,List.zip_cons_cons]
 cases hb:Ih (y,s)
 ·refine Qs fun j hj=>?_
  obtain rfl:i=j:=by omega
  rw [hcons,List.all_cons,hb]; rfl
 ·refine Yf (hrec (l.set i y.N,(i:Int)+1) ⟨i+1,by simp,by omega,?_⟩ (by simp only; omega)) ?_
  ·simp only
   rw [hL,List.set_append,if_neg (by simp; omega)]
   simp only [List.length_map,List.length_take]
   rw [show i - min i (Qw a.Kids).length=0 by omega,show sp.length - i=(sp.length - (i+1))+1 by omega,List.replicate_succ,List.set_cons_zero,List.take_add_one,hK]
   simp
  ·intro r hr j hj
   obtain rfl:i=j:=by omega
   rw [hcons,List.all_cons,hb,Bool.true_and]
   exact hr (i+1) zq
theorem Bv {n d:Nat} {a:GN} {sp:List ZH} (ht:ZC d a) (hn:9223372036854776000≤n) (hs:sp.length≤10):Zv n a sp=some (zJ a sp):=by
 unfold Zv zJ
 simp only [Qc,List.length_map]
 rw [Kh]
 by_cases h:a.Kids.length=sp.length
 rotate_left
 ·rw [K7 zo,if_neg h]; rfl
 rw [YU zo,if_pos h,Bool.not_true,cond_false]
 obtain ⟨e,rfl,hl,_,hk⟩:=Q5 ht
 have:=K6 (B:=fun recl7 l7=>Vm n a sp recl7 l7) (n:=n) (L:=a.Kids.length) (fun i r=>r=if (Qw (a.Kids.drop i)).all (fun y=>decide (y.Kind=6)) then iy a sp else .error (9,a.At)) hl (fun rec i hi hr=>?_) 0 zo zo
 ·obtain ⟨r,e1,h1⟩:=this
  rw [show ((0:Nat):Int)=0 from rfl] at e1
  rw [e1,h1]; rfl
 unfold Vm
 simp only [Qc,List.length_map,QL]
 by_cases c1:i < a.Kids.length
 rotate_left
 ·rw [K7 zo,cond_false,WT _ zo,zK ht zo h hs]; exact Qs rfl
 obtain ⟨y,hy,hty,hc⟩:=Xj hk c1
 obtain ⟨w1,w2⟩:=hr c1
 rw [YU zo,cond_true,hy,ZW,w1,hc,List.all_cons,Kh]
 cases decide (y.Kind=6)
 ·exact Qs rfl
 ·simpa using w2
theorem Ii {a:GN} {sp:List ZH} {l:List Int} {d:Nat} (ht:ZC d a) (h:zJ a sp=.ok l):l.length=sp.length∧l=(Qw a.Kids).map (·.N)∧(((Qw a.Kids).zip sp).all Ih)=true:=by
 unfold zJ iy at h
 obtain ⟨e,rfl,_,_,hk⟩:=Q5 ht
 have hlen:=VD hk
 split at h
 ·split at h
  ·split at h
   ·cases h
    rename_i h1 h2 h3
    exact ⟨by simp [hlen,h1],rfl,h3⟩
   ·cases h
  ·cases h
 ·cases h
def xH (ks:List Int) (th:List (List UInt8 × KC)) (a:GN):Except (Int × Int) Int :=
  match Qw a.Kids with
  | [y]=>if y.Kind=5 then
      (match Jb Qr y.Name th with
       | some t=>if ks.contains t.kind then .ok t.index else .error (8,a.At)
       | none=>.error (8,a.At))
    else .error (9,a.At)
  | _=>.error (9,a.At)
theorem xQ {n d:Nat} {a h0:GN} {c:ZE} {k:ZO} {g:ZT} {b:Q6} {s:Qm} {f:Bool} {dd:List Zr} {h7 h10:List (List UInt8 × Bool)} {th:List (List UInt8 × KC)} (ht:ZC d a) (hn:2000≤n):UF n a h0 c k g b s f dd h7 th h10=some (xH [1,2] th a):=by
 obtain ⟨e,rfl,hl,_,hk⟩:=Q5 ht
 have hlen:=VD hk
 unfold UF xH
 simp only [Qc,List.length_map,Kh]
 by_cases h:a.Kids.length=1
 rotate_left
 ·rw [K7 zo]
  simp only [Bool.not_false,cond_true,ZW]
  split
  ·rename_i y hy; rw [hy] at hlen; simp at hlen; omega
  ·rfl
 obtain ⟨y,hy,hty,hK⟩:=xM hk (i:=0) zo
 rw [show ((0:Nat):Int)=0 from rfl] at hy
 have hks:Qw a.Kids=[y]:=by
  match hq:Qw a.Kids with
  | []=>rw [hq] at hlen; simp at hlen; omega
  | [z]=>rw [hq] at hK; simp at hK; rw [hK]
  | _ :: _ :: _=>rw [hq] at hlen; simp at hlen; omega
 rw [YU zo,hy,hks]
 simp only [Bool.not_true,cond_false,ZW]
 by_cases h5:y.Kind=5
 rotate_left
 ·rw [K7 h5,if_neg h5]; rfl
 rw [YU h5,if_pos h5]
 simp only [Bool.not_true,cond_false]
 unfold Rn
 match hm:Jb Qr y.Name th with
 | none=>rfl
 | some t =>
  simp only [Option.isSome_some,cond_true]
  have hD:QE Qr y.Name (⟨0,0⟩:KC) th=t:=by unfold QE; rw [hm]; rfl
  have:=K6 (B:=fun recl6 l6=>Xc a th y recl6 l6) (n:=n) (L:=([1,2]:List Int).length) (fun i r=>r=if (([1,2]:List Int).drop i).contains t.kind then .ok t.index else .error (8,a.At)) zq (fun rec i hi hr=>?_) 0 zo (by simp; omega)
  ·obtain ⟨r,e1,h1⟩:=this
   rw [show ((0:Nat):Int)=0 from rfl] at e1
   rw [e1,h1]; rfl
  unfold Xc Vn
  simp only [Qc,List.length_map,QL,hD]
  by_cases c1:i < ([1,2]:List Int).length
  rotate_left
  ·rw [K7 zo,cond_false,List.drop_eq_nil_of_le zo]; exact Qs rfl
  obtain ⟨w1,w2⟩:=hr c1
  rw [YU zo,cond_true,ZF,List.getElem?_eq_getElem c1,ZW,w1,List.drop_eq_getElem_cons c1,List.contains_cons,Kh]
  generalize ([1,2]:List Int)[i]'c1=z
  by_cases h:z=t.kind
  ·subst h
   rw [YU rfl,cond_true,beq_self_eq_true,Bool.true_or]
   exact Qs rfl
  ·rw [K7 h,cond_false,show (t.kind == z)=false from by simpa using fun e=>h e.symm,Bool.false_or]
   exact w2
theorem xU {n d:Nat} {a h0:GN} {c:ZE} {k:ZO} {g:ZT} {b:Q6} {s:Qm} {f:Bool} {dd:List Zr} {h7 h10:List (List UInt8 × Bool)} {th:List (List UInt8 × KC)} (ht:ZC d a) (hn:2000≤n):X9 n a h0 c k g b s f dd h7 th h10=some (xH [3] th a):=by
 obtain ⟨e,rfl,hl,_,hk⟩:=Q5 ht
 have hlen:=VD hk
 unfold X9 xH
 simp only [Qc,List.length_map,Kh]
 by_cases h:a.Kids.length=1
 rotate_left
 ·rw [K7 zo]
  simp only [Bool.not_false,cond_true,ZW]
  split
  ·rename_i y hy; rw [hy] at hlen; simp at hlen; omega
  ·rfl
 obtain ⟨y,hy,hty,hK⟩:=xM hk (i:=0) zo
 rw [show ((0:Nat):Int)=0 from rfl] at hy
 have hks:Qw a.Kids=[y]:=by
  match hq:Qw a.Kids with
  | []=>rw [hq] at hlen; simp at hlen; omega
  | [z]=>rw [hq] at hK; simp at hK; rw [hK]
  | _ :: _ :: _=>rw [hq] at hlen; simp at hlen; omega
 rw [YU zo,hy,hks]
 simp only [Bool.not_true,cond_false,ZW]
 by_cases h5:y.Kind=5
 rotate_left
 ·rw [K7 h5,if_neg h5]; rfl
 rw [YU h5,if_pos h5]
 simp only [Bool.not_true,cond_false]
 unfold Rn
 match hm:Jb Qr y.Name th with
 | none=>rfl
 | some t =>
  simp only [Option.isSome_some,cond_true]
  have hD:QE Qr y.Name (⟨0,0⟩:KC) th=t:=by unfold QE; rw [hm]; rfl
  have:=K6 (B:=fun recl6 l6=>WO a th y recl6 l6) (n:=n) (L:=([3]:List Int).length) (fun i r=>r=if (([3]:List Int).drop i).contains t.kind then .ok t.index else .error (8,a.At)) zq (fun rec i hi hr=>?_) 0 zo (by simp; omega)
  ·obtain ⟨r,e1,h1⟩:=this
   rw [show ((0:Nat):Int)=0 from rfl] at e1
   rw [e1,h1]; rfl
  unfold WO Yn
  simp only [Qc,List.length_map,QL,hD]
  by_cases c1:i < ([3]:List Int).length
  rotate_left
  ·rw [K7 zo,cond_false,List.drop_eq_nil_of_le zo]; exact Qs rfl
  obtain ⟨w1,w2⟩:=hr c1
  rw [YU zo,cond_true,ZF,List.getElem?_eq_getElem c1,ZW,w1,List.drop_eq_getElem_cons c1,List.contains_cons,Kh]
  generalize ([3]:List Int)[i]'c1=z
  by_cases h:z=t.kind
  ·subst h
   rw [YU rfl,cond_true,beq_self_eq_true,Bool.true_or]
   exact Qs rfl
  ·rw [K7 h,cond_false,show (t.kind == z)=false from by simpa using fun e=>h e.symm,Bool.false_or]
   exact w2
theorem xV {n d:Nat} {a h0:GN} {c:ZE} {k:ZO} {g:ZT} {b:Q6} {s:Qm} {f:Bool} {dd:List Zr} {h7 h10:List (List UInt8 × Bool)} {th:List (List UInt8 × KC)} (ht:ZC d a) (hn:2000≤n):Ua n a h0 c k g b s f dd h7 th h10=some (xH [5] th a):=by
 obtain ⟨e,rfl,hl,_,hk⟩:=Q5 ht
 have hlen:=VD hk
 unfold Ua xH
 simp only [Qc,List.length_map,Kh]
 by_cases h:a.Kids.length=1
 rotate_left
 ·rw [K7 zo]
  simp only [Bool.not_false,cond_true,ZW]
  split
  ·rename_i y hy; rw [hy] at hlen; simp at hlen; omega
  ·rfl
 obtain ⟨y,hy,hty,hK⟩:=xM hk (i:=0) zo
 rw [show ((0:Nat):Int)=0 from rfl] at hy
 have hks:Qw a.Kids=[y]:=by
  match hq:Qw a.Kids with
  | []=>rw [hq] at hlen; simp at hlen; omega
  | [z]=>rw [hq] at hK; simp at hK; rw [hK]
  | _ :: _ :: _=>rw [hq] at hlen; simp at hlen; omega
 rw [YU zo,hy,hks]
 simp only [Bool.not_true,cond_false,ZW]
 by_cases h5:y.Kind=5
 rotate_left
 ·rw [K7 h5,if_neg h5]; rfl
 rw [YU h5,if_pos h5]
 simp only [Bool.not_true,cond_false]
 unfold Rn
 match hm:Jb Qr y.Name th with
 | none=>rfl
 | some t =>
  simp only [Option.isSome_some,cond_true]
  have hD:QE Qr y.Name (⟨0,0⟩:KC) th=t:=by unfold QE; rw [hm]; rfl
  have:=K6 (B:=fun recl6 l6=>WP a th y recl6 l6) (n:=n) (L:=([5]:List Int).length) (fun i r=>r=if (([5]:List Int).drop i).contains t.kind then .ok t.index else .error (8,a.At)) zq (fun rec i hi hr=>?_) 0 zo (by simp; omega)
  ·obtain ⟨r,e1,h1⟩:=this
   rw [show ((0:Nat):Int)=0 from rfl] at e1
   rw [e1,h1]; rfl
  unfold WP Yo
  simp only [Qc,List.length_map,QL,hD]
  by_cases c1:i < ([5]:List Int).length
  rotate_left
  ·rw [K7 zo,cond_false,List.drop_eq_nil_of_le zo]; exact Qs rfl
  obtain ⟨w1,w2⟩:=hr c1
  rw [YU zo,cond_true,ZF,List.getElem?_eq_getElem c1,ZW,w1,List.drop_eq_getElem_cons c1,List.contains_cons,Kh]
  generalize ([5]:List Int)[i]'c1=z
  by_cases h:z=t.kind
  ·subst h
   rw [YU rfl,cond_true,beq_self_eq_true,Bool.true_or]
   exact Qs rfl
  ·rw [K7 h,cond_false,show (t.kind == z)=false from by simpa using fun e=>h e.symm,Bool.false_or]
   exact w2
def rq (a:GN):List Int→Int→Int→Except (Int × Int) Int
 | [],bits,_=>.ok bits
 | x :: l,bits,before=>if x≤before then .error (3,a.At) else rq a l (nQ .i64 bits (Iz .i64 1 (wi (x - 1)))) x
def Ij (a:GN):List ZH:=List.take a.Kids.length [(⟨1,3⟩:ZH),(⟨1,3⟩:ZH),(⟨1,3⟩:ZH)]
def eb {A B:Type} (x:Except (Int × Int) A) (k:A→Except (Int × Int) B):Except (Int × Int) B:=match x with
 | .ok a=>k a
 | .error e=>.error e
def ru (a:GN):Except (Int × Int) Int:=if 1≤a.Kids.length∧a.Kids.length≤3 then eb (zJ a (Ij a)) fun l=>rq a l 0 0 else .error (9,a.At)
theorem iA {d:Nat} {l:List (List PV)} (h:Nv d l):∀ x ∈ (Qw l).map (·.N),-9223372036854775808≤x∧x≤9223372036854775807:=by
 intro x hx
 obtain ⟨y,hy,rfl⟩:=List.mem_map.1 hx
 have:=Vb h y hy
 obtain ⟨_,rfl,_⟩:=Q5 this
 exact this.2.1
theorem xW {n d:Nat} {a:GN} (ht:ZC d a) (hn:9223372036854776000≤n):Jv n a=some (ru a):=by
 have ht':=ht
 obtain ⟨e,rfl,hl,_,hk⟩:=Q5 ht
 unfold Jv ru
 simp only [Qc,List.length_map,QL]
 by_cases h1:1≤a.Kids.length∧a.Kids.length≤3
 rotate_left
 ·rw [if_neg h1]
  by_cases h2:a.Kids.length < 1
  ·rw [YU zo]; rfl
  ·rw [K7 zo,YU zo]; rfl
 obtain ⟨h1,h2⟩:=h1
 rw [K7 zo,K7 zo,if_pos ⟨h1,h2⟩]
 simp only [cond_false,ZW]
 rw [show sliceB 0 (a.Kids.length:Int) (List.length [(⟨1,3⟩:ZH),(⟨1,3⟩:ZH),(⟨1,3⟩:ZH)])=true from by unfold sliceB; simp; omega,cond_true]
 rw [show List.drop (Int.toNat 0) (List.take (Int.toNat (a.Kids.length:Int)) [(⟨1,3⟩:ZH),(⟨1,3⟩:ZH),(⟨1,3⟩:ZH)])=Ij a from by unfold Ij; simp]
 rw [Bv ht' hn (by unfold Ij; simp; omega),ZW]
 match hq:zJ a (Ij a) with
 | .error e=>rfl
 | .ok r =>
  obtain ⟨q1,q2,_⟩:=Ii ht' hq
  have hr:=iA hk
  rw [← q2] at hr
  have hrl:r.length≤3:=by rw [q1]; unfold Ij; simp; omega
  show QT _ n _=some (rq a r 0 0)
  have:=KX (n:=n) (B:=fun recl5 (v:Int × Int × Int)=>VN a r recl5 v.1 v.2.1 v.2.2) (v:=(0,0,0))
   (Q:=fun v z=>z=rq a (r.drop v.2.2.toNat) v.1 v.2.1) (fun v=>r.length - v.2.2.toNat) (fun v=>0≤v.2.1∧∃ i:Nat,v.2.2=(i:Int)∧i≤r.length) ?_ ⟨Int.le_refl _,0,rfl,by omega⟩ (by simp only; omega)
  ·obtain ⟨z,e1,h⟩:=this
   rw [e1,h]; rfl
  rintro rec ⟨bits,before,q⟩ ⟨hb,i,hi,hil⟩ hrec
  simp only at hb hi hrec ⊢
  subst hi
  unfold VN
  simp only [Qc,List.length_map,QL,Int.toNat_natCast,leI] at hrec ⊢
  by_cases c1:i < r.length
  rotate_left
  ·rw [K7 zo,cond_false,List.drop_eq_nil_of_le zo]; exact Qs rfl
  have hx:=hr (r[i]'c1) (List.getElem_mem c1)
  rw [YU zo,cond_true,ZF,List.getElem?_eq_getElem c1,ZW,List.drop_eq_getElem_cons c1]
  generalize r[i]'c1=x at hx
  unfold rq
  by_cases c2:x≤before
  ·rw [YU c2,if_pos c2]; exact Qs rfl
  ·rw [K7 c2,if_neg c2,Y7 (x:=x - 1) zo zo,K7 zo,Y7 (x:=(i:Int)+1) zo zo]
   simp only [cond_false,cond_true,Bool.not_false]
   have:=hrec (nQ .i64 bits (Iz .i64 1 (x - 1)),x,(i:Int)+1) ⟨by simp only; omega,i+1,by simp,c1⟩ (by simp only; omega)
   simpa only [show ((i:Int)+1).toNat=i+1 by omega] using this
abbrev SQ:=ZE × ZO × ZT × Q6
abbrev Xn:=List (List UInt8 × Bool)
abbrev wI:=List (List UInt8 × KC)
def UH (h:Xn) (s:List UInt8):Bool:=QE Qb s false h
def Si (a:GN) (sp:List ZH) (f:List Int→SQ):Except (Int × Int) SQ:=eb (zJ a sp) fun l=>.ok (f l)
def iB (ks:List Int) (th:wI) (a:GN) (f:Int→SQ):Except (Int × Int) SQ:=eb (xH ks th a) fun x=>.ok (f x)
def yA (cs:List ZO) (a:GN) (f:List Int→SQ):Except (Int × Int) SQ:=eb (zJ a [(⟨1,1000000⟩:ZH)]) fun l=>if cs.all (fun c=>!decide (c.Card=l.getD 0 0)) then .ok (f l) else .error (5,a.At)
def Tc (ks:List Int) (k:Int) (a:GN) (h:Xn) (v:Except (Int × Int) SQ):Except (Int × Int) (SQ × Xn) :=
 if ks.contains k then if UH h a.Name then .error (5,a.At) else eb v fun q=>.ok (q,Qk Qb a.Name true h) else .error (9,a.At)
def xX (k:Int) (cs:List ZO) (th:wI) (a:GN) (q:SQ) (h:Xn):Except (Int × Int) (SQ × Xn) :=
 if a.Name=[108,105,109,105,116] then Tc [1,2] k a h (Si a [(⟨1,1000⟩:ZH)] fun l=>(⟨q.1.Name,q.1.Up,l.getD 0 0,q.1.Neutral,q.1.Fuse,q.1.Cable⟩,q.2)) else
 if a.Name=[110,101,117,116,114,97,108] then Tc [1,2] k a h (Si a [(⟨1,1000⟩:ZH)] fun l=>(⟨q.1.Name,q.1.Up,q.1.Limit,l.getD 0 0,q.1.Fuse,q.1.Cable⟩,q.2)) else
 if a.Name=[102,117,115,101] then Tc [1,2] k a h (Si a [(⟨1,1000⟩:ZH),(⟨0,1000000⟩:ZH)] fun l=>(⟨q.1.Name,q.1.Up,q.1.Limit,q.1.Neutral,⟨l.getD 0 0,l.getD 1 0⟩,q.1.Cable⟩,q.2)) else
 if a.Name=[116,104,101,114,109,97,108] then Tc [1,2] k a h (Si a [(⟨0,200000⟩:ZH),(⟨0,200000⟩:ZH),(⟨0,1000⟩:ZH),(⟨0,1000⟩:ZH),(⟨1,1000000⟩:ZH)] fun l=>(⟨q.1.Name,q.1.Up,q.1.Limit,q.1.Neutral,q.1.Fuse,⟨l.getD 0 0,l.getD 1 0,l.getD 2 0,l.getD 3 0,l.getD 4 0⟩⟩,q.2)) else
 if a.Name=[102,114,111,109] then Tc [2] k a h (iB [1,2] th a fun x=>(⟨q.1.Name,x,q.1.Limit,q.1.Neutral,q.1.Fuse,q.1.Cable⟩,q.2)) else
 if a.Name=[111,119,110,101,114] then Tc [4,5] k a h (iB [3] th a fun x=>(q.1,⟨q.2.1.Name,x,q.2.1.Rank,q.2.1.Card⟩,⟨q.2.2.1.Name,q.2.2.1.At,q.2.2.1.Phases,q.2.2.1.Min,q.2.2.1.Max,q.2.2.1.Step,q.2.2.1.Fallback,x⟩,q.2.2.2)) else
 if a.Name=[114,97,110,107] then Tc [4] k a h (Si a [(⟨1,9⟩:ZH)] fun l=>(q.1,⟨q.2.1.Name,q.2.1.Owner,l.getD 0 0,q.2.1.Card⟩,q.2.2)) else
 if a.Name=[99,97,114,100] then Tc [4] k a h (yA cs a fun l=>(q.1,⟨q.2.1.Name,q.2.1.Owner,q.2.1.Rank,l.getD 0 0⟩,q.2.2)) else
 if a.Name=[97,116] then Tc [5] k a h (iB [1,2] th a fun x=>(q.1,q.2.1,⟨q.2.2.1.Name,x,q.2.2.1.Phases,q.2.2.1.Min,q.2.2.1.Max,q.2.2.1.Step,q.2.2.1.Fallback,q.2.2.1.Owner⟩,q.2.2.2)) else
 if a.Name=[112,104,97,115,101,115] then Tc [5] k a h (eb (ru a) fun x=>.ok (q.1,q.2.1,⟨q.2.2.1.Name,q.2.2.1.At,x,q.2.2.1.Min,q.2.2.1.Max,q.2.2.1.Step,q.2.2.1.Fallback,q.2.2.1.Owner⟩,q.2.2.2)) else
 if a.Name=[97,109,112,115] then Tc [5] k a h (Si a [(⟨1,80⟩:ZH),(⟨1,80⟩:ZH),(⟨1,80⟩:ZH)] fun l=>(q.1,q.2.1,⟨q.2.2.1.Name,q.2.2.1.At,q.2.2.1.Phases,l.getD 0 0,l.getD 1 0,l.getD 2 0,q.2.2.1.Fallback,q.2.2.1.Owner⟩,q.2.2.2)) else
 if a.Name=[102,97,108,108,98,97,99,107] then Tc [5] k a h (Si a [(⟨0,80⟩:ZH)] fun l=>(q.1,q.2.1,⟨q.2.2.1.Name,q.2.2.1.At,q.2.2.1.Phases,q.2.2.1.Min,q.2.2.1.Max,q.2.2.1.Step,l.getD 0 0,q.2.2.1.Owner⟩,q.2.2.2)) else
 if a.Name=[99,104,97,114,103,101,114] then Tc [6] k a h (iB [5] th a fun x=>(q.1,q.2.1,q.2.2.1,⟨q.2.2.2.Name,x⟩)) else
 .error (9,a.At)
def Bw (k:Int) (cs:List ZO) (th:wI):List GN→SQ→Xn→Except (Int × Int) (SQ × Xn)
 | [],q,h=>.ok (q,h)
 | a :: l,q,h=>if a.Kind=3 then eb (xX k cs th a q h) fun v=>Bw k cs th l v.1 v.2 else Bw k cs th l q h
def pj {X V:Type}:Except ((Int × Int) × X) V→Except (Int × Int) V
 | .ok v=>.ok v
 | .error e=>.error e.1
abbrev AQ:=ZE × ZO × ZT × Q6 × Xn
abbrev AE:=(Int × Int) × AQ
def zL (r:Except (Int × Int) (SQ × Xn)):Except (Int × Int) AQ:=eb r fun v=>.ok (v.1.1,v.1.2.1,v.1.2.2.1,v.1.2.2.2,v.2)
section
variable {n:Nat} {ks:List Int} {b:Bool} {k:Int} {a:GN} {h:Xn} {v:Except (Int × Int) SQ} {M:Option (Except AE AQ)} {E1 E2:AQ} {C:SQ × Xn→Except (Int × Int) (SQ × Xn)}
theorem Xo (hl:ks.length≤1000) (hn:2000≤n) (hM:Does M (fun r=>pj r=zL (eb v fun q=>C (q,Qk Qb a.Name true h)))) :
  Does ((QB n ks b k).bind fun r7=>cond (!r7) (some (.error ((9,a.At),E1))) (cond (QE Qb a.Name false h) (some (.error ((5,a.At),E2))) M)) (fun r=>pj r=zL (eb (Tc ks k a h v) C)):=by
 rw [xP hl hn,ZW]
 unfold Tc UH
 by_cases h1:ks.contains k=true
 ·rw [h1,if_pos rfl]
  by_cases h2:QE Qb a.Name false h=true
  ·rw [h2,if_pos rfl]; exact Qs rfl
  ·simp only [Bool.not_eq_true] at h2
   rw [h2,if_neg zq]
   refine Yf hM fun r hr=>?_
   rw [hr]
   cases v <;> rfl
 ·simp only [Bool.not_eq_true] at h1
  rw [h1,if_neg zq]
  exact Qs rfl
theorem Fg {d:Nat} {sp:List ZH} {f:List Int→SQ} {F:List Int→Option (Except AE AQ)} {G:(Int × Int)→Option (Except AE AQ)} {X:(Int × Int)→AQ} (ht:ZC d a) (hn:9223372036854776000≤n) (hs:sp.length≤10)
  (hG:∀ e,G e=some (.error ((e.1,e.2),X e))) (hF:∀ l,l.length=sp.length→Does (F l) (fun r=>pj r=zL (C (f l,Qk Qb a.Name true h)))) :
  Does ((Zv n a sp).bind (Rh F G)) (fun r=>pj r=zL (eb (Si a sp f) fun q=>C (q,Qk Qb a.Name true h))):=by
 rw [Bv ht hn hs,ZW]
 unfold Si
 match hq:zJ a sp with
 | .error e=>exact ⟨_,hG e,rfl⟩
 | .ok l=>exact hF l (Ii ht hq).1
theorem xY {d:Nat} {cs:List ZO} {f:List Int→SQ} {F:List Int→Option (Except AE AQ)} {G:(Int × Int)→Option (Except AE AQ)} {X:(Int × Int)→AQ} (ht:ZC d a) (hn:9223372036854776000≤n)
  (hG:∀ e,G e=some (.error ((e.1,e.2),X e))) (hF:∀ l,l.length=1→Does (F l) (fun r=>pj r=zL (eb (if cs.all (fun c=>!decide (c.Card=l.getD 0 0)) then .ok (f l) else .error (5,a.At)) fun q=>C (q,Qk Qb a.Name true h)))) :
  Does ((Zv n a [(⟨1,1000000⟩:ZH)]).bind (Rh F G)) (fun r=>pj r=zL (eb (yA cs a f) fun q=>C (q,Qk Qb a.Name true h))):=by
 rw [Bv ht hn zq,ZW]
 unfold yA
 match hq:zJ a [(⟨1,1000000⟩:ZH)] with
 | .error e=>exact ⟨_,hG e,rfl⟩
 | .ok l=>exact hF l (Ii ht hq).1
theorem Dr {y:Except (Int × Int) Int} {m:Option (Except (Int × Int) Int)} {f:Int→SQ} {F:Int→Option (Except AE AQ)} {G:(Int × Int)→Option (Except AE AQ)} {X:(Int × Int)→AQ} (hm:m=some y)
  (hG:∀ e,G e=some (.error ((e.1,e.2),X e))) (hF:∀ x,Does (F x) (fun r=>pj r=zL (C (f x,Qk Qb a.Name true h)))) :
  Does (m.bind (Rh F G)) (fun r=>pj r=zL (eb (eb y fun x=>.ok (f x)) fun q=>C (q,Qk Qb a.Name true h))):=by
 rw [hm,ZW]
 cases y with
 | error e=>exact ⟨_,hG e,rfl⟩
 | ok x=>exact hF x
end
theorem JH {l:List Int} {i:Nat} (h:i < l.length):Q4 l (i:Int)=some (l.getD i 0):=by
 rw [ZF,List.getElem?_eq_getElem h,List.getD_eq_getElem?_getD,List.getElem?_eq_getElem h]; rfl
theorem nk {n d:Nat} {y:GN} {s:Qm} {f:Bool} {dd:List Zr} {h7 h10:Xn} {th:wI} {c:ZE} {k:ZO} {g:ZT} {b:Q6} (ht:ZC d y) (hs:s.Contracts.length≤100) (hn:9223372036854776000≤n) :
  Does (U6 n y c k g b s f dd h7 th h10) (fun r=>pj r=zL (Bw y.N s.Contracts th (Qw y.Kids) (c,k,g,b) h10)):=by
 obtain ⟨e,rfl,hl,_,hk⟩:=Q5 ht
 unfold U6
 refine KX (n:=n) (B:=fun recl1 (v:Int × ZE × ZO × ZT × Q6 × Xn)=>Jw n y s f dd h7 th recl1 v.1 v.2.1 v.2.2.1 v.2.2.2.1 v.2.2.2.2.1 v.2.2.2.2.2) (v:=(0,c,k,g,b,h10))
  (Q:=fun v r=>pj r=zL (Bw y.N s.Contracts th (Qw (y.Kids.drop v.1.toNat)) (v.2.1,v.2.2.1,v.2.2.2.1,v.2.2.2.2.1) v.2.2.2.2.2)) (fun v=>y.Kids.length - v.1.toNat) (fun v=>∃ i:Nat,v.1=(i:Int)∧i≤y.Kids.length) ?_ ⟨0,rfl,by omega⟩ (by simp only; omega)
 rintro rec ⟨q,c,k,g,b,h⟩ ⟨i,hi,hil⟩ hrec
 simp only at hi hrec ⊢
 subst hi
 unfold Jw
 simp only [Qc,List.length_map,QL,Int.toNat_natCast] at hrec ⊢
 by_cases c1:i < y.Kids.length
 rotate_left
 ·rw [K7 zo,cond_false,WT _ zo]; exact Qs rfl
 obtain ⟨a,ha,hta,hc⟩:=Xj hk c1
 obtain ⟨C,hC⟩:∃ C:SQ × Xn→Except (Int × Int) (SQ × Xn),C=fun v=>Bw y.N s.Contracts th (Qw (y.Kids.drop (i+1))) v.1 v.2:=⟨_,rfl⟩
 have hnext:∀ c k g b h,Does (QF (i:Int) rec c k g b h) (fun r=>pj r=zL (C ((c,k,g,b),h))):=by
  intro c k g b h
  rw [hC]
  unfold QF
  rw [Y7 (x:=(i:Int)+1) zo zo]
  have:=hrec ((i:Int)+1,c,k,g,b,h) ⟨i+1,by simp,c1⟩ (by simp only; omega)
  simpa only [show ((i:Int)+1).toNat=i+1 by omega] using this
 rw [YU zo,cond_true,ha,ZW,hc,Kh]
 unfold Bw
 by_cases h3:a.Kind=3
 rotate_left
 ·rw [K7 h3,if_neg h3,Bool.not_false,cond_true]
  have:=hnext c k g b h
  rw [hC] at this
  exact this
 rw [YU h3,if_pos h3,Bool.not_true,cond_false]
 simp only [Bool.and_true]
 rw [← hC]
 unfold xX QK
 by_cases c20:a.Name=[108,105,109,105,116]
 ·rw [if_pos c20,beq_iff_eq.2 c20,cond_true]
  refine Xo zq zo ?_
  refine Fg (sp:=[(⟨1,1000⟩:ZH)]) (C:=C) (X:=fun e=>_) hta hn zq (fun e=>rfl) (fun l hl1=>?_)
  simp only [E8,List.length_nil] at hl1
  rw [show Q4 l 0=some (l.getD 0 0) from JH (i:=0) zo,ZW]
  exact hnext _ _ _ _ _
 rw [if_neg c20,show (a.Name == [108,105,109,105,116])=false from by simpa using c20,cond_false]
 by_cases c21:a.Name=[110,101,117,116,114,97,108]
 ·rw [if_pos c21,beq_iff_eq.2 c21,cond_true]
  refine Xo zq zo ?_
  refine Fg (sp:=[(⟨1,1000⟩:ZH)]) (C:=C) (X:=fun e=>_) hta hn zq (fun e=>rfl) (fun l hl1=>?_)
  simp only [E8,List.length_nil] at hl1
  rw [show Q4 l 0=some (l.getD 0 0) from JH (i:=0) zo,ZW]
  exact hnext _ _ _ _ _
 rw [if_neg c21,show (a.Name == [110,101,117,116,114,97,108])=false from by simpa using c21,cond_false]
 by_cases c22:a.Name=[102,117,115,101]
 ·rw [if_pos c22,beq_iff_eq.2 c22,cond_true]
  refine Xo zq zo ?_
  refine Fg (sp:=[(⟨1,1000⟩:ZH),(⟨0,1000000⟩:ZH)]) (C:=C) (X:=fun e=>_) hta hn zq (fun e=>rfl) (fun l hl1=>?_)
  simp only [E8,List.length_nil] at hl1
  rw [show Q4 l 0=some (l.getD 0 0) from JH (i:=0) zo,ZW,show Q4 l 1=some (l.getD 1 0) from JH (i:=1) zo,ZW]
  exact hnext _ _ _ _ _
 rw [if_neg c22,show (a.Name == [102,117,115,101])=false from by simpa using c22,cond_false]
 by_cases c23:a.Name=[116,104,101,114,109,97,108]
 ·rw [if_pos c23,beq_iff_eq.2 c23,cond_true]
  refine Xo zq zo ?_
  refine Fg (sp:=[(⟨0,200000⟩:ZH),(⟨0,200000⟩:ZH),(⟨0,1000⟩:ZH),(⟨0,1000⟩:ZH),(⟨1,1000000⟩:ZH)]) (C:=C) (X:=fun e=>_) hta hn zq (fun e=>rfl) (fun l hl1=>?_)
  simp only [E8,List.length_nil] at hl1
  rw [show Q4 l 0=some (l.getD 0 0) from JH (i:=0) zo,ZW,show Q4 l 1=some (l.getD 1 0) from JH (i:=1) zo,ZW,show Q4 l 2=some (l.getD 2 0) from JH (i:=2) zo,ZW,show Q4 l 3=some (l.getD 3 0) from JH (i:=3) zo,ZW,show Q4 l 4=some (l.getD 4 0) from JH (i:=4) zo,ZW]
  exact hnext _ _ _ _ _
 rw [if_neg c23,show (a.Name == [116,104,101,114,109,97,108])=false from by simpa using c23,cond_false]
 by_cases c24:a.Name=[102,114,111,109]
 ·rw [if_pos c24,beq_iff_eq.2 c24,cond_true]
  refine Xo zq zo ?_
  exact Dr (C:=C) (X:=fun e=>_) (xQ hta (by omega:2000≤n)) (fun e=>rfl) (fun x=>hnext _ _ _ _ _)
 rw [if_neg c24,show (a.Name == [102,114,111,109])=false from by simpa using c24,cond_false]
 by_cases c25:a.Name=[111,119,110,101,114]
 ·rw [if_pos c25,beq_iff_eq.2 c25,cond_true]
  refine Xo zq zo ?_
  exact Dr (C:=C) (X:=fun e=>_) (xU hta (by omega:2000≤n)) (fun e=>rfl) (fun x=>hnext _ _ _ _ _)
 rw [if_neg c25,show (a.Name == [111,119,110,101,114])=false from by simpa using c25,cond_false]
 by_cases c26:a.Name=[114,97,110,107]
 ·rw [if_pos c26,beq_iff_eq.2 c26,cond_true]
  refine Xo zq zo ?_
  refine Fg (sp:=[(⟨1,9⟩:ZH)]) (C:=C) (X:=fun e=>_) hta hn zq (fun e=>rfl) (fun l hl1=>?_)
  simp only [E8,List.length_nil] at hl1
  rw [show Q4 l 0=some (l.getD 0 0) from JH (i:=0) zo,ZW]
  exact hnext _ _ _ _ _
 rw [if_neg c26,show (a.Name == [114,97,110,107])=false from by simpa using c26,cond_false]
 by_cases c27:a.Name=[99,97,114,100]
 ·rw [if_pos c27,beq_iff_eq.2 c27,cond_true]
  refine Xo zq zo ?_
  refine xY (C:=C) (X:=fun e=>_) hta hn (fun e=>rfl) (fun l hl1=>?_)
  rw [show Q4 l 0=some (l.getD 0 0) from JH (i:=0) zo,ZW]
  generalize l.getD 0 0=z
  have:=K6 (B:=fun recl52 l52=>WQ s (i:Int) c k g b h rec a z recl52 l52) (n:=n) (L:=s.Contracts.length) (fun i2 r=>pj r=zL (eb (if (s.Contracts.drop i2).all (fun c=>!decide (c.Card=z)) then .ok (c,(⟨k.Name,k.Owner,k.Rank,z⟩:ZO),g,b) else .error (5,a.At)) fun q=>C (q,Qk Qb a.Name true h))) zo (fun rec2 i2 hi2 hr2=>?_) 0 zo zo
  ·exact this
  unfold WQ
  simp only [Qc,List.length_map,QL]
  by_cases c2:i2 < s.Contracts.length
  rotate_left
  ·rw [K7 zo,cond_false,List.drop_eq_nil_of_le zo]
   exact hnext _ _ _ _ _
  obtain ⟨w1,w2⟩:=hr2 c2
  rw [YU zo,cond_true,ZF,List.getElem?_eq_getElem c2,ZW,w1,List.drop_eq_getElem_cons c2,List.all_cons,Kh]
  generalize s.Contracts[i2]'c2=t
  cases decide (t.Card=z)
  ·simpa using w2
  ·exact Qs rfl
 rw [if_neg c27,show (a.Name == [99,97,114,100])=false from by simpa using c27,cond_false]
 by_cases c28:a.Name=[97,116]
 ·rw [if_pos c28,beq_iff_eq.2 c28,cond_true]
  refine Xo zq zo ?_
  exact Dr (C:=C) (X:=fun e=>_) (xQ hta (by omega:2000≤n)) (fun e=>rfl) (fun x=>hnext _ _ _ _ _)
 rw [if_neg c28,show (a.Name == [97,116])=false from by simpa using c28,cond_false]
 by_cases c29:a.Name=[112,104,97,115,101,115]
 ·rw [if_pos c29,beq_iff_eq.2 c29,cond_true]
  refine Xo zq zo ?_
  exact Dr (C:=C) (X:=fun e=>_) (xW hta hn) (fun e=>rfl) (fun x=>hnext _ _ _ _ _)
 rw [if_neg c29,show (a.Name == [112,104,97,115,101,115])=false from by simpa using c29,cond_false]
 by_cases c30:a.Name=[97,109,112,115]
 ·rw [if_pos c30,beq_iff_eq.2 c30,cond_true]
  refine Xo zq zo ?_
  refine Fg (sp:=[(⟨1,80⟩:ZH),(⟨1,80⟩:ZH),(⟨1,80⟩:ZH)]) (C:=C) (X:=fun e=>_) hta hn zq (fun e=>rfl) (fun l hl1=>?_)
  simp only [E8,List.length_nil] at hl1
  rw [show Q4 l 0=some (l.getD 0 0) from JH (i:=0) zo,ZW,show Q4 l 1=some (l.getD 1 0) from JH (i:=1) zo,ZW,show Q4 l 2=some (l.getD 2 0) from JH (i:=2) zo,ZW]
  exact hnext _ _ _ _ _
 rw [if_neg c30,show (a.Name == [97,109,112,115])=false from by simpa using c30,cond_false]
 by_cases c31:a.Name=[102,97,108,108,98,97,99,107]
 ·rw [if_pos c31,beq_iff_eq.2 c31,cond_true]
  refine Xo zq zo ?_
  refine Fg (sp:=[(⟨0,80⟩:ZH)]) (C:=C) (X:=fun e=>_) hta hn zq (fun e=>rfl) (fun l hl1=>?_)
  simp only [E8,List.length_nil] at hl1
  rw [show Q4 l 0=some (l.getD 0 0) from JH (i:=0) zo,ZW]
  exact hnext _ _ _ _ _
 rw [if_neg c31,show (a.Name == [102,97,108,108,98,97,99,107])=false from by simpa using c31,cond_false]
 by_cases c32:a.Name=[99,104,97,114,103,101,114]
 ·rw [if_pos c32,beq_iff_eq.2 c32,cond_true]
  refine Xo zq zo ?_
  exact Dr (C:=C) (X:=fun e=>_) (xV hta (by omega:2000≤n)) (fun e=>rfl) (fun x=>hnext _ _ _ _ _)
 rw [if_neg c32,show (a.Name == [99,104,97,114,103,101,114])=false from by simpa using c32,cond_false]
 exact Qs rfl
def needT:List (List Int × List UInt8):=[([1,2],[108,105,109,105,116]),([1,2],[110,101,117,116,114,97,108]),([2],[102,114,111,109]),([4,5],[111,119,110,101,114]),([4],[114,97,110,107]),([4],[99,97,114,100]),([5],[97,116]),([5],[112,104,97,115,101,115]),([5],[97,109,112,115]),([5],[102,97,108,108,98,97,99,107]),([6],[99,104,97,114,103,101,114])]
def ry (k:Int) (h:Xn):Bool:=needT.any fun p=>p.1.contains k&&!UH h p.2
def yE (g:ZT):Bool:=leI g.Min g.Max&&(Qi g.Fallback 0||(leI g.Min g.Fallback&&leI g.Fallback g.Max))
def xZ (k:Int) (c:ZE) (g:ZT) (h:Xn):Bool:=(UH h [116,104,101,114,109,97,108]&&!QL c.Cable.Ambient c.Cable.Most)||(Qi k 5&&!yE g)
def iC (y:GN) (c:ZE) (g:ZT) (h:Xn):Except (Int × Int) Unit:=if ry y.N h then .error (4,y.At) else if xZ y.N c g h then .error (3,y.At) else .ok ()
theorem uf {R:Type} {f d:R} {bs:List Bool}:kW (some f) (some d) (bs.map fun b q=>cond b (some f) q)=some (if bs.any id then f else d):=by
 unfold kW
 rw [if_pos (by rw [List.all_eq_true]; intro t ht; obtain ⟨b,_,rfl⟩:=List.mem_map.1 ht; cases b <;> rfl)]
 induction bs with
 | nil=>rfl
 | cons b bs ih =>
  rw [List.map_cons,List.foldr_cons,ih]
  cases b <;> rfl
theorem cb1 {R:Type} {c x:Bool} {k:Bool→Option R}:((cond c (some x) (some false)).bind k)=k (c&&x):=by cases c <;> rfl
theorem cb2 {R:Type} {c:Bool} {q:Option R}:((cond c (some ()) (some ())).bind fun _=>q)=q:=by cases c <;> rfl
theorem sV (n:Nat) (g:ZT):YD n g=some (yE g):=by
 unfold YD yE
 cases leI g.Min g.Max
 ·rfl
 ·cases Qi g.Fallback 0
  ·cases leI g.Min g.Fallback <;> rfl
  ·rfl
theorem nu {n:Nat} {y:GN} {s:Qm} {f:Bool} {dd:List Zr} {h7 h10:Xn} {th:wI} {c:ZE} {k:ZO} {g:ZT} {b:Q6} (hn:2000≤n) :
  U7 n y c k g b s f dd h7 th h10=some (iC y c g h10):=by
 have R:∀ (ks:List Int) (o:Bool),ks.length≤5→QB n ks o y.N=some (ks.contains y.N):=fun ks o h=>xP zo hn
 unfold U7
 have hj:Vr n y c g h10=some (if xZ y.N c g h10 then .error (3,y.At) else .ok ()):=by
  unfold Vr VO xZ UH
  rw [sV]
  cases QE Qb [116,104,101,114,109,97,108] false h10 <;> cases QL c.Cable.Ambient c.Cable.Most <;> cases Qi y.N 5 <;> cases yE g <;> rfl
 rw [hj]
 simp only [R [1,2] false zq,R [1,2] true zq,R [2] false zq,R [4,5] false zq,R [4] false zq,R [5] false zq,R [6] false zq,ZW,cb1,cb2]
 refine (uf (bs:=[([1,2]:List Int).contains y.N&&!UH h10 [108,105,109,105,116],([1,2]:List Int).contains y.N&&!UH h10 [110,101,117,116,114,97,108],false,false,([2]:List Int).contains y.N&&!UH h10 [102,114,111,109],([4,5]:List Int).contains y.N&&!UH h10 [111,119,110,101,114],([4]:List Int).contains y.N&&!UH h10 [114,97,110,107],([4]:List Int).contains y.N&&!UH h10 [99,97,114,100],([5]:List Int).contains y.N&&!UH h10 [97,116],([5]:List Int).contains y.N&&!UH h10 [112,104,97,115,101,115],([5]:List Int).contains y.N&&!UH h10 [97,109,112,115],([5]:List Int).contains y.N&&!UH h10 [102,97,108,108,98,97,99,107],([6]:List Int).contains y.N&&!UH h10 [99,104,97,114,103,101,114]])).trans ?_
 unfold iC ry needT
 simp only [List.any_cons,List.any_nil,id,Bool.or_false,Bool.false_or]
structure BS where
 cs:List ZE
 os:List QM
 ks:List ZO
 gs:List ZT
 bs:List Q6
 fd:Bool
 dg:List Zr
 nm:Xn
 th:wI
def BS.t (s:BS):List ZE × List QM × List ZO × List ZT × List Q6 × Bool × List Zr × Xn × wI:=(s.cs,s.os,s.ks,s.gs,s.bs,s.fd,s.dg,s.nm,s.th)
def BS.u (s:BS):List ZE × List QM × List ZO × List ZT × List Q6 × Bool × List Zr × wI:=(s.cs,s.os,s.ks,s.gs,s.bs,s.fd,s.dg,s.th)
def BS.err (s:BS) (e:Int × Int):BS:={ s with dg:=s.dg++[⟨e.1,e.2⟩] }
def BS.site (s:BS):Qm:=⟨s.cs,s.os,s.ks,s.gs,s.bs⟩
def yH:SQ:=(⟨[],0,0,0,⟨0,0⟩,⟨0,0,0,0,0⟩⟩,⟨[],0,0,0⟩,⟨[],0,0,0,0,0,0,0⟩,⟨[],0⟩)
def ic (y:GN) (s:BS):Bool:=UH s.nm y.Name||(Qi y.N 1&&s.fd)
def Hm (k:Int) (s:BS):Int:=cond (Qi k 1||Qi k 2) (s.cs.length:Int) (cond (Qi k 3) (s.os.length:Int) (cond (Qi k 4) (s.ks.length:Int) (cond (Qi k 5) (s.gs.length:Int) (s.bs.length:Int))))
def OI (k:Int):Int:=cond (Qi k 1||Qi k 2) 16 (cond (Qi k 3) 8 (cond (Qi k 4) 32 (cond (Qi k 5) 16 24)))
def OJ (y:GN) (s:BS):Except (Int × Int) SQ:=eb (Bw y.N s.ks s.th (Qw y.Kids) yH []) fun v=>eb (iC y v.1.1 v.1.2.2.1 v.2) fun _=>.ok v.1
def NV (y:GN) (q:SQ) (s:BS):BS :=
 let t:=Qk Qr y.Name (⟨y.N,Hm y.N s⟩:KC) s.th
 if y.N=1 then { s with cs:=s.cs++[⟨y.Name,-1,q.1.Limit,q.1.Neutral,q.1.Fuse,q.1.Cable⟩],th:=t }
 else if y.N=2 then { s with cs:=s.cs++[⟨y.Name,q.1.Up,q.1.Limit,q.1.Neutral,q.1.Fuse,q.1.Cable⟩],th:=t }
 else if y.N=3 then { s with os:=s.os++[⟨y.Name⟩],th:=t }
 else if y.N=4 then { s with ks:=s.ks++[⟨y.Name,q.2.1.Owner,q.2.1.Rank,q.2.1.Card⟩],th:=t }
 else if y.N=5 then { s with gs:=s.gs++[⟨y.Name,q.2.2.1.At,q.2.2.1.Phases,q.2.2.1.Min,q.2.2.1.Max,q.2.2.1.Step,q.2.2.1.Fallback,q.2.2.1.Owner⟩],th:=t }
 else if y.N=6 then { s with bs:=s.bs++[⟨y.Name,q.2.2.2.Charger⟩],th:=t }
 else { s with th:=t }
def KQ (y:GN) (s:BS):BS:={ s with fd:=s.fd||Qi y.N 1,nm:=Qk Qb y.Name true s.nm }
def XT (y:GN) (s:BS):BS :=
 if ic y s then (KQ y s).err (5,y.At)
 else if y.N=7 then KQ y s
 else if OI y.N≤Hm y.N s then (KQ y s).err (2,y.At)
 else match OJ y s with
  | .error e=>(KQ y s).err e
  | .ok q=>NV y q (KQ y s)
def runF:List GN→BS→BS
 | [],s=>s
 | y :: l,s=>if (XT y s).dg.length=20 then XT y s else runF l (XT y s)
def BS.fit (s:BS):Prop:=s.cs.length≤16∧s.os.length≤8∧s.ks.length≤32∧s.gs.length≤16∧s.bs.length≤24
def bs0:BS:=⟨[],[],[],[],[],false,[],[],[]⟩
theorem Dt {y:GN} {s:BS} (h:s.fit):(XT y s).fit∧(XT y s).dg.length≤s.dg.length+1∧∃ e,(XT y s).dg=s.dg++e:=by
 obtain ⟨h1,h2,h3,h4,h5⟩:=h
 have herr:∀ e,((KQ y s).err e).fit∧((KQ y s).err e).dg.length≤s.dg.length+1∧∃ d,((KQ y s).err e).dg=s.dg++d:=fun e=>⟨⟨h1,h2,h3,h4,h5⟩,by simp [BS.err,KQ],_,rfl⟩
 have hm:(KQ y s).fit∧(KQ y s).dg.length≤s.dg.length+1∧∃ d,(KQ y s).dg=s.dg++d:=⟨⟨h1,h2,h3,h4,h5⟩,by simp [KQ],[],by simp [KQ]⟩
 unfold XT
 split
 ·exact herr _
 split
 ·exact hm
 split
 ·exact herr _
 rename_i hr
 split
 ·exact herr _
 rename_i q _
 obtain ⟨_,hd,d,hd2⟩:=hm
 unfold OI Hm at hr
 unfold NV
 by_cases c1:y.N=1
 ·rw [if_pos c1]
  rw [c1] at hr
  have:(s.cs.length:Int) < 16:=by simpa [Qi] using hr
  exact ⟨⟨by simp [KQ]; omega,h2,h3,h4,h5⟩,hd,d,hd2⟩
 rw [if_neg c1]
 by_cases c2:y.N=2
 ·rw [if_pos c2]
  rw [c2] at hr
  have:(s.cs.length:Int) < 16:=by simpa [Qi] using hr
  exact ⟨⟨by simp [KQ]; omega,h2,h3,h4,h5⟩,hd,d,hd2⟩
 rw [if_neg c2]
 by_cases c3:y.N=3
 ·rw [if_pos c3]
  rw [c3] at hr
  have:(s.os.length:Int) < 8:=by simpa [Qi] using hr
  exact ⟨⟨h1,by simp [KQ]; omega,h3,h4,h5⟩,hd,d,hd2⟩
 rw [if_neg c3]
 by_cases c4:y.N=4
 ·rw [if_pos c4]
  rw [c4] at hr
  have:(s.ks.length:Int) < 32:=by simpa [Qi] using hr
  exact ⟨⟨h1,h2,by simp [KQ]; omega,h4,h5⟩,hd,d,hd2⟩
 rw [if_neg c4]
 by_cases c5:y.N=5
 ·rw [if_pos c5]
  rw [c5] at hr
  have:(s.gs.length:Int) < 16:=by simpa [Qi] using hr
  exact ⟨⟨h1,h2,h3,by simp [KQ]; omega,h5⟩,hd,d,hd2⟩
 rw [if_neg c5]
 by_cases c6:y.N=6
 ·rw [if_pos c6]
  rw [c6] at hr
  have:(s.bs.length:Int) < 24:=by simpa [Qi] using hr
  exact ⟨⟨h1,h2,h3,h4,by simp [KQ]; omega⟩,hd,d,hd2⟩
 rw [if_neg c6]
 exact ⟨⟨h1,h2,h3,h4,h5⟩,hd,d,hd2⟩
theorem ug {α:Type} {l:List α} {k:Nat} (hl:l.length≤100) (hk:k≤1000):Zo l.length k=true:=by
 unfold Zo
 rw [decide_eq_true_eq]
 refine ⟨Nat.le_trans (Nat.mul_le_mul hl hk) zo,by omega⟩
theorem cod {b c:Bool}:(bif b then true else c)=(b||c):=by cases b <;> rfl
theorem cad {b c:Bool}:(bif b then c else false)=(b&&c):=by cases b <;> rfl
theorem ny {y:GN} {q:SQ} {s:BS}:(NV y q s).nm=s.nm:=by
 unfold NV
 by_cases c1:y.N=1
 ·rw [if_pos c1]
 rw [if_neg c1]
 by_cases c2:y.N=2
 ·rw [if_pos c2]
 rw [if_neg c2]
 by_cases c3:y.N=3
 ·rw [if_pos c3]
 rw [if_neg c3]
 by_cases c4:y.N=4
 ·rw [if_pos c4]
 rw [if_neg c4]
 by_cases c5:y.N=5
 ·rw [if_pos c5]
 rw [if_neg c5]
 by_cases c6:y.N=6
 ·rw [if_pos c6]
 rw [if_neg c6]
theorem nz {y:GN} {s:BS}:(XT y s).nm=Qk Qb y.Name true s.nm:=by
 unfold XT
 split
 ·rfl
 split
 ·rfl
 split
 ·rfl
 split
 ·rfl
 ·rw [ny]; rfl
theorem yJ {n d:Nat} {x:GN} (ht:ZC d x) (hn:9223372036854776000≤n) (hs:1+(x.Kids.length:Int)+zI (Qw x.Kids)≤1500) :
  Yi n x=some (if UG x then (if (runF (Qw x.Kids) bs0).dg=[] then (if (runF (Qw x.Kids) bs0).fd then ((runF (Qw x.Kids) bs0).site,[]) else (⟨[],[],[],[],[]⟩,[⟨4,0⟩])) else (⟨[],[],[],[],[]⟩,(runF (Qw x.Kids) bs0).dg)) else (⟨[],[],[],[],[]⟩,[⟨1,0⟩])):=by
 unfold Yi
 rw [ng ht hn hs,ZW]
 cases hv:UG x
 ·rfl
 obtain ⟨e,rfl,hl,_,hk⟩:=Q5 ht
 simp only [Bool.not_true,cond_false,if_true]
 have hloop:Does (QT (fun recl3 (v:Int × List ZE × List QM × List ZO × List ZT × List Q6 × Bool × List Zr × Xn × wI)=>Vg n x recl3 v.1 v.2.1 v.2.2.1 v.2.2.2.1 v.2.2.2.2.1 v.2.2.2.2.2.1 v.2.2.2.2.2.2.1 v.2.2.2.2.2.2.2.1 v.2.2.2.2.2.2.2.2.1 v.2.2.2.2.2.2.2.2.2) n (0,[],[],[],[],[],false,[],[],[])) (fun r=>r=(runF (Qw x.Kids) bs0).t):=by
  have:=KX (n:=n) (B:=fun recl3 (v:Int × List ZE × List QM × List ZO × List ZT × List Q6 × Bool × List Zr × Xn × wI)=>Vg n x recl3 v.1 v.2.1 v.2.2.1 v.2.2.2.1 v.2.2.2.2.1 v.2.2.2.2.2.1 v.2.2.2.2.2.2.1 v.2.2.2.2.2.2.2.1 v.2.2.2.2.2.2.2.2.1 v.2.2.2.2.2.2.2.2.2) (v:=(0,[],[],[],[],[],false,[],[],[]))
   (Q:=fun v r=>∀ s:BS,v.2=s.t→r=(runF (Qw (x.Kids.drop v.1.toNat)) s).t) (fun v=>x.Kids.length - v.1.toNat) (fun v=>(∃ i:Nat,v.1=(i:Int)∧i≤x.Kids.length)∧∃ s:BS,v.2=s.t∧s.fit∧s.dg.length < 20) ?_ ⟨⟨0,rfl,by omega⟩,bs0,rfl,by simp [BS.fit,bs0],by simp [bs0]⟩ (by simp only; omega)
  ·obtain ⟨r,e1,h⟩:=this
   exact ⟨r,e1,h bs0 rfl⟩
  rintro rec ⟨q,v⟩ ⟨⟨i,hi,hil⟩,s,hs,hfit,hdg⟩ hrec
  simp only at hi hs hrec ⊢
  subst hi hs
  obtain ⟨cs,os,ks,gs,bs,fd,dg,nm,th⟩:=s
  have hst:∀ s:BS,BS.t ⟨cs,os,ks,gs,bs,fd,dg,nm,th⟩=s.t→(⟨cs,os,ks,gs,bs,fd,dg,nm,th⟩:BS)=s:=by
   intro s h
   obtain ⟨_,_,_,_,_,_,_,_,_⟩:=s
   simp only [BS.t,Prod.mk.injEq] at h
   obtain ⟨rfl,rfl,rfl,rfl,rfl,rfl,rfl,rfl,rfl⟩:=h
   rfl
  unfold Vg
  simp only [Qc,List.length_map,QL,Int.toNat_natCast,BS.t] at hrec ⊢
  by_cases c1:i < x.Kids.length
  rotate_left
  ·rw [K7 zo,cond_false,WT _ zo]
   refine Qs fun s hs=>?_
   rw [← hst s hs]; rfl
  obtain ⟨y,hy,hty,hc⟩:=Xj hk c1
  rw [YU zo,cond_true,hy,ZW,hc]
  obtain ⟨f1,f2,_⟩:=Dt (y:=y) hfit
  refine XK (Q:=fun v=>v=(XT y ⟨cs,os,ks,gs,bs,fd,dg,nm,th⟩).u) ?_ ?_
  ·obtain ⟨g1,g2,g3,g4,g5⟩:=hfit
   simp only at g1 g2 g3 g4 g5 hdg
   have hd:∀ e:Zr,Zo (List.length (dg++[e])) 16=true:=fun e=>ug (by simp; omega) zo
   simp only [Zx,ZW,cod,cad,hd,cond_true]
   unfold XT
   rw [show (QE Qb y.Name false nm||(Qi y.N 1&&fd))=ic y ⟨cs,os,ks,gs,bs,fd,dg,nm,th⟩ from rfl]
   cases ic y ⟨cs,os,ks,gs,bs,fd,dg,nm,th⟩
   rotate_left
   ·rw [cond_true,if_pos rfl]; exact Qs rfl
   rw [cond_false,if_neg zq,Kh (y:=7)]
   by_cases c7:y.N=7
   ·rw [YU c7,if_pos c7,cond_true]; exact Qs rfl
   rw [K7 c7,if_neg c7,cond_false]
   have hp:(bif (Qi y.N 1||Qi y.N 2) then ((cs.length:Int),(16:Int)) else bif Qi y.N 3 then ((os.length:Int),8) else bif Qi y.N 4 then ((ks.length:Int),32) else bif Qi y.N 5 then ((gs.length:Int),16) else ((bs.length:Int),24))=(Hm y.N ⟨cs,os,ks,gs,bs,fd,dg,nm,th⟩,OI y.N):=by
    unfold Hm OI
    cases (Qi y.N 1||Qi y.N 2)
    ·cases Qi y.N 3
     ·cases Qi y.N 4
      ·cases Qi y.N 5 <;> rfl
      ·rfl
     ·rfl
    ·rfl
   have hx:(bif (Qi y.N 1||Qi y.N 2) then (cs.length:Int) else bif Qi y.N 3 then (os.length:Int) else bif Qi y.N 4 then (ks.length:Int) else bif Qi y.N 5 then (gs.length:Int) else (bs.length:Int))=Hm y.N ⟨cs,os,ks,gs,bs,fd,dg,nm,th⟩:=rfl
   have k1:∀ e:ZE,Zo (List.length (cs++[e])) 96=true:=fun e=>ug (by simp; omega) zo
   have k2:∀ e:QM,Zo (List.length (os++[e])) 16=true:=fun e=>ug (by simp; omega) zo
   have k3:∀ e:ZO,Zo (List.length (ks++[e])) 40=true:=fun e=>ug (by simp; omega) zo
   have k4:∀ e:ZT,Zo (List.length (gs++[e])) 72=true:=fun e=>ug (by simp; omega) zo
   have k5:∀ e:Q6,Zo (List.length (bs++[e])) 24=true:=fun e=>ug (by simp; omega) zo
   simp only [QcD,hp,hx,leI,k1,k2,k3,k4,k5,cond_true]
   by_cases c8:OI y.N≤Hm y.N ⟨cs,os,ks,gs,bs,fd,dg,nm,th⟩
   ·rw [YU c8,if_pos c8]; exact Qs rfl
   rw [K7 c8,if_neg c8,cond_false]
   obtain ⟨r,e1,h⟩:=nk (n:=n) (y:=y) (s:=⟨cs,os,ks,gs,bs⟩) (f:=(fd||Qi y.N 1)) (dd:=dg) (h7:=Qk Qb y.Name true nm) (h10:=[]) (th:=th) (c:=⟨[],0,0,0,⟨0,0⟩,⟨0,0,0,0,0⟩⟩) (k:=⟨[],0,0,0⟩) (g:=⟨[],0,0,0,0,0,0,0⟩) (b:=⟨[],0⟩) hty (by simp only; omega) hn
   rw [e1,ZW]
   change pj r=zL (Bw y.N ks th (Qw y.Kids) yH []) at h
   have hR:OJ y ⟨cs,os,ks,gs,bs,fd,dg,nm,th⟩=eb (Bw y.N ks th (Qw y.Kids) yH []) fun v=>eb (iC y v.1.1 v.1.2.2.1 v.2) fun _=>.ok v.1:=rfl
   rw [hR]
   generalize Bw y.N ks th (Qw y.Kids) yH []=z at h
   cases r with
   | error e =>
    cases z with
    | ok v=>cases h
    | error z =>
     have h:e.1=z:=by simpa [pj,zL,eb] using h
     subst h
     simp only [Rh,eb]
     exact Qs rfl
   | ok w =>
    cases z with
    | error z=>cases h
    | ok v =>
     have h:w=(v.1.1,v.1.2.1,v.1.2.2.1,v.1.2.2.2,v.2):=by simpa [pj,zL,eb] using h
     subst h
     simp only [Rh,eb]
     rw [nu zo,ZW]
     cases hw:iC y v.1.1 v.1.2.2.1 v.2 with
     | error e =>
      simp only [Rh]
      exact Qs rfl
     | ok _ =>
      simp only [Rh,Kh]
      unfold NV
      by_cases c1:y.N=1
      ·rw [YU c1,if_pos c1]; exact Qs (by simp only [BS.u,KQ,Kh,YU c1]; rfl)
      rw [K7 c1,if_neg c1]
      by_cases c2:y.N=2
      ·rw [YU c2,if_pos c2]; exact Qs (by simp only [BS.u,KQ,Kh,K7 c1]; rfl)
      rw [K7 c2,if_neg c2]
      by_cases c3:y.N=3
      ·rw [YU c3,if_pos c3]; exact Qs (by simp only [BS.u,KQ,Kh,K7 c1]; rfl)
      rw [K7 c3,if_neg c3]
      by_cases c4:y.N=4
      ·rw [YU c4,if_pos c4]; exact Qs (by simp only [BS.u,KQ,Kh,K7 c1]; rfl)
      rw [K7 c4,if_neg c4]
      by_cases c5:y.N=5
      ·rw [YU c5,if_pos c5]; exact Qs (by simp only [BS.u,KQ,Kh,K7 c1]; rfl)
      rw [K7 c5,if_neg c5]
      by_cases c6:y.N=6
      ·rw [YU c6,if_pos c6]; exact Qs (by simp only [BS.u,KQ,Kh,K7 c1]; rfl)
      rw [K7 c6,if_neg c6]
      exact Qs (by simp only [BS.u,KQ,Kh,K7 c1]; rfl)
  rintro ⟨u1,u2,u3,u4,u5,u6,u7,u8⟩ hu
  have hnm:=nz (y:=y) (s:=⟨cs,os,ks,gs,bs,fd,dg,nm,th⟩)
  refine Yf (Q:=fun r=>r=(runF (y :: Qw (x.Kids.drop (i+1))) ⟨cs,os,ks,gs,bs,fd,dg,nm,th⟩).t) ?_ (fun r hr s hs=>by rw [hr,hst s hs]; rfl)
  unfold runF
  generalize XT y ⟨cs,os,ks,gs,bs,fd,dg,nm,th⟩=z at *
  obtain ⟨z1,z2,z3,z4,z5,z6,z7,z8,z9⟩:=z
  simp only [BS.u,Prod.mk.injEq] at hu
  obtain ⟨rfl,rfl,rfl,rfl,rfl,rfl,rfl,rfl⟩:=hu
  simp only at hnm f2 hdg ⊢
  subst hnm
  rw [Kh]
  by_cases c9:u7.length=20
  ·rw [YU zo,if_pos c9]; exact Qs rfl
  ·rw [K7 zo,if_neg c9,cond_false,Y7 (x:=(i:Int)+1) zo zo]
   refine Yf (hrec ((i:Int)+1,u1,u2,u3,u4,u5,u6,u7,_,u8) ⟨⟨i+1,by simp,c1⟩,⟨u1,u2,u3,u4,u5,u6,u7,_,u8⟩,rfl,f1,by simp only; omega⟩ (by simp only; omega)) ?_
   intro r hr
   have:=hr ⟨u1,u2,u3,u4,u5,u6,u7,_,u8⟩ rfl
   rw [show ((i:Int)+1).toNat=i+1 by omega] at this
   exact this
 obtain ⟨r,e1,h⟩:=hloop
 rw [h] at e1
 rw [e1,ZW]
 generalize runF (Qw x.Kids) bs0=z
 obtain ⟨z1,z2,z3,z4,z5,z6,z7,z8,z9⟩:=z
 show (cond (QL 0 (Qc (List.map Zr.cs z7))) (some ((⟨[],[],[],[],[]⟩:Qm),z7)) (cond (!z6) (some ((⟨[],[],[],[],[]⟩:Qm),[(⟨4,0⟩:Zr)])) (some ((⟨z1,z2,z3,z4,z5⟩:Qm),[]))))=_
 simp only [BS.site]
 cases z7 with
 | nil=>cases z6 <;> rfl
 | cons a l =>
  rw [if_neg zq]
  simp only [Qc,QL,List.length_map,E8]
  rw [YU zo]
  rfl
theorem sW:Xi 36893488147419103232=some true:=by kernel_rfl
theorem QbN {n d:Nat} {x:GN} (ht:ZC d x) (hn:9223372036854776000≤n):Does (Ub n x 400) (fun b=>b=true→1+(x.Kids.length:Int)+zI (Qw x.Kids)≤400):=by
 obtain ⟨c,e,c1,c2,c3⟩:=xL 400 n d x 400 ht zo zo zo zo
 unfold Ub
 rw [e,ZW,leI]
 by_cases h:c≤400
 rotate_left
 ·rw [K7 h]; exact Qs fun h=>by cases h
 rw [YU h,cond_true]
 refine XK (xx 50 n d x 50 ht zo zo zo zo) fun r _=>Qs fun _=>?_
 have:=c3 h 3
 rw [sz3 ht] at this
 omega
theorem OM {d:Nat}:∀ {l:List GN},(∀ y ∈ l,ZC d y)→Qw (l.map GN.cs)=l∧Nv d (l.map GN.cs)
 | [],_=>⟨rfl,fun _ h=>by cases h⟩
 | y :: l,h=>by
  obtain ⟨h1,h2⟩:=OM (l:=l) fun z hz=>h z (by simp [hz])
  obtain ⟨a,b,c,t,ks⟩:=y
  refine ⟨?_,?_⟩
  ·unfold Qw at h1 ⊢
   rw [List.map_cons,List.filterMap_cons,OD,h1]
  ·intro k hk
   rw [List.map_cons] at hk
   rcases List.mem_cons.1 hk with rfl | hk
   ·exact ⟨_,OD _ _ _ _ _,h _ zq⟩
   ·exact h2 k hk
theorem yL:∀ {l:List GN} {s:BS},s.fit→(runF l s).fit
 | [],s,h=>h
 | y :: l,s,h=>by
  unfold runF
  split
  ·exact (Dt h).1
  ·exact yL (Dt h).1
theorem iD:bs0.fit:=by simp [BS.fit,bs0]
theorem nA {n:Nat} {a:Qm} (h1:a.Conductors.length≤1000) (h2:a.Owners.length≤1000) (h3:a.Contracts.length≤1000) (h4:a.Chargers.length≤1000) (h5:a.Bays.length≤1000) (hn:2000≤n):YG n a a=some true:=by
 unfold YG
 have:=K6 (B:=fun rec i=>VQ a a rec i) (n:=n) (L:=a.Bays.length) (fun i r=>r=true) zo (fun rec i hi hr=>?_) 0 zo zo
 ·obtain ⟨r,e,rfl⟩:=this
  exact e
 unfold VQ
 simp only [Qc,List.length_map,QL]
 by_cases c1:i < a.Bays.length
 rotate_left
 ·rw [K7 zo,cond_false]; exact Bo rfl rfl
 obtain ⟨w1,w2⟩:=hr c1
 rw [YU zo,cond_true,ZF,List.getElem?_eq_getElem c1]
 simp only [ZW,w1,Gz,QK,Qi,beq_self_eq_true,Bool.and_self,Bool.not_true,cond_false]
 exact w2
theorem nC {n:Nat} {a:Qm} (h1:a.Conductors.length≤1000) (h2:a.Owners.length≤1000) (h3:a.Contracts.length≤1000) (h4:a.Chargers.length≤1000) (h5:a.Bays.length≤1000) (hn:2000≤n):YH n a a=some true:=by
 unfold YH
 have:=K6 (B:=fun rec i=>VR n a a rec i) (n:=n) (L:=a.Chargers.length) (fun i r=>r=true) zo (fun rec i hi hr=>?_) 0 zo zo
 ·obtain ⟨r,e,rfl⟩:=this
  exact e
 unfold VR
 simp only [Qc,List.length_map,QL]
 by_cases c1:i < a.Chargers.length
 rotate_left
 ·rw [K7 zo,cond_false]; exact Bo (nA h1 h2 h3 h4 h5 hn) rfl
 obtain ⟨w1,w2⟩:=hr c1
 rw [YU zo,cond_true,ZF,List.getElem?_eq_getElem c1]
 simp only [ZW,w1,Gz,QK,Qi,beq_self_eq_true,Bool.and_self,Bool.not_true,cond_false]
 exact w2
theorem nD {n:Nat} {a:Qm} (h1:a.Conductors.length≤1000) (h2:a.Owners.length≤1000) (h3:a.Contracts.length≤1000) (h4:a.Chargers.length≤1000) (h5:a.Bays.length≤1000) (hn:2000≤n):YI n a a=some true:=by
 unfold YI
 have:=K6 (B:=fun rec i=>VT n a a rec i) (n:=n) (L:=a.Contracts.length) (fun i r=>r=true) zo (fun rec i hi hr=>?_) 0 zo zo
 ·obtain ⟨r,e,rfl⟩:=this
  exact e
 unfold VT
 simp only [Qc,List.length_map,QL]
 by_cases c1:i < a.Contracts.length
 rotate_left
 ·rw [K7 zo,cond_false]; exact Bo (nC h1 h2 h3 h4 h5 hn) rfl
 obtain ⟨w1,w2⟩:=hr c1
 rw [YU zo,cond_true,ZF,List.getElem?_eq_getElem c1]
 simp only [ZW,w1,Gz,QK,Qi,beq_self_eq_true,Bool.and_self,Bool.not_true,cond_false]
 exact w2
theorem nE {n:Nat} {a:Qm} (h1:a.Conductors.length≤1000) (h2:a.Owners.length≤1000) (h3:a.Contracts.length≤1000) (h4:a.Chargers.length≤1000) (h5:a.Bays.length≤1000) (hn:2000≤n):YJ n a a=some true:=by
 unfold YJ
 have:=K6 (B:=fun rec i=>VV n a a rec i) (n:=n) (L:=a.Owners.length) (fun i r=>r=true) zo (fun rec i hi hr=>?_) 0 zo zo
 ·obtain ⟨r,e,rfl⟩:=this
  exact e
 unfold VV
 simp only [Qc,List.length_map,QL]
 by_cases c1:i < a.Owners.length
 rotate_left
 ·rw [K7 zo,cond_false]; exact Bo (nD h1 h2 h3 h4 h5 hn) rfl
 obtain ⟨w1,w2⟩:=hr c1
 rw [YU zo,cond_true,ZF,List.getElem?_eq_getElem c1]
 simp only [ZW,w1,Gz,QK,beq_self_eq_true,Bool.and_self,Bool.not_true,cond_false]
 exact w2
theorem nG {n:Nat} {a:Qm} (h1:a.Conductors.length≤1000) (h2:a.Owners.length≤1000) (h3:a.Contracts.length≤1000) (h4:a.Chargers.length≤1000) (h5:a.Bays.length≤1000) (hn:2000≤n):QT (fun rec i=>YX n a a rec i) n 0=some true:=by
 have:=K6 (B:=fun rec i=>YX n a a rec i) (n:=n) (L:=a.Conductors.length) (fun i r=>r=true) zo (fun rec i hi hr=>?_) 0 zo zo
 ·obtain ⟨r,e,rfl⟩:=this
  exact e
 unfold YX
 simp only [Qc,List.length_map,QL]
 by_cases c1:i < a.Conductors.length
 rotate_left
 ·rw [K7 zo,cond_false]; exact Bo (nE h1 h2 h3 h4 h5 hn) rfl
 obtain ⟨w1,w2⟩:=hr c1
 rw [YU zo,cond_true,ZF,List.getElem?_eq_getElem c1]
 simp only [ZW,w1,Gz,QK,Qi,beq_self_eq_true,Bool.and_self,Bool.not_true,cond_false]
 exact w2
theorem wJ {n:Nat} {a:Qm} (h1:a.Conductors.length≤1000) (h2:a.Owners.length≤1000) (h3:a.Contracts.length≤1000) (h4:a.Chargers.length≤1000) (h5:a.Bays.length≤1000) (hn:2000≤n):Jh n a a=some true:=by
 unfold Jh
 simp only [Qi,beq_self_eq_true,Bool.not_true,cond_false,ZW]
 exact nG h1 h2 h3 h4 h5 hn
theorem uh (s k:List UInt8):∀ m:List (List UInt8 × Bool),QE Qb s false (Qk Qb k true m)=(QE Qb s false m||(s == k))
 | []=>by
  unfold Qk QE Jb Jb Qb QK
  by_cases h:s=k
  ·subst h; simp
  ·rw [show (s == k)=false from by simpa using h]; rfl
 | (q,w) :: m=>by
  have ih:=uh s k m
  unfold QE at ih ⊢
  unfold Qk
  unfold Qb QK at ih ⊢
  by_cases h:k=q
  ·subst h
   rw [beq_self_eq_true,cond_true]
   unfold Jb
   by_cases h2:s=k
   ·subst h2; simp
   ·rw [show (s == k)=false from by simpa using h2]; simp
  ·rw [show (k == q)=false from by simpa using h,cond_false]
   unfold Jb
   by_cases h2:s=q
   ·subst h2
    rw [beq_self_eq_true,cond_true,cond_true,show (s == k)=false from by simpa using fun e=>h e.symm,Bool.or_false]
   ·rw [show (s == q)=false from by simpa using h2,cond_false,cond_false]
    exact ih
theorem yM (s k:List UInt8) (m:Xn):UH (Qk Qb k true m) s=(UH m s||(s == k)):=uh s k m
theorem rm2 {α:Type} {l:List α} (hl:l.length≤1600):Zo l.length 64=true:=by
 unfold Zo
 rw [decide_eq_true_eq]
 omega
theorem OO {n d:Nat} {x:GN} (ht:ZC d x) (hn:9223372036854776000≤n):Does (KP n x) (fun b=>b=true→UG x=true):=by
 obtain ⟨c,hc,c1,c2⟩:=MX 1500 n d x 1500 ht zo zo zo zo
 by_cases h15:c≤1500
 ·exact ⟨_,ni ht hn hc h15,fun h=>h⟩
 obtain ⟨b,hb,_⟩:=yz ht hn
 refine ⟨b,hb,fun h=>?_⟩
 subst h
 exfalso
 obtain ⟨e,rfl,hl,_,hk⟩:=Q5 ht
 unfold KP at hb
 rw [hc] at hb
 simp only [ZW,Zx,Kh,QL,YU (show 1500 < c by omega)] at hb
 revert hb
 cases decide (x.Kind=1) <;> cases QK x.Name [] <;> cases decide (x.N=0) <;> simp
def nH (c:UInt8):UInt8:=if c=98 then 99 else if c=99 then 98 else c
theorem iE (c:UInt8):nH (nH c)=c:=by
 unfold nH
 by_cases h1:c=98
 ·subst h1; rfl
 ·by_cases h2:c=99
  ·subst h2; rfl
  ·simp [h1,h2]
def Bq (s:List UInt8):List UInt8:=s.map nH
theorem rz (s:List UInt8):Bq (Bq s)=s:=by
 unfold Bq
 rw [List.map_map,show nH ∘ nH=id from funext iE,List.map_id]
theorem sZ {a b:List UInt8} (h:Bq a=Bq b):a=b:=by rw [← rz a,h,rz]
theorem ui (a b:List UInt8):(Bq a == Bq b)=(a == b):=by
 by_cases h:a=b
 ·subst h; rw [beq_self_eq_true,beq_self_eq_true]
 ·rw [beq_eq_false_iff_ne.2 h,beq_eq_false_iff_ne.2 fun e=>h (sZ e)]
theorem uj {x:UInt8} {k:UInt8}:(KN x=KN k)↔x=k:=by
 unfold KN
 constructor
 ·intro h; exact UInt8.toNat_inj.1 zo
 ·rintro rfl; rfl
theorem iF (l:List UInt8):Me (l.map KN)=l:=by
 unfold Me
 rw [List.map_map]
 conv=>rhs; rw [← List.map_id l]
 congr 1
 funext c
 simp [KN]
theorem rm3 {α:Type} {l:List α} (hl:l.length≤1601):Zo l.length 1=true:=by
 unfold Zo
 rw [decide_eq_true_eq]
 omega
theorem Uu {n:Nat} {s:List UInt8} (hl:s.length≤1600) (hn:2000≤n):KD n s=some (Bq s):=by
 have:=KX (n:=n) (B:=fun rec (v:List Int × Int)=>Y5 s rec v.1 v.2) (v:=([],0)) (Q:=fun v r=>r=Bq s) (fun v=>s.length - v.2.toNat) (fun v=>∃ i:Nat,v.2=(i:Int)∧i≤s.length∧v.1=((s.take i).map nH).map KN) ?_ ⟨0,rfl,by omega,by simp⟩ (by simp only; omega)
 ·obtain ⟨r,e,rfl⟩:=this
  exact e
 rintro rec ⟨l,q⟩ ⟨i,hi,hil,hL⟩ hrec
 simp only at hi hL hrec ⊢
 subst hi
 unfold Y5
 simp only [Qc,QL,Int.toNat_natCast] at hrec ⊢
 by_cases c1:i < s.length
 rotate_left
 ·rw [K7 zo,cond_false,hL,List.take_of_length_le zo,iF]; exact Qs rfl
 have hll:l.length=i:=by rw [hL]; simp; omega
 have hnext:∀ c:Int,c=KN (nH (s[i]'c1))→Does (cond (Zo (List.length (l++[c])) 1) (rec (l++[c],wi ((i:Int)+1))) none) (fun r=>r=Bq s):=by
  intro c hc
  rw [rm3 (by simp; omega),cond_true,Y7 (x:=(i:Int)+1) zo zo]
  refine hrec (l++[c],(i:Int)+1) ⟨i+1,by simp,c1,?_⟩ (by simp only; omega)
  simp only
  rw [hL,hc,List.take_add_one,List.getElem?_eq_getElem c1,Option.toList_some,List.map_append,List.map_append]
  rfl
 rw [YU zo,cond_true,ZF,List.getElem?_eq_getElem c1,ZW,Kh,Kh]
 generalize s[i]'c1=x at hnext
 by_cases h1:x=98
 ·subst h1
  exact hnext 99 rfl
 have h1':¬ KN x=98:=fun e=>h1 (uj.1 (e.trans rfl))
 rw [K7 h1',cond_false]
 by_cases h2:x=99
 ·subst h2
  exact hnext 98 rfl
 have h2':¬ KN x=99:=fun e=>h2 (uj.1 (e.trans rfl))
 rw [K7 h2',cond_false]
 exact hnext _ (by unfold nH; rw [if_neg h1,if_neg h2])
def mW (x:GN):List UInt8:=if x.Kind=2∨x.Kind=5 then Bq x.Name else x.Name
def Fa (f:GN→GN) (y:GN):GN:=if y.Kind=4 then y else f y
def wK (f:GN→GN) (x:GN):GN:=⟨x.Kind,mW x,x.N,x.At,((Qw x.Kids).map (Fa f)).map GN.cs⟩
theorem OP:∀ l:List GN,Qw (l.map GN.cs)=l
 | []=>rfl
 | y :: l=>by
  have ih:=OP l
  obtain ⟨a,b,c,t,ks⟩:=y
  unfold Qw at ih ⊢
  rw [List.map_cons,List.filterMap_cons,OD,ih]
theorem Du (f:GN→GN) (x:GN):Qw (wK f x).Kids=(Qw x.Kids).map (Fa f):=OP _
theorem Dv {n d:Nat} {x:GN} {f:GN→GN} (ht:ZC d x) (hl:x.Kids.length≤1600) (hnm:(x.Kind=2∨x.Kind=5)→x.Name.length≤1600) (hn:2000≤n)
  (hf:∀ y ∈ Qw x.Kids,y.Kind ≠ 4→ZB n y=some (f y)):ZB (n+1) x=some (wK f x):=by
 obtain ⟨e,rfl,_,_,hk⟩:=Q5 ht
 have hloop:Does (QT (fun rec (v:Int × List (List PV))=>Yx x (ZB n) rec v.1 v.2) n (0,[])) (fun r=>r=((Qw x.Kids).map (Fa f)).map GN.cs):=by
  have:=KX (n:=n) (B:=fun rec (v:Int × List (List PV))=>Yx x (ZB n) rec v.1 v.2) (v:=(0,[])) (Q:=fun v r=>r=v.2++((Qw (x.Kids.drop v.1.toNat)).map (Fa f)).map GN.cs) (fun v=>x.Kids.length - v.1.toNat) (fun v=>(∃ i:Nat,v.1=(i:Int)∧i≤x.Kids.length)∧v.2.length≤v.1.toNat) ?_ ⟨⟨0,rfl,by omega⟩,by simp⟩ (by simp only; omega)
  ·exact this
  rintro rec ⟨q,a⟩ ⟨⟨i,hi,hil⟩,hal⟩ hrec
  simp only at hi hal hrec ⊢
  subst hi
  unfold Yx
  simp only [Qc,List.length_map,QL,Int.toNat_natCast] at hal hrec ⊢
  by_cases c1:i < x.Kids.length
  rotate_left
  ·rw [K7 zo,cond_false,WT _ zo]; exact Qs zq
  obtain ⟨y,hy,hty,hc⟩:=Xj hk c1
  obtain ⟨y2,hy2,_,hK⟩:=xM hk c1
  obtain rfl:y=y2:=by rw [hy] at hy2; cases hy2; rfl
  rw [YU zo,cond_true,hy,ZW,hc,List.map_cons,Kh,Y7 (x:=(i:Int)+1) zo zo]
  have hnext:∀ z,z=Fa f y→Does (cond (Zo (List.length (a++[GN.cs z])) 64) (rec ((i:Int)+1,a++[GN.cs z])) none) (fun r=>r=a++(Fa f y :: (Qw (x.Kids.drop (i+1))).map (Fa f)).map GN.cs):=by
   intro z hz
   rw [rm2 (by simp; omega),cond_true]
   refine Yf (hrec ((i:Int)+1,a++[GN.cs z]) ⟨⟨i+1,by simp,c1⟩,by simp; omega⟩ (by simp only; omega)) ?_
   intro r hr
   simp only [show ((i:Int)+1).toNat=i+1 by omega] at hr
   rw [hr,hz]; simp
  by_cases h4:y.Kind=4
  ·rw [YU h4,Bool.not_true,cond_false]
   exact hnext y (by unfold Fa; rw [if_pos h4])
  ·rw [K7 h4,Bool.not_false,cond_true,hf y (List.mem_of_getElem? hK) h4,ZW]
   exact hnext (f y) (by unfold Fa; rw [if_neg h4])
 obtain ⟨r,e1,rfl⟩:=hloop
 unfold ZB VC
 refine (congrArg (fun q=>Option.bind q _) e1).trans ?_
 simp only [ZW,Zx,cod,Kh]
 unfold wK mW
 by_cases h:x.Kind=2∨x.Kind=5
 ·rw [if_pos h,show (decide (x.Kind=2)||decide (x.Kind=5))=true from by simpa using h,cond_true,Uu (hnm h) hn]; rfl
 ·rw [if_neg h,show (decide (x.Kind=2)||decide (x.Kind=5))=false from by simpa using h]; rfl
theorem OQ {f:GN→GN} (h:∀ y,(f y).Kind=y.Kind∧(f y).N=y.N) (y:GN):(Fa f y).Kind=y.Kind∧(Fa f y).N=y.N:=by
 unfold Fa
 split
 ·exact ⟨rfl,rfl⟩
 ·exact h y
theorem NJ {e:Nat} {x:GN} {f:GN→GN} (ht:ZC (e+1) x) (hf:∀ y ∈ Qw x.Kids,ZC e (Fa f y)):ZC (e+1) (wK f x):=by
 obtain ⟨_,he,_,_,hk⟩:=Q5 ht
 cases he
 obtain ⟨_,k2⟩:=OM (d:=e) (l:=(Qw x.Kids).map (Fa f)) (fun y hy=>by
  obtain ⟨z,hz,rfl⟩:=List.mem_map.1 hy
  exact hf z hz)
 refine ⟨ht.1,ht.2.1,ht.2.2.1,?_,?_,k2⟩
 ·show (mW x).length≤_
  unfold mW Bq
  split
  ·rw [List.length_map]; exact ht.2.2.2.1
  ·exact ht.2.2.2.1
 ·show (((Qw x.Kids).map (Fa f)).map GN.cs).length≤_
  rw [List.length_map,List.length_map,VD hk]; exact ht.2.2.2.2.1
theorem Bz {d:Nat} {x:GN} {f:GN→GN} (ht:ZC d x):(wK f x).Kids.length=x.Kids.length:=by
 obtain ⟨e,rfl,_,_,hk⟩:=Q5 ht
 show (((Qw x.Kids).map (Fa f)).map GN.cs).length=_
 rw [List.length_map,List.length_map,VD hk]
def tq:GN→GN:=wK id
def Ik:GN→GN:=wK tq
def reI:GN→GN:=wK Ik
def reS:GN→GN:=wK reI
theorem NW {n7:Bool}:∀ {l:List GN} {p:Bool},F8 n7 p l=true→∀ y ∈ l,Vv y=true
 | [],_,_,y,hy=>by cases hy
 | k :: r,p,h,y,hy=>by
  simp only [F8,Ke] at h
  rcases List.mem_cons.1 hy with rfl | hy
  ·exact h.1.1.1
  ·exact NW h.2 y hy
theorem NY {f:GN→Int} (hf:∀ y,0≤f y):∀ {l:List GN} {y:GN},y ∈ l→f y≤(l.map f).sum
 | [],y,h=>by cases h
 | a :: l,y,h=>by
  have h1:=hf a
  have h2:=Ff hf l
  simp only [List.map_cons,List.sum_cons]
  rcases List.mem_cons.1 h with rfl | h
  ·omega
  ·have:=NY hf h; omega
theorem Ls {x y:GN} (h:UG x=true) (hy:y ∈ Qw x.Kids):y.Kind=2∧y.Name.length≤12∧∀ p ∈ Qw y.Kids,Vv p=true:=by
 simp only [UG,Ke,List.all_eq_true] at h
 have hi:=h.2.2.2 y hy
 simp only [He,Ke,decide_eq_true_eq] at hi
 have hn:=hi.2.2.2.1
 unfold Uk at hn
 simp only [Ke,decide_eq_true_eq] at hn
 exact ⟨hi.1,hn.1.1.1.2,NW hi.2.2.2.2⟩
theorem wL {p v:GN} (h:Vv p=true) (h4:p.Kind ≠ 4) (hv:v ∈ Qw p.Kids):p.Kind=3∧v.Kids=[]∧((v.Kind=2∨v.Kind=5)→v.Name.length≤12):=by
 unfold Vv at h
 rw [K7 h4] at h
 simp only [Ke,Bool.false_and,Bool.or_false,decide_eq_true_eq,List.all_eq_true] at h
 have hw:=h.2.2 v hv
 unfold H8 at hw
 simp only [Ke,decide_eq_true_eq,Bool.false_and,Bool.or_false] at hw
 refine ⟨h.2.1.1,hw.1,fun hk=>?_⟩
 have h6:¬ v.Kind=6:=by omega
 have h7:=hw.2
 rw [K7 h6] at h7
 simp only [cond_false,Ke,decide_eq_true_eq] at h7
 have h8:=h7.2.2
 unfold Uk at h8
 simp only [Ke,decide_eq_true_eq] at h8
 exact h8.1.1.1.2
theorem zM {n d:Nat} {x:GN} (ht:ZC d x) (hv:UG x=true) (hs:1+(x.Kids.length:Int)+zI (Qw x.Kids)≤400) (hn:2000≤n):ZB (n+4) x=some (reS x)∧ZC d (reS x):=by
 obtain ⟨e,rfl,_,_,hk⟩:=Q5 ht
 have hsw:=Bt (Qw x.Kids)
 have hx1:¬ (x.Kind=2∨x.Kind=5):=by
  simp only [UG,Ke,decide_eq_true_eq] at hv
  omega
 have key:∀ y ∈ Qw x.Kids,ZB (n+3) y=some (reI y)∧ZC e (reI y):=by
  intro y hy
  obtain ⟨y1,y2,y3⟩:=Ls hv hy
  have hty:=Vb hk y hy
  have hsy:(y.Kids.length:Int)+Sg (Qw y.Kids)≤zI (Qw x.Kids):=NY (fun y=>by have:=RG (Qw y.Kids); omega) hy
  have hpy:=RG (Qw y.Kids)
  obtain ⟨e,rfl,_,_,hky⟩:=Q5 hty
  have kp:∀ p ∈ Qw y.Kids,p.Kind ≠ 4→ZB (n+2) p=some (Ik p)∧ZC e (Ik p):=by
   intro p hp h4
   have htp:=Vb hky p hp
   have hsp:(p.Kids.length:Int)≤Sg (Qw y.Kids):=NY (f:=fun k=>(k.Kids.length:Int)) (fun y=>by omega) hp
   obtain ⟨e,rfl,_,_,hkp⟩:=Q5 htp
   have kv:∀ v ∈ Qw p.Kids,v.Kind ≠ 4→ZB (n+1) v=some (tq v)∧ZC e (tq v):=by
    intro v hv h4v
    have htv:=Vb hkp v hv
    obtain ⟨_,v1,v2⟩:=wL (y3 p hp) h4 hv
    obtain ⟨e,rfl,_,_,hkv⟩:=Q5 htv
    have hkn:Qw v.Kids=[]:=by rw [v1]; rfl
    exact ⟨Dv htv (by rw [v1]; simp) (fun h=>Nat.le_trans (v2 h) zo) hn (fun y hy=>by rw [hkn] at hy; cases hy),NJ htv (fun y hy=>by rw [hkn] at hy; cases hy)⟩
   have hp3:¬ (p.Kind=2∨p.Kind=5):=by
    have hpp:=y3 p hp
    unfold Vv at hpp
    rw [K7 h4] at hpp
    simp only [Ke,Bool.false_and,Bool.or_false,decide_eq_true_eq] at hpp
    omega
   refine ⟨Dv htp zo (fun h=>absurd h hp3) zo (fun v hv h4v=>(kv v hv h4v).1),NJ htp (fun v hv=>?_)⟩
   unfold Fa
   split
   ·exact Vb hkp v hv
   ·rename_i h4v; exact (kv v hv h4v).2
  refine ⟨Dv hty zo (fun _=>by omega) zo (fun p hp h4=>(kp p hp h4).1),NJ hty (fun p hp=>?_)⟩
  unfold Fa
  split
  ·exact Vb hky p hp
  ·rename_i h4; exact (kp p hp h4).2
 refine ⟨Dv ht zo (fun h=>absurd h hx1) zo (fun y hy h4=>(key y hy).1),NJ ht (fun y hy=>?_)⟩
 unfold Fa
 split
 ·exact Vb hk y hy
 ·exact (key y hy).2
theorem NZ {K V:Type} {eq:K→K→Bool} (he:∀ a b,eq a b=true↔a=b) (k k2:K) (v:V):∀ m:List (K × V),Jb eq k2 (Qk eq k v m)=bif eq k2 k then some v else Jb eq k2 m
 | []=>by unfold Qk Jb Jb; cases eq k2 k <;> rfl
 | (q,w) :: m=>by
  have ih:=NZ he k k2 v m
  unfold Qk
  cases h:eq k q
  ·rw [cond_false]
   unfold Jb
   rw [ih]
   cases h2:eq k2 q
   ·rfl
   ·have:eq k2 k=false:=by
     cases h3:eq k2 k
     ·rfl
     ·rw [(he _ _).1 h2] at h3
      rw [(he _ _).1 h3,(he k k).2 rfl] at h
      cases h
    rw [this]; rfl
  ·obtain rfl:=(he _ _).1 h
   rw [cond_true]
   unfold Jb
   cases eq k2 k <;> rfl
section
variable {f:GN→GN} (hf:∀ y,(f y).Kind=y.Kind∧(f y).N=y.N)
include hf
theorem tu (sp:List ZH):∀ l:List GN,((l.map (Fa f)).zip sp).all Ih=(l.zip sp).all Ih:=by
 intro l
 induction l generalizing sp with
 | nil=>rfl
 | cons y l ih =>
  cases sp with
  | nil=>rfl
  | cons s sp =>
   rw [List.map_cons,List.zip_cons_cons,List.zip_cons_cons,List.all_cons,List.all_cons,ih sp]
   unfold Ih
   rw [(OQ hf y).2]
theorem uk {d:Nat} {p:GN} (ht:ZC d p) (sp:List ZH):zJ (wK f p) sp=zJ p sp:=by
 unfold zJ iy
 have e1:∀ l:List GN,(l.map (Fa f)).all (fun y=>decide (y.Kind=6))=l.all fun y=>decide (y.Kind=6):=by
  intro l
  induction l with
  | nil=>rfl
  | cons y l ih=>rw [List.map_cons,List.all_cons,List.all_cons,ih,(OQ hf y).1]
 have e2:∀ l:List GN,(l.map (Fa f)).map (·.N)=l.map (·.N):=by
  intro l
  rw [List.map_map]
  congr 1
  funext y
  exact (OQ hf y).2
 rw [Bz ht,Du,e1,e2,tu hf]
 rfl
theorem tC {d:Nat} {p:GN} (ht:ZC d p):ru (wK f p)=ru p:=by
 unfold ru
 have h1:Ij (wK f p)=Ij p:=by unfold Ij; rw [Bz ht]
 have h2:∀ (l:List Int) (a b:Int),rq (wK f p) l a b=rq p l a b:=by
  intro l
  induction l with
  | nil=>intro a b; rfl
  | cons x l ih =>
   intro a b
   unfold rq
   rw [ih]
   rfl
 rw [Bz ht,h1,uk hf ht]
 simp only [h2]
 rfl
end
theorem ul (y:GN):(tq y).Kind=y.Kind∧(tq y).N=y.N:=⟨rfl,rfl⟩
theorem tF {ks:List Int} {th th':wI} {p:GN} (hth:∀ w,Jb Qr (Bq w) th'=Jb Qr w th):xH ks th' (Ik p)=xH ks th p:=by
 unfold xH
 rw [show Qw (Ik p).Kids=(Qw p.Kids).map (Fa tq) from Du _ _]
 match Qw p.Kids with
 | []=>rfl
 | [y] =>
  simp only [List.map_cons,List.map_nil]
  rw [(OQ ul y).1]
  by_cases h5:y.Kind=5
  rotate_left
  ·rw [if_neg h5,if_neg h5]; rfl
  rw [if_pos h5,if_pos h5]
  have hn:(Fa tq y).Name=Bq y.Name:=by
   unfold Fa
   rw [if_neg zo]
   show mW y=_
   unfold mW
   rw [if_pos (.inr h5)]
  rw [hn,hth]
  rfl
 | _ :: _ :: _=>rfl
def rK (c:ZO):ZO:=⟨Bq c.Name,c.Owner,c.Rank,c.Card⟩
def rC (c:ZE):ZE:=⟨Bq c.Name,c.Up,c.Limit,c.Neutral,c.Fuse,c.Cable⟩
def rO (c:QM):QM:=⟨Bq c.Name⟩
def rG (c:ZT):ZT:=⟨Bq c.Name,c.At,c.Phases,c.Min,c.Max,c.Step,c.Fallback,c.Owner⟩
def rB (c:Q6):Q6:=⟨Bq c.Name,c.Charger⟩
theorem nI {k:Int} {cs:List ZO} {th th':wI} {p:GN} {q:SQ} {h:Xn} {d:Nat} (ht:ZC d p) (h3:p.Kind=3) (hth:∀ w,Jb Qr (Bq w) th'=Jb Qr w th) :
  xX k (cs.map rK) th' (Ik p) q h=xX k cs th p q h:=by
 have e1:(Ik p).Name=p.Name:=by
  show mW p=_
  unfold mW
  rw [if_neg zo]
 have e2:(Ik p).At=p.At:=rfl
 have e3:∀ sp,zJ (Ik p) sp=zJ p sp:=fun sp=>uk ul ht sp
 have e4:ru (Ik p)=ru p:=tC ul ht
 have e5:∀ ks,xH ks th' (Ik p)=xH ks th p:=fun ks=>tF hth
 have e6:∀ z:Int,(cs.map rK).all (fun c=>!decide (c.Card=z))=cs.all fun c=>!decide (c.Card=z):=by
  intro z
  rw [List.all_map]
  rfl
 unfold xX Tc Si iB yA
 simp only [e1,e2,e3,e4,e5,e6]
theorem Il {k:Int} {cs:List ZO} {th th':wI} {d:Nat} (hth:∀ w,Jb Qr (Bq w) th'=Jb Qr w th):∀ {l:List GN} {q:SQ} {h:Xn},(∀ p ∈ l,ZC d p) →
  Bw k (cs.map rK) th' (l.map (Fa Ik)) q h=Bw k cs th l q h
 | [],q,h,_=>rfl
 | p :: l,q,h,ht=>by
  rw [List.map_cons]
  unfold Bw
  have hk:(Fa Ik p).Kind=p.Kind:=(OQ (f:=Ik) (fun y=>⟨rfl,rfl⟩) p).1
  rw [hk]
  by_cases h3:p.Kind=3
  ·rw [if_pos h3,if_pos h3,show Fa Ik p=Ik p from by unfold Fa; rw [if_neg zo],nI (ht p zq) h3 hth]
   have:=fun q h=>Il (k:=k) (cs:=cs) (d:=d) hth (l:=l) (q:=q) (h:=h) fun p hp=>ht p (by simp [hp])
   simp only [this]
  ·rw [if_neg h3,if_neg h3]
   exact Il hth fun p hp=>ht p (by simp [hp])
structure RB (s s':BS):Prop where
 cs:s'.cs=s.cs.map rC
 os:s'.os=s.os.map rO
 ks:s'.ks=s.ks.map rK
 gs:s'.gs=s.gs.map rG
 bs:s'.bs=s.bs.map rB
 fd:s'.fd=s.fd
 dg:s'.dg=s.dg
 nm:∀ w,UH s'.nm (Bq w)=UH s.nm w
 th:∀ w,Jb Qr (Bq w) s'.th=Jb Qr w s.th
theorem rA (a b:List UInt8):Qr a b=true↔a=b:=by
 unfold Qr QK
 exact beq_iff_eq
theorem nJ {s s':BS} {y:GN} {d:Nat} (h:RB s s') (hk:y.Kind=2) (ht:ZC d y):RB (XT y s) (XT (reI y) s'):=by
 have hn:(reI y).Name=Bq y.Name:=by
  show mW y=_
  unfold mW
  rw [if_pos (.inl hk)]
 have hN:(reI y).N=y.N:=rfl
 have hA:(reI y).At=y.At:=rfl
 have htw:ic (reI y) s'=ic y s:=by unfold ic; rw [hn,h.nm,h.fd,hN]
 have hrN:Hm y.N s'=Hm y.N s:=by unfold Hm; rw [h.cs,h.os,h.ks,h.gs,h.bs]; simp only [List.length_map]
 have hrd:OJ (reI y) s'=OJ y s:=by
  obtain ⟨e,rfl,_,_,hky⟩:=Q5 ht
  unfold OJ
  rw [h.ks,hN,show Qw (reI y).Kids=(Qw y.Kids).map (Fa Ik) from Du _ _,Il h.th (fun p hp=>Vb hky p hp)]
  rfl
 have hm:RB (KQ y s) (KQ (reI y) s'):=by
  refine ⟨h.cs,h.os,h.ks,h.gs,h.bs,?_,h.dg,fun w=>?_,h.th⟩
  ·show (s'.fd||_)=(s.fd||_); rw [h.fd,hN]
  ·show UH (Qk Qb (reI y).Name true s'.nm) (Bq w)=UH (Qk Qb y.Name true s.nm) w
   rw [yM,yM,h.nm,hn,ui]
 have he:∀ e,RB ((KQ y s).err e) ((KQ (reI y) s').err e):=fun e=>⟨hm.cs,hm.os,hm.ks,hm.gs,hm.bs,hm.fd,by show s'.dg++_=s.dg++_; rw [h.dg],hm.nm,hm.th⟩
 unfold XT
 rw [htw,hN,hA,hrN,hrd]
 split
 ·exact he _
 split
 ·exact hm
 split
 ·exact he _
 split
 ·exact he _
 rename_i q _
 unfold NV
 have hth:∀ w,Jb Qr (Bq w) (Qk Qr (reI y).Name (⟨(reI y).N,Hm (reI y).N (KQ (reI y) s')⟩:KC) (KQ (reI y) s').th)=Jb Qr w (Qk Qr y.Name (⟨y.N,Hm y.N (KQ y s)⟩:KC) (KQ y s).th):=by
  intro w
  rw [NZ rA,NZ rA,hm.th,hn,hN,show Hm y.N (KQ (reI y) s')=Hm y.N (KQ y s) from hrN]
  rw [show Qr (Bq w) (Bq y.Name)=Qr w y.Name from ui w y.Name]
 rw [hN] at hth ⊢
 rw [hn] at hth ⊢
 by_cases c1:y.N=1
 ·simp only [if_pos c1]
  exact ⟨by simp only [hm.cs,List.map_append]; rfl,hm.os,hm.ks,hm.gs,hm.bs,hm.fd,hm.dg,hm.nm,hth⟩
 simp only [if_neg c1]
 by_cases c2:y.N=2
 ·simp only [if_pos c2]
  exact ⟨by simp only [hm.cs,List.map_append]; rfl,hm.os,hm.ks,hm.gs,hm.bs,hm.fd,hm.dg,hm.nm,hth⟩
 simp only [if_neg c2]
 by_cases c3:y.N=3
 ·simp only [if_pos c3]
  exact ⟨hm.cs,by simp only [hm.os,List.map_append]; rfl,hm.ks,hm.gs,hm.bs,hm.fd,hm.dg,hm.nm,hth⟩
 simp only [if_neg c3]
 by_cases c4:y.N=4
 ·simp only [if_pos c4]
  exact ⟨hm.cs,hm.os,by simp only [hm.ks,List.map_append]; rfl,hm.gs,hm.bs,hm.fd,hm.dg,hm.nm,hth⟩
 simp only [if_neg c4]
 by_cases c5:y.N=5
 ·simp only [if_pos c5]
  exact ⟨hm.cs,hm.os,hm.ks,by simp only [hm.gs,List.map_append]; rfl,hm.bs,hm.fd,hm.dg,hm.nm,hth⟩
 simp only [if_neg c5]
 by_cases c6:y.N=6
 ·simp only [if_pos c6]
  exact ⟨hm.cs,hm.os,hm.ks,hm.gs,by simp only [hm.bs,List.map_append]; rfl,hm.fd,hm.dg,hm.nm,hth⟩
 simp only [if_neg c6]
 exact ⟨hm.cs,hm.os,hm.ks,hm.gs,hm.bs,hm.fd,hm.dg,hm.nm,hth⟩
theorem um:∀ {l:List GN} {s s':BS} {d:Nat},RB s s'→(∀ y ∈ l,y.Kind=2∧ZC d y)→RB (runF l s) (runF (l.map (Fa reI)) s')
 | [],s,s',d,h,_=>h
 | y :: l,s,s',d,h,hl=>by
  obtain ⟨h2,ht⟩:=hl y zq
  have hs:=nJ h h2 ht
  have e:Fa reI y=reI y:=by unfold Fa; rw [if_neg zo]
  rw [List.map_cons,e]
  unfold runF
  rw [hs.dg]
  split
  ·exact hs
  ·exact um hs fun z hz=>hl z (by simp [hz])
theorem rb0:RB bs0 bs0:=⟨rfl,rfl,rfl,rfl,rfl,rfl,rfl,fun _=>rfl,fun _=>rfl⟩
theorem zN {n:Nat} {a:List Zr} (hl:a.length≤1600) (hn:2000≤n):Wt n a a true=some true:=by
 unfold Wt
 simp only [Qi,beq_self_eq_true,Bool.not_true,cond_false]
 have:=K6 (B:=fun rec i=>VP a a true rec i) (n:=n) (L:=a.length) (fun i r=>r=true) zo (fun rec i hi hr=>?_) 0 zo zo
 ·obtain ⟨r,e,rfl⟩:=this
  exact e
 unfold VP
 simp only [Qc,List.length_map,QL]
 by_cases c1:i < a.length
 rotate_left
 ·rw [K7 zo,cond_false]; exact Qs rfl
 obtain ⟨w1,w2⟩:=hr c1
 rw [YU zo,cond_true,ZF,List.getElem?_eq_getElem c1]
 simp only [ZW,w1,Qi,beq_self_eq_true,Bool.not_true,cond_false,cond_true]
 exact w2
theorem wM {n:Nat} {r:Qm × List Zr} (hl:r.1.Conductors.length≤32) (hN:∀ c ∈ r.1.Conductors,c.Name.length≤1600) (hn:2000≤n):QT (fun rec (v:Int × List ZE)=>ZY n r rec v.1 v.2) n (0,[])=some (r.1.Conductors.map rC):=by
 have:=KX (n:=n) (B:=fun rec (v:Int × List ZE)=>ZY n r rec v.1 v.2) (v:=(0,[])) (Q:=fun v z=>z=v.2++(r.1.Conductors.drop v.1.toNat).map rC) (fun v=>r.1.Conductors.length - v.1.toNat) (fun v=>(∃ i:Nat,v.1=(i:Int)∧i≤r.1.Conductors.length)∧v.2.length≤v.1.toNat) ?_ ⟨⟨0,rfl,by omega⟩,by simp⟩ (by simp only; omega)
 ·obtain ⟨z,e,h⟩:=this
  rw [e,h]; rfl
 rintro rec ⟨q,a⟩ ⟨⟨i,hi,hil⟩,hal⟩ hrec
 simp only at hi hal hrec ⊢
 subst hi
 unfold ZY
 simp only [Qc,List.length_map,QL,Int.toNat_natCast] at hal hrec ⊢
 by_cases c1:i < r.1.Conductors.length
 rotate_left
 ·rw [K7 zo,cond_false,List.drop_eq_nil_of_le zo]; exact Qs zq
 rw [YU zo,cond_true,ZF,List.getElem?_eq_getElem c1,ZW,Uu (hN _ (List.getElem_mem c1)) hn,ZW,ug (by simp; omega) zo,cond_true,Y7 (x:=(i:Int)+1) zo zo,List.drop_eq_getElem_cons c1]
 refine Yf (hrec ((i:Int)+1,a++[rC (r.1.Conductors[i]'c1)]) ⟨⟨i+1,by simp,c1⟩,by simp; omega⟩ (by simp only; omega)) ?_
 intro z hz
 simp only [show ((i:Int)+1).toNat=i+1 by omega] at hz
 rw [hz,List.append_assoc]; rfl
theorem wN {n:Nat} {r:Qm × List Zr} (hl:r.1.Owners.length≤32) (hN:∀ c ∈ r.1.Owners,c.Name.length≤1600) (hn:2000≤n):QT (fun rec (v:Int × List QM)=>ZZ n r rec v.1 v.2) n (0,[])=some (r.1.Owners.map rO):=by
 have:=KX (n:=n) (B:=fun rec (v:Int × List QM)=>ZZ n r rec v.1 v.2) (v:=(0,[])) (Q:=fun v z=>z=v.2++(r.1.Owners.drop v.1.toNat).map rO) (fun v=>r.1.Owners.length - v.1.toNat) (fun v=>(∃ i:Nat,v.1=(i:Int)∧i≤r.1.Owners.length)∧v.2.length≤v.1.toNat) ?_ ⟨⟨0,rfl,by omega⟩,by simp⟩ (by simp only; omega)
 ·obtain ⟨z,e,h⟩:=this
  rw [e,h]; rfl
 rintro rec ⟨q,a⟩ ⟨⟨i,hi,hil⟩,hal⟩ hrec
 simp only at hi hal hrec ⊢
 subst hi
 unfold ZZ
 simp only [Qc,List.length_map,QL,Int.toNat_natCast] at hal hrec ⊢
 by_cases c1:i < r.1.Owners.length
 rotate_left
 ·rw [K7 zo,cond_false,List.drop_eq_nil_of_le zo]; exact Qs zq
 rw [YU zo,cond_true,ZF,List.getElem?_eq_getElem c1,ZW,Uu (hN _ (List.getElem_mem c1)) hn,ZW,ug (by simp; omega) zo,cond_true,Y7 (x:=(i:Int)+1) zo zo,List.drop_eq_getElem_cons c1]
 refine Yf (hrec ((i:Int)+1,a++[rO (r.1.Owners[i]'c1)]) ⟨⟨i+1,by simp,c1⟩,by simp; omega⟩ (by simp only; omega)) ?_
 intro z hz
 simp only [show ((i:Int)+1).toNat=i+1 by omega] at hz
 rw [hz,List.append_assoc]; rfl
theorem wO {n:Nat} {r:Qm × List Zr} (hl:r.1.Contracts.length≤32) (hN:∀ c ∈ r.1.Contracts,c.Name.length≤1600) (hn:2000≤n):QT (fun rec (v:Int × List ZO)=>Z0 n r rec v.1 v.2) n (0,[])=some (r.1.Contracts.map rK):=by
 have:=KX (n:=n) (B:=fun rec (v:Int × List ZO)=>Z0 n r rec v.1 v.2) (v:=(0,[])) (Q:=fun v z=>z=v.2++(r.1.Contracts.drop v.1.toNat).map rK) (fun v=>r.1.Contracts.length - v.1.toNat) (fun v=>(∃ i:Nat,v.1=(i:Int)∧i≤r.1.Contracts.length)∧v.2.length≤v.1.toNat) ?_ ⟨⟨0,rfl,by omega⟩,by simp⟩ (by simp only; omega)
 ·obtain ⟨z,e,h⟩:=this
  rw [e,h]; rfl
 rintro rec ⟨q,a⟩ ⟨⟨i,hi,hil⟩,hal⟩ hrec
 simp only at hi hal hrec ⊢
 subst hi
 unfold Z0
 simp only [Qc,List.length_map,QL,Int.toNat_natCast] at hal hrec ⊢
 by_cases c1:i < r.1.Contracts.length
 rotate_left
 ·rw [K7 zo,cond_false,List.drop_eq_nil_of_le zo]; exact Qs zq
 rw [YU zo,cond_true,ZF,List.getElem?_eq_getElem c1,ZW,Uu (hN _ (List.getElem_mem c1)) hn,ZW,ug (by simp; omega) zo,cond_true,Y7 (x:=(i:Int)+1) zo zo,List.drop_eq_getElem_cons c1]
 refine Yf (hrec ((i:Int)+1,a++[rK (r.1.Contracts[i]'c1)]) ⟨⟨i+1,by simp,c1⟩,by simp; omega⟩ (by simp only; omega)) ?_
 intro z hz
 simp only [show ((i:Int)+1).toNat=i+1 by omega] at hz
 rw [hz,List.append_assoc]; rfl
theorem wP {n:Nat} {r:Qm × List Zr} (hl:r.1.Chargers.length≤32) (hN:∀ c ∈ r.1.Chargers,c.Name.length≤1600) (hn:2000≤n):QT (fun rec (v:Int × List ZT)=>Z4 n r rec v.1 v.2) n (0,[])=some (r.1.Chargers.map rG):=by
 have:=KX (n:=n) (B:=fun rec (v:Int × List ZT)=>Z4 n r rec v.1 v.2) (v:=(0,[])) (Q:=fun v z=>z=v.2++(r.1.Chargers.drop v.1.toNat).map rG) (fun v=>r.1.Chargers.length - v.1.toNat) (fun v=>(∃ i:Nat,v.1=(i:Int)∧i≤r.1.Chargers.length)∧v.2.length≤v.1.toNat) ?_ ⟨⟨0,rfl,by omega⟩,by simp⟩ (by simp only; omega)
 ·obtain ⟨z,e,h⟩:=this
  rw [e,h]; rfl
 rintro rec ⟨q,a⟩ ⟨⟨i,hi,hil⟩,hal⟩ hrec
 simp only at hi hal hrec ⊢
 subst hi
 unfold Z4
 simp only [Qc,List.length_map,QL,Int.toNat_natCast] at hal hrec ⊢
 by_cases c1:i < r.1.Chargers.length
 rotate_left
 ·rw [K7 zo,cond_false,List.drop_eq_nil_of_le zo]; exact Qs zq
 rw [YU zo,cond_true,ZF,List.getElem?_eq_getElem c1,ZW,Uu (hN _ (List.getElem_mem c1)) hn,ZW,ug (by simp; omega) zo,cond_true,Y7 (x:=(i:Int)+1) zo zo,List.drop_eq_getElem_cons c1]
 refine Yf (hrec ((i:Int)+1,a++[rG (r.1.Chargers[i]'c1)]) ⟨⟨i+1,by simp,c1⟩,by simp; omega⟩ (by simp only; omega)) ?_
 intro z hz
 simp only [show ((i:Int)+1).toNat=i+1 by omega] at hz
 rw [hz,List.append_assoc]; rfl
theorem wQ {n:Nat} {r:Qm × List Zr} (hl:r.1.Bays.length≤32) (hN:∀ c ∈ r.1.Bays,c.Name.length≤1600) (hn:2000≤n):QT (fun rec (v:Int × List Q6)=>Z5 n r rec v.1 v.2) n (0,[])=some (r.1.Bays.map rB):=by
 have:=KX (n:=n) (B:=fun rec (v:Int × List Q6)=>Z5 n r rec v.1 v.2) (v:=(0,[])) (Q:=fun v z=>z=v.2++(r.1.Bays.drop v.1.toNat).map rB) (fun v=>r.1.Bays.length - v.1.toNat) (fun v=>(∃ i:Nat,v.1=(i:Int)∧i≤r.1.Bays.length)∧v.2.length≤v.1.toNat) ?_ ⟨⟨0,rfl,by omega⟩,by simp⟩ (by simp only; omega)
 ·obtain ⟨z,e,h⟩:=this
  rw [e,h]; rfl
 rintro rec ⟨q,a⟩ ⟨⟨i,hi,hil⟩,hal⟩ hrec
 simp only at hi hal hrec ⊢
 subst hi
 unfold Z5
 simp only [Qc,List.length_map,QL,Int.toNat_natCast] at hal hrec ⊢
 by_cases c1:i < r.1.Bays.length
 rotate_left
 ·rw [K7 zo,cond_false,List.drop_eq_nil_of_le zo]; exact Qs zq
 rw [YU zo,cond_true,ZF,List.getElem?_eq_getElem c1,ZW,Uu (hN _ (List.getElem_mem c1)) hn,ZW,ug (by simp; omega) zo,cond_true,Y7 (x:=(i:Int)+1) zo zo,List.drop_eq_getElem_cons c1]
 refine Yf (hrec ((i:Int)+1,a++[rB (r.1.Bays[i]'c1)]) ⟨⟨i+1,by simp,c1⟩,by simp; omega⟩ (by simp only; omega)) ?_
 intro z hz
 simp only [show ((i:Int)+1).toNat=i+1 by omega] at hz
 rw [hz,List.append_assoc]; rfl
def Tm (s:Qm):Qm:=⟨s.Conductors.map rC,s.Owners.map rO,s.Contracts.map rK,s.Chargers.map rG,s.Bays.map rB⟩
theorem nK {s s':BS} (h:RB s s'):s'.site=Tm s.site:=by
 unfold BS.site Tm
 rw [h.cs,h.os,h.ks,h.gs,h.bs]
def rD (s:Qm):Prop:=(∀ c ∈ s.Conductors,c.Name.length≤1600)∧(∀ c ∈ s.Owners,c.Name.length≤1600)∧(∀ c ∈ s.Contracts,c.Name.length≤1600)∧(∀ c ∈ s.Chargers,c.Name.length≤1600)∧(∀ c ∈ s.Bays,c.Name.length≤1600)
theorem uo {y:GN} {s:BS} (hy:y.Name.length≤12) (h:rD s.site):rD (XT y s).site:=by
 obtain ⟨h1,h2,h3,h4,h5⟩:=h
 have hm:rD (KQ y s).site:=⟨h1,h2,h3,h4,h5⟩
 have he:∀ e,rD ((KQ y s).err e).site:=fun e=>⟨h1,h2,h3,h4,h5⟩
 unfold XT
 split
 ·exact he _
 split
 ·exact hm
 split
 ·exact he _
 split
 ·exact he _
 rename_i q _
 unfold NV
 by_cases c1:y.N=1
 ·rw [if_pos c1]
  exact ⟨fun c hc=>(List.mem_append.1 hc).elim (h1 c) (fun h=>by rw [List.mem_singleton.1 h]; exact Nat.le_trans hy zo),h2,h3,h4,h5⟩
 rw [if_neg c1]
 by_cases c2:y.N=2
 ·rw [if_pos c2]
  exact ⟨fun c hc=>(List.mem_append.1 hc).elim (h1 c) (fun h=>by rw [List.mem_singleton.1 h]; exact Nat.le_trans hy zo),h2,h3,h4,h5⟩
 rw [if_neg c2]
 by_cases c3:y.N=3
 ·rw [if_pos c3]
  exact ⟨h1,fun c hc=>(List.mem_append.1 hc).elim (h2 c) (fun h=>by rw [List.mem_singleton.1 h]; exact Nat.le_trans hy zo),h3,h4,h5⟩
 rw [if_neg c3]
 by_cases c4:y.N=4
 ·rw [if_pos c4]
  exact ⟨h1,h2,fun c hc=>(List.mem_append.1 hc).elim (h3 c) (fun h=>by rw [List.mem_singleton.1 h]; exact Nat.le_trans hy zo),h4,h5⟩
 rw [if_neg c4]
 by_cases c5:y.N=5
 ·rw [if_pos c5]
  exact ⟨h1,h2,h3,fun c hc=>(List.mem_append.1 hc).elim (h4 c) (fun h=>by rw [List.mem_singleton.1 h]; exact Nat.le_trans hy zo),h5⟩
 rw [if_neg c5]
 by_cases c6:y.N=6
 ·rw [if_pos c6]
  exact ⟨h1,h2,h3,h4,fun c hc=>(List.mem_append.1 hc).elim (h5 c) (fun h=>by rw [List.mem_singleton.1 h]; exact Nat.le_trans hy zo)⟩
 rw [if_neg c6]
 exact ⟨h1,h2,h3,h4,h5⟩
theorem yN:∀ {l:List GN} {s:BS},(∀ y ∈ l,y.Name.length≤12)→rD s.site→rD (runF l s).site
 | [],s,_,h=>h
 | y :: l,s,hl,h=>by
  have hs:=uo (hl y zq) h
  unfold runF
  split
  ·exact hs
  ·exact yN (fun z hz=>hl z (by simp [hz])) hs
theorem uq:∀ {l:List GN} {s:BS},s.fit→s.dg.length < 20→(runF l s).dg.length≤20
 | [],s,_,h=>Nat.le_of_lt h
 | y :: l,s,hf,h=>by
  obtain ⟨f1,f2,_⟩:=Dt (y:=y) hf
  unfold runF
  split
  ·omega
  ·exact uq f1 zo
theorem iG {e:Nat} {l:List GN} (h:∀ y ∈ l,y.Kind=2∧ZC e y):zI (l.map (Fa reI))=zI l:=by
 unfold zI
 rw [List.map_map]
 congr 1
 refine List.map_congr_left fun y hy=>?_
 obtain ⟨h2,ht⟩:=h y hy
 have e1:Fa reI y=reI y:=by unfold Fa; rw [if_neg zo]
 obtain ⟨e,rfl,_,_,hky⟩:=Q5 ht
 rw [Function.comp_apply,e1,show (reI y).Kids.length=y.Kids.length from Bz ht,show Qw (reI y).Kids=(Qw y.Kids).map (Fa Ik) from Du _ _]
 congr 1
 unfold Sg
 rw [List.map_map]
 congr 1
 refine List.map_congr_left fun p hp=>?_
 rw [Function.comp_apply]
 unfold Fa
 split
 ·rfl
 ·rw [show (Ik p).Kids.length=p.Kids.length from Bz (Vb hky p hp)]
theorem TF {n:Nat} {r r9:Qm × List Zr} (h1:r.1.Conductors.length≤32) (h2:r.1.Owners.length≤32) (h3:r.1.Contracts.length≤32) (h4:r.1.Chargers.length≤32) (h5:r.1.Bays.length≤32) (hN:rD r.1) (h9:r9=(Tm r.1,r.2)) (hd:r.2.length≤1600) (hn:2000≤n) :
  ((QT (fun rec (v:Int × List ZE)=>ZY n r rec v.1 v.2) n (0,[])).bind fun j10 =>
   (QT (fun rec (v:Int × List QM)=>ZZ n r rec v.1 v.2) n (0,[])).bind fun j14 =>
   (QT (fun rec (v:Int × List ZO)=>Z0 n r rec v.1 v.2) n (0,[])).bind fun j18 =>
   (QT (fun rec (v:Int × List ZT)=>Z4 n r rec v.1 v.2) n (0,[])).bind fun j22 =>
   (QT (fun rec (v:Int × List Q6)=>Z5 n r rec v.1 v.2) n (0,[])).bind fun j26 =>
   cond true
    ((Wt n r.2 r9.2 true).bind fun r31 =>
    cond r31
     ((Jh n r9.1 (⟨j10,j14,j18,j22,j26⟩:Qm)).bind fun r33 =>
     some r33)
     (some false))
    (some false))=some true:=by
 subst h9
 obtain ⟨n1,n2,n3,n4,n5⟩:=hN
 rw [wM h1 n1 hn,ZW,wN h2 n2 hn,ZW,wO h3 n3 hn,ZW,wP h4 n4 hn,ZW,wQ h5 n5 hn,ZW,cond_true,zN hd hn,ZW,cond_true]
 have:=wJ (n:=n) (a:=Tm r.1) (by simp [Tm]; omega) (by simp [Tm]; omega) (by simp [Tm]; omega) (by simp [Tm]; omega) (by simp [Tm]; omega) hn
 refine (congrArg (fun q=>Option.bind q _) this).trans ?_
 rfl
theorem wR {n d:Nat} {x:GN} (ht:ZC d x) (hn:9223372036854776000≤n) (hh:Xi (n+4)=some true):Yy (n+4) x=some true:=by
 obtain ⟨b,hb,hfew⟩:=QbN ht (n:=n+4) zo
 unfold Yy
 rw [hh,ZW,hb,ZW]
 cases b
 ·rfl
 have hs:=hfew rfl
 simp only [Bool.not_true,cond_false]
 obtain ⟨vb,hvb,hv⟩:=OO ht (n:=n+4) zo
 rw [hvb]
 cases vb
 ·rfl
 have hv:=hv rfl
 simp only [ZW,Bool.not_true,cond_false]
 obtain ⟨hr,htr⟩:=zM ht hv hs (n:=n) zo
 rw [hr,ZW]
 obtain ⟨wb,hwb,hw⟩:=OO htr (n:=n+4) zo
 rw [hwb,ZW]
 cases wb
 ·rfl
 have hw:=hw rfl
 simp only [Bool.not_true,cond_false]
 have hlr:(reS x).Kids.length=x.Kids.length:=Bz ht
 have hkr:Qw (reS x).Kids=(Qw x.Kids).map (Fa reI):=Du _ _
 obtain ⟨e,rfl,hl,_,hk⟩:=Q5 ht
 have hit:∀ y ∈ Qw x.Kids,y.Kind=2∧ZC e y:=fun y hy=>⟨(Ls hv hy).1,Vb hk y hy⟩
 have hB:=yJ ht (n:=n+4) zo zo
 have hB2:=yJ htr (n:=n+4) zo (by rw [hlr,hkr,iG hit]; omega)
 rw [if_pos hv] at hB
 rw [if_pos hw,hkr] at hB2
 have hR:=um rb0 hit
 have hfit:=yL (l:=Qw x.Kids) iD
 have hnm:=yN (l:=Qw x.Kids) (s:=bs0) (fun y hy=>(Ls hv hy).2.1) ⟨fun _ h=>by simp [bs0,BS.site] at h,fun _ h=>by simp [bs0,BS.site] at h,fun _ h=>by simp [bs0,BS.site] at h,fun _ h=>by simp [bs0,BS.site] at h,fun _ h=>by simp [bs0,BS.site] at h⟩
 have hdg:=uq (l:=Qw x.Kids) iD (by simp [bs0])
 generalize runF (Qw x.Kids) bs0=s at hB hR hfit hnm hdg
 generalize runF ((Qw x.Kids).map (Fa reI)) bs0=s' at hB2 hR
 rw [hR.dg,hR.fd,nK hR] at hB2
 obtain ⟨f1,f2,f3,f4,f5⟩:=hfit
 rw [hB,ZW,hB2,ZW]
 have hz:∀ d:List Zr,((⟨[],[],[],[],[]⟩:Qm),d)=(Tm ⟨[],[],[],[],[]⟩,d):=fun d=>rfl
 have hN0:rD ⟨[],[],[],[],[]⟩:=⟨fun _ h=>(by cases h),fun _ h=>(by cases h),fun _ h=>(by cases h),fun _ h=>(by cases h),fun _ h=>(by cases h)⟩
 split
 ·split
  ·exact TF (Nat.le_trans f1 zo) (Nat.le_trans f2 zo) (Nat.le_trans f3 zo) (Nat.le_trans f4 zo) (Nat.le_trans f5 zo) hnm rfl zq zo
  ·exact TF zq zq zq zq zq hN0 (hz _) zq zo
 ·exact TF zq zq zq zq zq hN0 (hz _) (by simp only; omega) zo
theorem Sj {d:Nat} {x:GN} (ht:ZC d x):Yy 36893488147419103232 x=some true:=wR (n:=36893488147419103228) ht zo sW
end Go.Proofs
namespace Go.Proofs.YteakahdpnpecoaaGreat
open Go Go.Abs Go.Proofs
theorem yO:∀ (d:Nat) (x:GN),GN.wfd d x→ZC d x
 | 0,_,h=>h.elim
 | d+1,x,h=>by
  obtain ⟨h0,h1,h2,h3,h4⟩:=h
  exact ⟨h0,h2,h3,h1,h4.1,fun k hk=>by
   obtain ⟨y,e,g⟩:=h4.2 k hk
   exact ⟨y,by rw [e]; exact OD _ _ _ _ _,yO d y g⟩⟩
theorem siteNames_holds:Rows.SiteNamesSaid :=
 EW (fun x h=>by
  obtain ⟨d,h⟩:=h
  exact ⟨_,Sj (yO d x h)⟩)
end Go.Proofs.YteakahdpnpecoaaGreat
