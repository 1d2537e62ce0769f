/-
  A part of the proof of a statement of the seat YtkhhdppjbakngaaGreat.
-/
import Derived.Test.YtkhhdppjbakngaaGreatWhh01
set_option linter.unusedVariables false
namespace Go.Abs
open Go
variable {D:DB}{H:List (Nat×Blk)}{K:St→Prop}{M M' M0:ZQ}{N:Nat}{P:Program}{Q:AX→St→Prop}{Q':Exit→Act→World→Prop}{T T':Nat→Option AV}{a:Act}{args args':List AV}{b:Nat}{body c:Code}{d:Nat}{dst:Option Tmp}{f:FuncId}{fn:Func}{g:FuncId}{h h' h0:QY}{hc hc':List (Nat×Blk)}{i id n:Nat}{nf:Dj}{o:Oper}{off:Nat}{ok:Bool}{ops:Array Oper}{p:AV}{pd:Option Code}{r:Nat}{ro:Option Nat}{s s' s1:St}{st:LoopState}{ty:TypeId}{v:Value}{w w' w'' w0:World}{x y:Operand}{α β:Type}{ρ φ φ' φ0:Nat→Nat}
section
variable {P:Program}{o:Oper}{φ:Nat→Nat}{M0:ZQ}{N:Nat}{D:DB}{T:Nat→Option AV}{h:QY}{a:Act}{w:World}
theorem dE(r:ZG φ M0 N D T h a w){u:Kt}(G:V6 P o T h=some u):Yield P o φ M0 h a w u.1 (ap h u.2.1):=by
 unfold V6 at G;split at G
 case h_1 x ho =>
  unfold WY at G;split at G
  ·rename_i v J;simp only[Zf] at G;subst G;exact uR r (.inl ho) J
  ·cases G
 case h_2 x ho =>
  unfold WY at G;split at G
  ·rename_i v J;simp only[Zf] at G;subst G;exact uR r (.inr ho) J
  ·cases G
 case h_3 c x y ho=>have:=uS (P:=P) r ho G;exact Zh ⟨this.1,this.2.2⟩
 case h_4 ty ho =>
  split at G
  ·rename_i i hi;split at G
   ·rename_i z Y;exact bU r ho hi Y G
   ·cases G
  ·cases G
 case h_5 ty x ho =>
  split at G
  ·rename_i v J;exact Qbu r ho J G
  ·cases G
 case h_6 t ps ho=>exact Zh (bX r ho G)
 case h_7 t n ps ho =>
  split at G
  ·rename_i O;subst O;exact l8 r ho G
  ·split at G
   ·exact IQ r ho G
   ·exact qz r ho G
 case h_8 ty x ho=>split at G;exact Zh (dA r ho G);exact Zh (lX r ho G)
 case h_9 ty x y ho=>split at G;exact mZ r ho G;exact bS r ho G
 case h_10 t x y ho=>exact dB r ho G
 case h_11 t rsv ho=>exact xA r ho G
 case h_12 t x i ok ho=>exact(YQ G).elim (fun G=>Zh (nz r ho G)) (fun G=>Zh (vW r ho G))
 case h_13 t x i y ho=>exact(YQ G).elim (fun G=>kR r ho G) (fun G=>SK r ho G)
 case h_14 x ho=>split at G;exact Zh (l9 r ho G);exact(YQ G).elim (fun G=>Zh (vK r ho G)) (fun G=>Zh (pure_ok r G))
 case h_15 t x f ho=>split at G;exact Zh (qB r ho G);exact Zh (kD r ho G)
 case h_16 t x f ho=>exact Zh (bV r ho G)
 case h_17 t x i ho=>split at G;exact Zh (qA r ho G);exact(YQ G).elim (fun G=>Zh (kE r ho G)) (fun G=>(YQ G).elim (fun G=>Zh (qG r ho G)) (fun G=>Zh (qF r ho G)))
 case h_18 t x i ho=>exact(YQ G).elim (fun G=>Zh (bW r ho G)) (fun G=>(YQ G).elim (fun G=>Zh (ng r ho G)) (fun G=>Zh (pure_ok r G)))
 case h_19 t x lo hi mx ho=>exact(YQ G).elim (fun G=>Zh (bZ r ho G)) (fun G=>(YQ G).elim (fun G=>Zh (pure_ok r G)) (fun G=>Zh (ni r ho G)))
 case h_20 x i ho=>exact Zh (xg r ho G)
 case h_21 f l m ho=>exact Zh (vJ r ho G)
 case h_22 t x ho=>exact Zh (Es r ho G)
 case h_23 x xt t ok ho=>exact Zh (qy r ho G)
 case h_24 op tx x y ty ho=>exact(YQ G).elim (fun G=>Zh (Qbw r ho G)) (fun G=>(YQ G).elim (fun G=>Zh (Qdh r ho G)) (fun G=>(YQ G).elim (fun G=>Zh (pure_ok r G)) (fun G=>Zh (dC r ho G))))
 case h_25 op tx x ho=>exact(YQ G).elim (fun G=>Zh (Qdf r ho G)) (fun G=>Zh (pure_ok r G))
 case h_26 src dst x ho=>exact(YQ G).elim (fun G=>Zh (lZ r ho G)) (fun G=>Zh (pure_ok r G))
 case h_27 args types ho =>
  split at G
  ·rename_i x t;split at G;exact Zh (l5 r ho G);exact(YQ G).elim (fun G=>Zh (Qbv r ho G)) (fun G=>(YQ G).elim (fun G=>Zh (eB r ho G)) (fun G=>(YQ G).elim (fun G=>Zh (pure_ok r G)) (fun G=>(YQ G).elim (fun G=>Zh (eO r ho G)) (fun G=>Zh (eD r ho G)))))
  ·cases G
 case h_28 args types ho =>
  split at G
  ·rename_i s x t Z;split at G
   ·rename_i U;subst U;split at G;exact xn r ho G;exact mX r ho G
   ·cases G
  ·cases G
 case h_29 args types ho =>
  split at G
  ·exact vX r ho G
  ·cases G
 case h_30=>exact Zh (pure_ok r G)
 case h_31=>exact Zh (pure_ok r G)
 case h_32 args types ho =>
  split at G
  ·exact nu r ho G
  ·cases G
 case h_33=>cases G
end
inductive KN where
|ret (x:AV)
|panic (x:AV)
variable {R:KN→QY→Prop}
def dF(φ:Nat→Nat)(h:QY)(w:World)(M:ZQ):KN→Ending→Prop|.ret x,e=>∃v,e=.returned v∧Qg φ h w M x v|.panic x,e=>∃v,e=.panicked [{ v:=v,recovered:=false }]∧Qg φ h w M x v
def V7(P:Program)(f:FuncId)(args:List AV)(h:QY)(R:KN→QY→Prop):Prop :=∀φ M0 w G,Z9 φ h w M0→Ql φ h w (MM φ h M0) args G→Calls P f G.toArray w fun e w' =>∃φ' r h',R r h'∧Z9 φ' h' w' M0∧Zl φ h w φ' h' w'∧dF φ' h' w' (MM φ' h' M0) r e
def LU:QY:=fun _=>none
def QV(P:Program)(f:FuncId)(args:List AV)(x:KN):Prop:=V7 P f args LU fun r h'=>r=x∧h'=LU
mutual
def YN:AV→Bool|.p _=>true|.eptr _=>true|.tsl _ _ _=>false|.ptr _ _=>false|.vnil=>true|.vsl _ _ _=>false|.vptr _ _ _ _=>false|.vtl _ _ _ _ _=>false|.yv _=>false|.mv _=>false|.bsl _ _=>false|.sfp _=>false|.iv _=>false|.agg cs=>VG cs|.tup cs=>VG cs|.fn _ a b=>VG a&&VG b|.ifc _ x=>YN x
def VG:List AV→Bool|[]=>true|x::xs=>YN x&&VG xs
end
theorem JR(hk:∀r o v,w.cell? ⟨r,o,none⟩=some v→¬M r o→w'.cell? ⟨r,o,none⟩=some v∧¬M' r o) :
  (∀(x:AV) (v:Value),YN x=true→Qg φ h w M x v→Qg φ' h' w' M' x v)∧(∀(xs:List AV) (l:List Value),VG xs=true→Ql φ h w M xs l→Ql φ' h' w' M' xs l):=by
 obtain⟨kp,ke,kc⟩:=Yg hk
 have key:∀n:Nat,(∀(x:AV),SizeOf.sizeOf x≤n→∀v,YN x=true→Qg φ h w M x v→Qg φ' h' w' M' x v)∧(∀(xs:List AV),SizeOf.sizeOf xs≤n→∀l,VG xs=true→Ql φ h w M xs l→Ql φ' h' w' M' xs l):=by
  intro n
  induction n with
 |zero =>
   refine⟨fun x Y=>?_,fun es Y=>?_⟩
   ·cases x<;>simp at Y
   ·cases es<;>simp at Y
 |succ n ih =>
   obtain⟨i1,i2⟩:=ih;refine⟨fun x Y v G J=>?_,fun xs Y l G J=>?_⟩
   ·cases x with
   |p x=>simp only[Qg] at J ⊢;exact kp x v J
   |tsl S es t=>simp[YN] at G
   |ptr b off=>simp[YN] at G
   |vnil=>simp only[Qg] at J ⊢;exact J
   |vsl S t n=>simp[YN] at G
   |vptr t n k f=>simp[YN] at G
   |vtl S t n k m=>simp[YN] at G
   |yv b=>simp[YN] at G
   |mv b=>simp[YN] at G
   |iv b=>simp[YN] at G
   |bsl b n=>simp[YN] at G
   |sfp b=>simp[YN] at G
   |eptr cs =>
     simp only[Qg] at J ⊢;obtain⟨r,o,O,U⟩:=J;exact⟨r,o,O,kc cs r o U⟩
   |agg cs =>
     simp only[Qg,YN] at J G ⊢;obtain⟨l,O,U⟩:=J;exact⟨l,O,i2 cs (by simp at Y;omega) l G U⟩
   |tup cs =>
     simp only[Qg,YN] at J G ⊢;obtain⟨l,O,U⟩:=J;exact⟨l,O,i2 cs (by simp at Y;omega) l G U⟩
   |fn f a b =>
     simp only[Qg,YN,KL] at J G ⊢;obtain⟨l,m,O,U,Z⟩:=J;simp at Y;exact⟨l,m,O,i2 a zo l G.1 U,i2 b zo m G.2 Z⟩
   |ifc t x =>
     simp only[Qg,YN] at J G ⊢;obtain⟨y,O,U⟩:=J;exact⟨y,O,i1 x (by simp at Y;omega) y G U⟩
   ·cases xs with
   |nil=>simpa [Ql] using J
   |cons x xs =>
     simp only[Ql,VG,KL] at J G ⊢;simp at Y;obtain⟨y,ys,O,U,Z⟩:=J;exact⟨y,ys,O,i1 x zo y G.1 U,i2 xs zo ys G.2 Z⟩
 exact⟨fun x v=>(key (SizeOf.sizeOf x)).1 x (Yf _) v,fun xs l=>(key (SizeOf.sizeOf xs)).2 xs (Yf _) l⟩
mutual
def le:AV→AV→Prop|.tsl S es t,y=>y=.tsl S es t∨y=.p (.sl S es)|.p (.val v),y=>y=.p (.val v)∨(v=.slice none 0 0∧((∃S,y=.p (.sl S []))∨y=.vnil))|.agg xs,y=>∃ys,y=.agg ys∧NS xs ys|.tup xs,y=>∃ys,y=.tup ys∧NS xs ys|.vnil,y=>y=.vnil∨∃S,y=.p (.sl S [])|.vsl S t n,y=>y=.vsl S t n∨y=.vtl S t n 0 n|x,y=>y=x
def NS:List AV→List AV→Prop|[],ys=>ys=[]|x::xs,ys=>∃z G,ys=z::G∧le x z∧NS xs G
end
theorem XM :
  (∀(x y:AV) (v:Value),le x y→Qg φ h w M x v→Qg φ h w M y v)∧(∀(xs ys:List AV) (l:List Value),NS xs ys→Ql φ h w M xs l→Ql φ h w M ys l):=by
 have key:∀n:Nat,(∀(x:AV),SizeOf.sizeOf x≤n→∀y v,le x y→Qg φ h w M x v→Qg φ h w M y v)∧(∀(xs:List AV),SizeOf.sizeOf xs≤n→∀ys l,NS xs ys→Ql φ h w M xs l→Ql φ h w M ys l):=by
  intro n
  induction n with
 |zero =>
   refine⟨fun x O=>?_,fun es O=>?_⟩
   ·cases x<;>simp at O
   ·cases es<;>simp at O
 |succ n ih =>
   obtain⟨i1,i2⟩:=ih;refine⟨fun x O y v G J=>?_,fun xs O ys l G J=>?_⟩
   ·cases x with
   |p x=>cases x with
    |val u =>
      simp only[le] at G;rcases G with rfl|⟨rfl,⟨S,rfl⟩|rfl⟩
      ·exact J
      ·simp only[Qg,Q6] at J ⊢;exact .inr ⟨trivial,none,0,J⟩
      ·simp only[Qg,Q6] at J ⊢;exact J
    |sl S es=>simp only[le] at G;subst G;exact J
   |tsl S es t =>
     simp only[le] at G;rcases G with rfl|rfl
     ·exact J
     ·simp only[Qg] at J ⊢;exact J.1
   |ptr b off=>simp only[le] at G;subst G;exact J
   |eptr cs=>simp only[le] at G;subst G;exact J
   |vnil =>
     simp only[le] at G;rcases G with rfl|⟨S,rfl⟩
     ·exact J
     ·simp only[Qg,Q6] at J ⊢;exact .inr ⟨trivial,none,0,J⟩
   |vsl S t n =>
     simp only[le] at G;rcases G with rfl|rfl
     ·exact J
     ·simp only[Qg] at J ⊢;obtain⟨U,ty,es,Z,Y,h4⟩:=J;refine⟨U,ty,es,Z,Y,fun hn=>⟨by omega,?_⟩⟩;obtain⟨cap,c,h5,h6,h7,h8,h9⟩:=h4 hn;exact⟨cap,c,by rw[h5];simp,h6,h7,h8,h9⟩
   |vptr t n k f=>simp only[le] at G;subst G;exact J
   |vtl S t n k m=>simp only[le] at G;subst G;exact J
   |yv b=>simp only[le] at G;subst G;exact J
   |mv b=>simp only[le] at G;subst G;exact J
   |iv b=>simp only[le] at G;subst G;exact J
   |bsl b n=>simp only[le] at G;subst G;exact J
   |sfp b=>simp only[le] at G;subst G;exact J
   |agg cs =>
     simp only[le] at G;obtain⟨ys,rfl,Z⟩:=G;simp only[Qg] at J ⊢;obtain⟨l,U,Y⟩:=J;exact⟨l,U,i2 cs (by simp at O;omega) ys l Z Y⟩
   |tup cs =>
     simp only[le] at G;obtain⟨ys,rfl,Z⟩:=G;simp only[Qg] at J ⊢;obtain⟨l,U,Y⟩:=J;exact⟨l,U,i2 cs (by simp at O;omega) ys l Z Y⟩
   |fn f a b=>simp only[le] at G;subst G;exact J
   |ifc t x=>simp only[le] at G;subst G;exact J
   ·cases xs with
   |nil=>simp only[NS] at G;subst G;exact J
   |cons x xs =>
     simp only[NS] at G;obtain⟨z,zs,rfl,U,Z⟩:=G;simp only[Ql] at J ⊢;simp at O;obtain⟨y,ys,Y,h4,h5⟩:=J;exact⟨y,ys,Y,i1 x zo z y U h4,i2 xs zo zs ys Z h5⟩
 exact⟨fun x y v=>(key (SizeOf.sizeOf x)).1 x (Yf _) y v,fun xs ys l=>(key (SizeOf.sizeOf xs)).2 xs (Yf _) ys l⟩
def TF(P:Program)(N:Nat)(f:FuncId)(args:List AV)(dst:Option Tmp)(s:St)(K:St→Prop)(Q:AX→St→Prop):Prop :=
 ∀φ M0 D a w G,ZG φ M0 N D (look s.T) (look s.H) a w→Ql φ (look s.H) w (MM φ (look s.H) M0) args G→Calls P f G.toArray w fun e w' =>
  match e with
 |.returned v=>∃φ' s',K s'∧ZG φ' M0 N D (look s'.T) (look s'.H) (a.put dst v) w'∧Zl φ (look s.H) w φ' (look s'.H) w'
 |.panicked chain=>Post N D Q φ M0 (look s.H) w (.panic chain) a w'
 |.outgrown=>False
theorem FI(Z:w'.os=w.os)(ht:w'.tape=w.tape)(hu:w'.output=w.output)(hs:w.heap.size≤w'.heap.size)(G:∀x,x<w.heap.size→w'.heap[x]?=w.heap[x]?)(r:Z9 φ h w M0)(hC:Clear φ h w (w'.heap.size-w.heap.size)):Zl φ h w φ h w'∧VQ φ h w φ h w'∧Z9 φ h w' M0:=by
 have J:∀b k,h b=some k→w'.heap[φ b]?=w.heap[φ b]?:=fun b k hb=>hC.lt r zo G (by rw[hb];simp)
 have E:Zl φ h w φ h w':=⟨Z,ht,hu,hs,fun x O _=>G x O,fun x o O _=>by simp[World.cell?,G x O],fun _ _ _ x=>x,fun _ _ _ _ x=>⟨⟨_,x⟩,rfl⟩,
  fun t ty S n _ x=>⟨_,x,Yf _,fun _=>VN (rfl) (by rw[J _ _ x])⟩,
  fun t ty S n _ x=>⟨_,x,Yf _,fun _=>⟨rfl,fun c hc=>⟨c,by rw[J _ _ x];exact hc,rfl⟩⟩⟩,fun _ _ _ _ U Y=>⟨⟨_,U,Y⟩,rfl⟩⟩
 have X:VQ φ h w φ h w':=⟨fun _ _ _ x=>⟨⟨_,_,x⟩,rfl⟩,fun t ty S n x=>⟨_,x,Yf _,fun _=>VN (rfl) (by rw[J _ _ x])⟩,
  fun t ty S n x=>⟨_,x,Yf _,fun _=>⟨rfl,fun c hc=>⟨c,by rw[J _ _ x];exact hc,rfl⟩⟩⟩,fun _ _ _ U Y=>⟨⟨_,U,Y⟩,rfl⟩⟩
 exact⟨E,X,r.inj,fun b k hb=>Ku (E.keeps M0) X (J b k hb) (r.blk b k hb),r.fr,fun x o O=>Nat.lt_of_lt_of_le (r.lt x o O) hs,r.gm.evol E⟩
def MB(φ:Nat→Nat)(h:QY)(w:World)(M0:ZQ):ZQ:=fun x o=>MM φ h M0 x o∧x<w.heap.size
theorem vZ{x o:Nat}(G:MB φ h w M0 x o):x<w.heap.size:=G.2
theorem AY(J:Z9 φ h w M0)(hs:w.heap.size≤w'.heap.size){o:Nat}(O:w'.cell? ⟨r,o,none⟩=some v)(G:¬MB φ h w M0 r o) :
  ¬MM (YM φ w.heap.size (w'.heap.size-w.heap.size)) h M0 r o:=by
 have hlt:=NA O;rintro(⟨b,k,g1,g2,g3⟩|g1)
 ·unfold YM at g2;by_cases e:φ b<w.heap.size
  ·simp only[e,if_true] at g2;exact G ⟨.inl ⟨b,k,g1,g2,g3⟩,by omega⟩
  ·simp only[e,if_false] at g2;omega
 ·exact G ⟨.inr g1,J.lt _ _ g1⟩
theorem Gw(J:∀x o,M x o→x<w.heap.size)(G:gmW w)(O:∀g∈jZ,∀o,¬M g o):Z9 φ LU w M :=
 ⟨fun b c hb=>absurd rfl hb,(fun b k hb=>by cases hb),fun b hb=>absurd rfl hb,J,G,fun g G o h=>h.elim (fun⟨b,k,U,_⟩=>by cases U) (O g G o)⟩
theorem GM.mb(G:GM φ h w M0):∀g∈jZ,∀o,¬MB φ h w M0 g o:=fun g J o O=>G.m g J o O.1
theorem Jo{x o:Nat}:¬DD φ LU x o:=by rintro⟨b,k,G,_⟩;cases G
theorem EB{x:AV}(hc:QV P f args' (.ret x))(U:NS args args')(hn:VG args'=true)(Y:YN x=true)(hd:∀t,dst=some t→t<N)(hk:K (s.put dst x)):TF P N f args dst s K Q:=by
 intro φ M0 D a w vs r ha;have hH:Z9 φ LU w (MB φ (look s.H) w M0):=Gw (fun x o hm=>vZ hm) r.hp.gm.w r.hp.gm.mb;have hM:∀r o v,w.cell? ⟨r,o,none⟩=some v→¬MM φ (look s.H) M0 r o→w.cell? ⟨r,o,none⟩=some v∧¬MM φ LU (MB φ (look s.H) w M0) r o:=fun r o v G Z=>⟨G,fun O=>O.elim Jo (fun h4=>Z h4.1)⟩
 refine(hc φ (MB φ (look s.H) w M0) w vs hH ((JR hM).2 _ _ hn (XM.2 _ _ _ U ha))).mono ?_;rintro e w' ⟨φ',r',h',⟨rfl,rfl⟩,aa,E,v,rfl,hv⟩;have J:∀ro o v,w'.cell? ⟨ro,o,none⟩=some v→¬MM φ' LU (MB φ (look s.H) w M0) ro o→w'.cell? ⟨ro,o,none⟩=some v∧¬MM (YM φ w.heap.size (w'.heap.size-w.heap.size)) (look s.H) M0 ro o:=fun ro o v G Z=>⟨G,AY r.hp E.size G (fun O=>Z (.inr O))⟩
 obtain⟨r,E1,X1,hC⟩:=r.lift (w'.heap.size-w.heap.size);obtain⟨E2,X2,H2⟩:=FI E.os E.tape E.output E.size (fun x Y=>E.same x Y (fun b hb=>absurd rfl hb)) r.hp hC;have r2:ZG _ M0 N D (look s.T) (look s.H) a w':=r.keep E2 X2 H2;exact⟨_,s.put dst x,hk,r2.put hd ((JR J).1 _ _ Y hv),by cases dst<;>exact E1.trans E2⟩
theorem Aj{x:AV}(hc:QV P f args' (.panic x))(U:NS args args')(hn:VG args'=true)(Y:YN x=true)(hk:Q (.panic x) s):TF P N f args dst s K Q:=by
 intro φ M0 D a w vs r ha;have hH:Z9 φ LU w (MB φ (look s.H) w M0):=Gw (fun x o hm=>vZ hm) r.hp.gm.w r.hp.gm.mb;have hM:∀r o v,w.cell? ⟨r,o,none⟩=some v→¬MM φ (look s.H) M0 r o→w.cell? ⟨r,o,none⟩=some v∧¬MM φ LU (MB φ (look s.H) w M0) r o:=fun r o v G Z=>⟨G,fun O=>O.elim Jo (fun h4=>Z h4.1)⟩
 refine(hc φ (MB φ (look s.H) w M0) w vs hH ((JR hM).2 _ _ hn (XM.2 _ _ _ U ha))).mono ?_;rintro e w' ⟨φ',r',h',⟨rfl,rfl⟩,aa,E,v,rfl,hv⟩;have J:∀ro o v,w'.cell? ⟨ro,o,none⟩=some v→¬MM φ' LU (MB φ (look s.H) w M0) ro o→w'.cell? ⟨ro,o,none⟩=some v∧¬MM (YM φ w.heap.size (w'.heap.size-w.heap.size)) (look s.H) M0 ro o:=fun ro o v G Z=>⟨G,AY r.hp E.size G (fun O=>Z (.inr O))⟩
 obtain⟨r,E1,X1,hC⟩:=r.lift (w'.heap.size-w.heap.size);obtain⟨E2,X2,H2⟩:=FI E.os E.tape E.output E.size (fun x Y=>E.same x Y (fun b hb=>absurd rfl hb)) r.hp hC;have r2:ZG _ M0 N D (look s.T) (look s.H) a w':=r.keep E2 X2 H2;exact⟨_,.panic x,s,hk,r2,E1.trans E2,v,rfl,(JR J).1 _ _ Y hv⟩
def ZV(ops:Array Oper)(o:Oper)(T:Nat→Option AV):Option Bool :=
 match o.guard with
|none=>some true
|some (j,want) =>
  match ops[j]? with
 |some G=>match G.dst with
  |some d=>match T d with
   |some (.p (.val (.bool b)))=>some (b==want)
   |some (.p (.val (.tuple _)))=>some false
   |_=>none
  |none=>some false
 |none=>some false
theorem FY(r:ZG φ M0 N D T h a w){t:Bool}(G:ZV ops o T=some t) :
  Region.wanted o (yielded ops a.tmps)=t:=by
 unfold ZV at G;unfold Region.wanted;split at G
 ·simp only[Zf] at G;subst G;simp[*]
 ·rename_i j want hg;simp only[hg];split at G
  ·rename_i oj O;split at G
   ·rename_i d U;split at G
    ·rename_i b hb;simp only[Zf] at G;subst G;obtain⟨Z,J⟩:=r.tm d _ hb;simp only[Qg,Q6] at J;have hlt:d<a.tmps.size:=by rw[r.siz];exact Z
     have Y:a.tmps[d]?=some (.bool b):=by
      rw[Array.getElem?_eq_getElem hlt];rw[Array.getD_eq_getD_getElem?,Array.getElem?_eq_getElem hlt] at J;simpa using J
     simp[yielded,O,U,Y]
    ·rename_i vs hb;simp only[Zf] at G;subst G;obtain⟨Z,J⟩:=r.tm d _ hb;simp only[Qg,Q6] at J;have hlt:d<a.tmps.size:=by rw[r.siz];exact Z
     have Y:a.tmps[d]?=some (.tuple vs):=by
      rw[Array.getElem?_eq_getElem hlt];rw[Array.getD_eq_getD_getElem?,Array.getElem?_eq_getElem hlt] at J;simpa using J
     simp[yielded,O,U,Y]
    ·cases G
   ·rename_i U;simp only[Zf] at G;subst G;simp[yielded,O,U]
  ·rename_i O;simp only[Zf] at G;subst G;simp[yielded,O]
def ZH(ops:Array Oper)(o:Oper)(T:List (Nat×AV))(t:Bool):List (Nat×AV) :=
 match o.guard with
|none=>T
|some (j,want) =>
  match ops[j]? with
 |some G=>match G.dst with
  |some d=>match look T d with
   |some (.p (.val (.bool _)))=>(d,.p (.val (.bool (if t then want else !want))))::T
   |_=>T
  |none=>T
 |none=>T
theorem Hu{T:List (Nat×AV)}{t:Bool}(G:ZV ops o (look T)=some t):look (ZH ops o T t)=look T:=by
 unfold ZV at G;unfold ZH;cases hg:o.guard with
|none=>rfl
|some p =>
  obtain⟨j,want⟩:=p;simp only[hg] at G;cases hj:ops[j]? with
 |none=>simp only[hj]
 |some J =>
   simp only[hj] at G ⊢;cases hd:J.dst with
  |none=>simp only
  |some d =>
    simp only[hd] at G ⊢;split at G
    ·rename_i b hb;simp only[Zf] at G;subst G;simp only[hb];funext x;simp only[look];by_cases e:d=x
     ·subst e;simp only[if_true,hb];cases b<;>cases want<;>rfl
     ·simp[e]
    ·rename_i O hb;simp only[hb]
    ·cases G
def KC(T:Nat→Option AV):Op→Option (FuncId×List AV)
|.call ⟨.value (.func f),args,_⟩=>match Ep T args.toList with|some G=>some (f,G)|none=>none
|.call ⟨.value (.tmp t),args,_⟩ =>
  match T t,Ep T args.toList with
 |some (.fn (.func f) l m),some G=>some (f,l++G++m)
 |some (.p (.val (.func (.func f) l m))),some G=>some (f,(l.toList.map fun c=>.p (.val c))++G++(m.toList.map fun c=>.p (.val c)))
 |_,_=>none
|_=>none
def Rm(b:Bool)(A B:Prop):Prop:=(b=true→A)∧(b=false→B)
theorem Km(A B:Prop):Rm true A B=A:=by simp[Rm]
theorem Fw(A B:Prop):Rm false A B=B:=by simp[Rm]
theorem Gx{b:Bool}{A B C:Prop}(h:Rm b A B)(G:b=true→A→C)(J:b=false→B→C):C:=by
 cases b
 ·exact J rfl (h.2 rfl)
 ·exact G rfl (h.1 rfl)
def XN(s:St)(dst:Option Tmp)(u:Kt):St:=⟨match dst with|some d=>(d,u.1)::s.T|none=>s.T,match u.2.1 with|some G=>G::s.H|none=>s.H⟩
def K5(N:Nat):Option Tmp→Bool|none=>true|some d=>decide (d<N)
def IR(N:Nat)(o:Oper)(s:St)(K:St→Prop):Option Kt→Prop|some u=>K5 N o.dst=true∧K (XN s o.dst u)|none=>False
def We(P:Program)(f:FuncId):Bool:=(P.funcs[f]?).any (fun fn=>fn.body.isSome&&fn.name != "runtime.NumGoroutine")
def dG(P:Program)(N:Nat)(o:Oper)(s:St)(K:St→Prop):Prop :=(∀c,o.op≠.defer c)∧K5 N o.dst=true∧∀φ M0 D a w,ZG φ M0 N D (look s.T) (look s.H) a w→∃x s',look s'.T=look s.T∧K (St.put s' o.dst x)∧Yield P o φ M0 (look s.H) a w x (look s'.H)
def U7(P:Program)(N:Nat)(o:Oper)(s:St)(K:St→Prop)(Q:AX→St→Prop):Prop :=
 match o.op with
|.pick c x y=>match Zo (look s.T) c with
 |some (.p (.val (.bool b)))=>Rm b (IR N o s K (WY (look s.T) x)) (IR N o s K (WY (look s.T) y))
 |_=>False
|.panic x=>match Zo (look s.T) x with|some (.ifc t v)=>Q (.panic (.ifc t v)) s|_=>False
|.call ⟨.value f,args,ts⟩=>match KC (look s.T) (.call ⟨.value f,args,ts⟩) with
 |some (f,args)=>We P f=true∧TF P N f args o.dst s K Q
 |none=>False
|_=>IR N o s K (V6 P o (look s.T) (look s.H))∨dG P N o s K
def YAt(P:Program)(l:Nat)(args:Array Value)(w:World)(R:Ending→World→Prop):Prop:=YieldAt Fence.wide 0 P l args w R
def dH(P:Program)(b:Nat)(args:List AV)(h:QY)(R:KN→QY→Prop):Prop :=∀φ M0 w G,Z9 φ h w M0→Ql φ h w (MM φ h M0) args G→YAt P (φ b) G.toArray w fun e w' =>∃φ' r h',R r h'∧Z9 φ' h' w' M0∧Zl φ h w φ' h' w'∧dF φ' h' w' (MM φ' h' M0) r e
def YEx(P:Program)(N:Nat)(b:Nat)(args:List AV)(dst:Option Tmp)(s:St)(K:St→Prop)(Q:AX→St→Prop):Prop :=
 ∀φ M0 D a w G,ZG φ M0 N D (look s.T) (look s.H) a w→Ql φ (look s.H) w (MM φ (look s.H) M0) args G→YAt P (φ b) G.toArray w fun e w' =>
  match e with
 |.returned v=>∃φ' s',K s'∧ZG φ' M0 N D (look s'.T) (look s'.H) (a.put dst v) w'∧Zl φ (look s.H) w φ' (look s'.H) w'
 |.panicked chain=>Post N D Q φ M0 (look s.H) w (.panic chain) a w'
 |.outgrown=>False
def yieldOf(T:Nat→Option AV):Op→Option (Nat×List AV)
|.call ⟨.value (.tmp t),args,_⟩ =>
  match T t with
 |some (.yv b)=>match Ep T args.toList with|some G=>some (b,G)|none=>none
 |_=>none
|_=>none
def YOp(P:Program)(N:Nat)(o:Oper)(s:St)(K:St→Prop)(Q:AX→St→Prop):Option (Nat×List AV)→Prop|some (b,args)=>YEx P N b args o.dst s K Q|none=>U7 P N o s K Q
def Y2(P:Program)(N:Nat)(ops:Array Oper)(Q:AX→St→Prop):List Oper→St→Prop
|[],s=>Q .normal s
|o::rest,s =>
  match ZV ops o (look s.T) with
 |some b=>Rm b (YOp P N o ⟨ZH ops o s.T true,s.H⟩ (Y2 P N ops Q rest) Q (yieldOf (look (ZH ops o s.T true)) o.op)) (K5 N o.dst=true∧Y2 P N ops Q rest (St.put ⟨ZH ops o s.T false,s.H⟩ o.dst (.p (.val undef))))
 |none=>False
theorem Kn{d:Option Tmp}(G:K5 N d=true):∀t,d=some t→t<N:=by
 rintro t rfl;simpa [K5] using G
theorem UJ{args:Array Value}(hf:(P.funcs[f]?).any (fun fn=>fn.body.isSome&&fn.name != "runtime.NumGoroutine")=true):(callFunc f args).run P w=.ok (.enter f args) w:=by
 cases hq:P.funcs[f]? with
|none=>simp[hq] at hf
|some fn =>
  simp only[hq,Option.any_some,KL,bne_iff_ne] at hf;have G:¬fn.body=none:=by intro hb;simp[hb] at hf
  simp[callFunc,program,Sem.run,hq,G,hf.2]
theorem Oper.wp_mono2{K K':Act→World→Prop}{Q:Exit→Act→World→Prop}(G:o.wp P a w K Q)(h:∀a w,K a w→K' a w)(O:∀e a w,Q e a w→Q' e a w):o.wp P a w K' Q':=by
 unfold Oper.wp at *;generalize (execOp a.eval o).run P w=r at *;cases r with
|ok n w' =>
  cases n<;>simp only[Oper.upon] at G ⊢ <;>
   first
   |exact h _ _ G
   |exact Calls.mono G (fun e w'' J=>by cases e<;>first|exact h _ _ J|exact O _ _ _ J|exact⟨_,_,O _ _ _ J.choose_spec.choose_spec⟩)
   |exact Rows.mono G (fun _ _ J=>h _ _ J)
|halt x w'=>cases x<;>simp only[Oper.upon] at G ⊢<;>exact O _ _ _ G
theorem MN(r:ZG φ M0 N D T h a w)(hf:KC T o.op=some (f,args))(hb:We P f=true):∃U:List Value,Ql φ h w (MM φ h M0) args U∧(execOp a.eval o).run P w=.ok (.enter f U.toArray) w:=by
 unfold KC at hf;split at hf
 ·rename_i f0 G ts Z;split at hf
  ·rename_i U J;simp only[Zf,DC] at hf;obtain⟨rfl,rfl⟩:=hf;refine⟨G.toList.map a.eval,FT r J,?_⟩;have e1:G.map a.eval=(G.toList.map a.eval).toArray:=by apply Array.ext';simp
   simp only[execOp,Z,resolve,Act.eval,Deferred.ofValue,Sem.run_bind,Sem.run_pure,Result.andThen_ok,invoke];rw[UJ hb];congr 2;rw[←e1];simp
  ·cases hf
 ·rename_i t G ts Z;split at hf
  ·rename_i f0 l m U ht J;simp only[Zf,DC] at hf;obtain⟨rfl,rfl⟩:=hf;have Y:=(r.tm t _ ht).2;simp only[Qg] at Y;obtain⟨l',m',h3,h4,h5⟩:=Y;refine⟨l'++G.toList.map a.eval++m',ZI (ZI h4 (FT r J)) h5,?_⟩;have O:a.eval (.tmp t)=.func (.func f0) l'.toArray m'.toArray:=h3;simp only[execOp,Z,resolve,O,Deferred.ofValue,Sem.run_bind,Sem.run_pure,Result.andThen_ok,invoke];rw[UJ hb];congr 2;apply Array.ext';simp
  ·rename_i f0 l m U ht J;simp only[Zf,DC] at hf;obtain⟨rfl,rfl⟩:=hf;have Y:=(r.tm t _ ht).2;simp only[Qg,Q6] at Y;refine⟨l.toList++G.toList.map a.eval++m.toList,ZI (ZI (FP _) (FT r J)) (FP _),?_⟩;have O:a.eval (.tmp t)=.func (.func f0) l m:=Y;simp only[execOp,Z,resolve,O,Deferred.ofValue,Sem.run_bind,Sem.run_pure,Result.andThen_ok,invoke];rw[UJ hb];congr 2;apply Array.ext';simp
  ·cases hf
 ·cases hf
theorem wh{u:Kt}(Y:K5 N o.dst=true)(O:K (XN s o.dst u))(Z:Yield P o φ M0 (look s.H) a w u.1 (ap (look s.H) u.2.1))(r:ZG φ M0 N D (look s.T) (look s.H) a w) :
  o.wp P a w (fun a' w'=>∃φ' s',K s'∧ZG φ' M0 N D (look s'.T) (look s'.H) a' w'∧Zl φ (look s.H) w φ' (look s'.H) w') (Post N D Q φ M0 (look s.H) w):=by
 obtain⟨nx,v,w',φ',h1,h2,h3,h4,J,h6⟩:=Z
 have G:look (XN s o.dst u).H=ap (look s.H) u.2.1:=by
  unfold XN ap;cases hq:u.2.1 with
 |none=>rfl
 |some bk=>rfl
 have U:ZG φ' M0 N D (look (XN s o.dst u).T) (look (XN s o.dst u).H) (a.put o.dst v) w':=by
  have r3:ZG φ' M0 N D (look s.T) (ap (look s.H) u.2.1) a w':=r.keep J h6 h4;rw[G];have:=ZG.put (s:=⟨s.T,(XN s o.dst u).H⟩) (d:=o.dst) (x:=u.1) (v:=v) (by rw[G];exact r3) (Kn Y) (by rw[G];exact h3);rw[←G];cases hq:o.dst with
 |none=>rw[hq] at this;exact this
 |some d=>rw[hq] at this;exact this
 unfold Oper.wp;rw[h1];rcases h2 with rfl|⟨rfl,rfl⟩
 ·exact⟨φ',_,O,U,by rw[G];exact J⟩
 ·exact⟨φ',_,O,U,by rw[G];exact J⟩
theorem dJ(h:dG P N o s K)(r:ZG φ M0 N D (look s.T) (look s.H) a w) :
  o.wp P a w (fun a' w'=>∃φ' s',K s'∧ZG φ' M0 N D (look s'.T) (look s'.H) a' w'∧Zl φ (look s.H) w φ' (look s'.H) w') (Post N D Q φ M0 (look s.H) w):=by
 obtain⟨_,Y,h⟩:=h;obtain⟨x,s1,Z,J,nx,v,w',φ',h1,h2,h3,h4,G,h6⟩:=h φ M0 D a w r;have r3:ZG φ' M0 N D (look s1.T) (look s1.H) a w':=by rw[Z];exact r.keep G h6 h4
 have O:ZG φ' M0 N D (look (s1.put o.dst x).T) (look (s1.put o.dst x).H) (a.put o.dst v) w':=ZG.put (s:=s1) (d:=o.dst) (x:=x) (v:=v) r3 (Kn Y) h3;have U:(s1.put o.dst x).H=s1.H:=by cases hq:o.dst<;>rfl
 unfold Oper.wp;rw[h1];rcases h2 with rfl|⟨rfl,rfl⟩
 ·exact⟨φ',_,J,O,by rw[U];exact G⟩
 ·exact⟨φ',_,J,O,by rw[U];exact G⟩
theorem Br(h:U7 P N o s K Q)(r:ZG φ M0 N D (look s.T) (look s.H) a w) :
  o.wp P a w (fun a' w'=>∃φ' s',K s'∧ZG φ' M0 N D (look s'.T) (look s'.H) a' w'∧Zl φ (look s.H) w φ' (look s'.H) w') (Post N D Q φ M0 (look s.H) w):=by
 unfold U7 at h;split at h
 ·rename_i c x y U;split at h
  ·rename_i b hc
   have G:∀z,IR N o s K (WY (look s.T) z)→BX (look s.T) c x y=WY (look s.T) z →
     o.wp P a w (fun a' w'=>∃φ' s',K s'∧ZG φ' M0 N D (look s'.T) (look s'.H) a' w'∧Zl φ (look s.H) w φ' (look s'.H) w') (Post N D Q φ M0 (look s.H) w):=by
    intro z J hp;cases hm:WY (look s.T) z with
   |none=>rw[hm] at J;exact J.elim
   |some u =>
     rw[hm] at J hp;have:=uS (P:=P) r U hp;exact wh J.1 J.2 (by rw[this.1];exact this.2.2) r
   refine Gx h (fun hb J=>G x J ?_) (fun hb J=>G y J ?_)
   ·subst hb;simp[BX,hc]
   ·subst hb;simp[BX,hc]
  ·exact h.elim
 ·rename_i y U;split at h
  ·rename_i t v hv;have Z:=r.ev hv;have Y:=Z;simp only[Qg] at Y;obtain⟨z,h3,h4⟩:=Y;unfold Oper.wp
   have:(execOp a.eval o).run P w=.halt (.panic (a.eval y)) w:=by
    simp[execOp,U,h3,Instr.panic,goPanic]
   rw[this];exact⟨φ,.panic (.ifc t v),s,h,r,Zl.refl _ _ _,_,rfl,Z⟩
  ·exact h.elim
 ·rename_i f aa ts U;split at h
  ·rename_i f0 args hf;obtain⟨hb,O⟩:=h;obtain⟨vs,h1,Z⟩:=MN (o:=o) r (by rw[U];exact hf) hb;unfold Oper.wp;rw[Z];simp only[Oper.upon];refine(O φ M0 D a w vs r h1).mono ?_;intro e w' he;cases e with
  |returned v=>exact he
  |panicked chain=>exact he
  |outgrown=>exact he.elim
  ·exact h.elim
 ·rcases h with h|h
  ·cases hu:V6 P o (look s.T) (look s.H) with
  |none=>rw[hu] at h;exact h.elim
  |some u=>rw[hu] at h;exact wh h.1 h.2 (dE r hu) r
  ·exact dJ h r
theorem QaU{K:Act→World→Prop}{Q:Exit→Act→World→Prop}(h:o.wp P a w K Q)(G:∀c,o.op≠.defer c):o.wpIn (wd ro) 0 P a w K Q:=by
 refine⟨fun _ _=>trivial,?_⟩;rw[Oper.semAt_eq _ _ _ G];unfold Oper.wp at h;generalize (execOp a.eval o).run P w=r at *;cases r with
|ok n w' =>
  cases n with
 |enter f args=>exact⟨(fun h=>by cases h),callsIn_wide.2 h⟩
 |row row args =>
   refine⟨(fun h=>by cases h),fun c cs _=>?_⟩;obtain⟨v,J,O,U⟩:=(h:Rows P row args w' _) c cs;exact⟨v,J,O,stepsIn_wide.2 U⟩
 |value v=>exact h
 |skip=>exact h
 |defer d=>exact h
 |_=>exact h.elim
|halt x w'=>cases x<;>first|exact h|exact h.elim
theorem dK(h:U7 P N o s K Q):∀c,o.op≠.defer c:=by
 intro c G;unfold U7 at h;simp only[G,V6] at h;rcases h with h|h
 ·exact h
 ·exact h.1 _ G
theorem dL{K:Act→World→Prop}{Q:Exit→Act→World→Prop}{l:Nat}{args:Array Value}(G:(execOp a.eval o).run P w=(Instr.yield l args).run P w)(J:∀c,o.op≠.defer c)(h:YAt P l args w fun
  |.returned v,w''=>K (a.put o.dst v) w''
  |.panicked chain,w''=>Q (.panic chain) a w''
  |.outgrown,_=>LetsOut Q):o.wpIn (wd ro) 0 P a w K Q:=by
 refine⟨fun _ _=>trivial,?_⟩;rw[Oper.semAt_eq _ _ _ J,G];obtain⟨fn,tmps,assign,body,O,U⟩:=h;rw[O];exact⟨(fun h=>by cases h),U⟩
theorem wm(r:ZG φ M0 N D T h a w)(hf:yieldOf T o.op=some (b,args)) :
  ∃J:List Value,Ql φ h w (MM φ h M0) args J∧(execOp a.eval o).run P w=(Instr.yield (φ b) J.toArray).run P w∧∀c,o.op≠.defer c:=by
 unfold yieldOf at hf;split at hf
 ·rename_i t G ts Y;split at hf
  ·rename_i b0 ht;split at hf
   ·rename_i J U;simp only[Zf,DC] at hf;obtain⟨rfl,rfl⟩:=hf;have Z:=(r.tm t _ ht).2;simp only[Qg] at Z;have O:a.eval (.tmp t)=.func (.yield (φ b0)) #[] #[]:=Z.1;refine⟨G.toList.map a.eval,FT r U,?_,fun c hc=>by rw[Y] at hc;cases hc⟩;have e1:G.map a.eval=(G.toList.map a.eval).toArray:=by apply Array.ext';simp
    simp only[execOp,Y,resolve,O,Deferred.ofValue,Sem.run_bind,Sem.run_pure,Result.andThen_ok,invoke];rw[←e1];simp
   ·cases hf
  ·cases hf
 ·cases hf
theorem Oper.wpIn_mono2{F:Fence}{K K':Act→World→Prop}{Q:Exit→Act→World→Prop}(G:o.wpIn F n P a w K Q)(h:∀a w,K a w→K' a w)(O:∀e a w,Q e a w→Q' e a w):o.wpIn F n P a w K' Q':=by
 unfold Oper.wpIn at *;refine⟨G.1,?_⟩;have G:=G.2;generalize (o.semAt F.round a.eval).run P w=r at *;cases r with
|ok x w' =>
  cases x<;>simp only[Oper.uponIn] at G ⊢ <;>
   first
   |exact h _ _ G
   |exact⟨G.1,CallsIn.mono G.2 (fun e w'' J=>by cases e<;>first|exact h _ _ J|exact O _ _ _ J|exact⟨_,_,O _ _ _ J.choose_spec.choose_spec⟩)⟩
   |exact⟨G.1,RowsIn.mono G.2 (fun _ _ J=>h _ _ J)⟩
   |exact⟨G.1,RoundIn.mono G.2 (fun e w'' J=>by cases e<;>first|exact h _ _ J|exact O _ _ _ J|exact⟨_,_,O _ _ _ J.choose_spec.choose_spec⟩)⟩
|halt x w'=>cases x<;>simp only[Oper.uponIn] at G ⊢<;>exact O _ _ _ G
theorem QbA(h:YOp P N o s K Q (yieldOf (look s.T) o.op))(r:ZG φ M0 N D (look s.T) (look s.H) a w) :
  o.wpIn (wd ro) 0 P a w (fun Y w'=>∃φ' s',K s'∧ZG φ' M0 N D (look s'.T) (look s'.H) Y w'∧Zl φ (look s.H) w φ' (look s'.H) w') (Post N D Q φ M0 (look s.H) w):=by
 cases hy:yieldOf (look s.T) o.op with
|none=>rw[hy] at h;exact QaU (Br h r) (dK h)
|some p =>
  obtain⟨b,args⟩:=p;rw[hy] at h;obtain⟨U,J,Z,O⟩:=wm (P:=P) (w:=w) r hy;refine dL Z O ?_;obtain⟨fn,tmps,assign,body,g1,g2⟩:=h φ M0 D a w U r J;refine⟨fn,tmps,assign,body,g1,g2.mono ?_⟩;intro e w' G;cases e with
 |returned v=>exact G
 |panicked chain=>exact G
 |outgrown=>exact G.elim
theorem IU{P:Program}{N:Nat}{ro:Option Nat}{D:DB}{ops:Array Oper}{Q:AX→St→Prop}:∀(l:List Oper) (k:Nat) (s:St) (φ0:Nat→Nat) (h0:QY) (w0:World) (φ:Nat→Nat) (M0:ZQ) (a:Act) (w:World),
  (∀j,l[j]?=ops[k+j]?)→Zl φ0 h0 w0 φ (look s.H) w→ZG φ M0 N D (look s.T) (look s.H) a w→Y2 P N ops Q l s →
  wpOpsIn (wd ro) 0 P ops (Post N D Q φ0 M0 h0 w0) ((List.range l.length).map (k+·)) a w
|[],k,s,φ0,h0,w0,φ,M0,a,w,O,E,r,h=>⟨φ,.normal,s,h,r,E,rfl⟩
|o::l,k,s,φ0,h0,w0,φ,M0,a,w,O,E,r,h=>by
  have Z:ops[k]?=some o:=by simpa using (O 0).symm
  have Y:(List.range (o::l).length).map (k+·)=k::(List.range l.length).map (k+1+·):=by
   simp only[lU,List.range_succ_eq_map,U8,List.map_map,Nat.add_zero,List.cons.injEq,true_and];apply List.map_congr_left;intro j _;simp;omega
  rw[Y];simp only[wpOpsIn,Z];have G:∀j,l[j]?=ops[k+1+j]?:=fun j=>by have:=O (j+1);rwa [show k+(j+1)=k+1+j from by omega] at this
  simp only[Y2] at h;split at h
  ·rename_i b hw;rw[FY r hw];refine Gx h (fun hb g=>?_) (fun hb g=>?_)
   ·subst hb;simp only[if_true];have J:=Hu hw;have r1:ZG φ M0 N D (look (ZH ops o s.T true)) (look s.H) a w:=by rw[J];exact r
    refine Go.Abs.Oper.wpIn_mono2 (QbA (s:=⟨ZH ops o s.T true,s.H⟩) g r1) ?_ ?_
    ·rintro U w' ⟨φ',s',h2,h3,h4⟩;exact IU l (k+1) s' φ0 h0 w0 φ' M0 U w' G (E.trans h4) h3 h2
    ·intro e U w' p;exact p.trans E
   ·subst hb;simp only[Bool.false_eq_true,if_false];have J:=Hu hw;have r1:ZG φ M0 N D (look (ZH ops o s.T false)) (look s.H) a w:=by rw[J];exact r
    refine⟨fun _ _=>trivial,IU l (k+1) _ φ0 h0 w0 φ M0 _ w G ?_ (ZG.put (s:=⟨ZH ops o s.T false,s.H⟩) r1 (Kn g.1) (by simp[Qg,Q6])) g.2⟩;cases o.dst<;>exact E
  ·exact h.elim
def Gj(ops:Array Oper):Bool:=ops.toList.all fun o=>match o.op with|.defer _=>false|_=>true
theorem MO{P:Program}{ro:Option Nat}{ops:Array Oper}{Q:Exit→Act→World→Prop}(O:Gj ops=true)(U:¬LetsOut Q):∀(G:Nat) (listed:Array Bool) (a:Act) (w:World),wpAny P .any ops Q G listed a w→wpAnyIn (wd ro) 0 P .any ops Q G listed a w
|0,listed,a,w,h=>h
|G+1,listed,a,w,h=>by
  refine⟨h.1,fun i hi=>?_⟩;have J:=h.2 i hi;unfold wpOp at J;unfold wpOpIn;cases ho:ops[i]? with
 |none=>simp only[ho] at J ⊢;exact MO O U G _ a w J
 |some o =>
   simp only[ho] at J ⊢
   have Y:∀c,o.op≠.defer c:=by
    intro c hc;have:=Gp.1 O o (by have:=Array.mem_of_getElem? ho;simpa using this);simp[hc] at this
   split at J
   ·rename_i hw;simp only[hw,if_true];rcases J with Z|Z
    ·exact QaU (Oper.wp_mono (fun a w=>MO O U G _ a w) Z) Y
    ·exact absurd Z.2 U
   ·rename_i hw;simp only[hw];exact⟨fun _ _=>trivial,MO O U G _ _ w J⟩
theorem Ju:¬LetsOut (Post N D Q φ M0 h w):=by
 rintro⟨a,w',φ',x,s',Y,U,O,G⟩;cases x with
|normal=>cases G
|exit i=>cases G
|ret=>cases G
|panic v=>obtain⟨u,J,_⟩:=G;cases J
theorem zh(h:Y2 P N ops Q ops.toList s):Ex P N ro (.region id ops false) s Q:=by
 intro φ M0 D a w r;refine wpIn_region ?_;have:=IU (ro:=ro) ops.toList 0 s φ (look s.H) w φ M0 a w zq (Zl.refl _ _ _) r h;simpa using this
section
variable {P:Program}{o:Oper}{T T':Nat→Option AV}{h h':QY}
theorem FZ:∀{l:List Operand},(∀x∈l,Zo T' x=Zo T x)→Ep T' l=Ep T l
|[],_=>rfl
|x::l,G=>by simp only[Ep,G x zq,FZ (l:=l) (fun y J=>G y (by simp[J]))]
theorem TG:∀{l:List (Nat×Operand)},(∀x∈l.map (·.2),Zo T' x=Zo T x)→Iq T' l=Iq T l
|[],_=>rfl
|(i,x)::l,G=>by simp only[Iq,G x zq,TG (l:=l) (fun y J=>G y (by simp at J ⊢;exact .inr J))]
theorem wo(hs:∀x∈o.op.operands,Zo T' x=Zo T x):U9 P T' o=U9 P T o:=by
 have J:∀x∈o.op.operands.toList,known T' x=known T x:=fun x G=>by unfold known;rw[hs x (by simpa using G)]
 have U:allKnown T' o.op.operands.toList=allKnown T o.op.operands.toList:=by
  have:∀l:List Operand,(∀x∈l,known T' x=known T x)→allKnown T' l=allKnown T l:=by
   intro l
   induction l with
  |nil=>intro _;rfl
  |cons x l Z=>intro O;simp only[allKnown,O x zq,Z (fun y Y=>O y (by simp[Y]))]
  exact this _ J
 unfold U9;rw[U];split
 ·rename_i hc;simp only[KL] at hc
  rw[execOp_congr (ρ:=fun x=>(known T' x).getD undef) (ρ':=fun x=>(known T x).getD undef) o (fun cs b e=>by rw[e] at hc;simp[UA] at hc) (fun x G=>by
   show(known T' x).getD undef=(known T x).getD undef;rw[J x (by simpa using G)])]
 ·rfl
theorem Cb{x:Option Operand}(G:∀y,x=some y→Zo T' y=Zo T y):WR T' d x=WR T d x:=by
 cases x with
|none=>rfl
|some y=>simp only[WR,G y rfl]
theorem IV{u:Kt}{t:TypeId}{i:Operand}(G:Xv P T h t x i ok=some u)(hx:Zo T' x=Zo T x)(hi:Zo T' i=Zo T i)(hh:∀b∈u.2.2,h' b=h b) :
  Xv P T' h' t x i ok=some u∧Ud P T' h' t x i ok=none:=by
 unfold Xv at G;split at G;rotate_left
 ·cases G
 rename_i kt e b s Z U O;split at G;rotate_left
 ·cases G
 rename_i es hb Y
 have hu:u.2.2=[b]:=by
  split at G
  ·simp only[Zf] at G;subst G;rfl
  ·split at G
   ·simp only[Zf] at G;subst G;rfl
   ·cases G
 have J:h' b=some (.mf es):=by rw[hh b (by rw[hu];simp)];exact hb
 constructor
 ·simp only[Xv,Z,hx,hi,U,O,J,Y];exact G
 ·simp[Ud,Z,hx,hi,U,O,J]
theorem IW{u:Kt}{t:TypeId}{i:Operand}(G:Xw P T h t x i y=some u)(hn:VR P T h t x i y=none)(hx:Zo T' x=Zo T x)(hi:Zo T' i=Zo T i)(hy:Zo T' y=Zo T y)(hh:∀b∈u.2.2,h' b=h b) :
  Xw P T' h' t x i y=some u∧VR P T' h' t x i y=none:=by
 unfold Xw at G;split at G;rotate_left
 ·cases G
 rename_i kt e b s v ht Y U J;split at G;rotate_left
 ·cases G
 rename_i es hb Z
 have hu:u.2.2=[b]:=by
  split at G
  ·simp only[Zf] at G;subst G;rfl
  ·cases G
 have O:h' b=h b:=hh b (by rw[hu];simp);constructor
 ·simp only[Xw,ht,hx,hi,hy,Y,U,J,O,Z,hb];exact G
 ·rw[←hn];simp only[VR,ht,hx,hi,hy,Y,U,J,O]
theorem IX{u:Kt}{t:TypeId}{i:Operand}(G:Ht P T h t x i=some u)(hx:Zo T' x=Zo T x)(hi:Zo T' i=Zo T i)(hh:∀b∈u.2.2,h' b=h b):Ht P T' h' t x i=some u:=by
 unfold Ht at G;split at G;rotate_left
 ·cases G
 rename_i kt e b s Z U O;split at G;rotate_left
 ·cases G
 rename_i es hb Y
 have hu:u.2.2=[b]:=by
  split at G
  ·simp only[Zf] at G;subst G;rfl
  ·cases G
 have J:h' b=some (.mf es):=by rw[hh b (by rw[hu];simp)];exact hb
 simp only[Ht,Z,hx,hi,U,O,J,Y];exact G
theorem kS{u:Kt}{t:TypeId}{i:Operand}(G:Ud P T h t x i ok=some u)(hx:Zo T' x=Zo T x)(hi:Zo T' i=Zo T i)(Y:∀b∈u.2.2,h' b=h b):Ud P T' h' t x i ok=some u:=by
 simp only[Ud,hx,hi] at G ⊢;split at G
 ·rename_i kt e b kv _ _ _;have hb:∀es,h b=some (.mp es)→u.2.2=[b]→h' b=some (.mp es):=fun es U Z=>by rw[Y b (by rw[Z];simp)];exact U
  split at G
  ·rename_i es k kd J _ _;split at G
   ·rename_i O
    have:u.2.2=[b]:=by
     split at G
     ·simp only[Zf] at G;subst G;rfl
     ·split at G
      ·simp only[Zf] at G;subst G;rfl
      ·cases G
     ·cases G
    simp only[hb es J this, *,if_true]
   ·cases G
  ·cases G
 ·cases G
theorem Ak{u:Kt}{t:TypeId}{i:Operand}(G:VR P T h t x i y=some u)(hx:Zo T' x=Zo T x)(hi:Zo T' i=Zo T i)(U:Zo T' y=Zo T y)(Z:∀b∈u.2.2,h' b=h b):VR P T' h' t x i y=some u:=by
 simp only[VR,hx,hi,U] at G ⊢;split at G
 ·rename_i kt e b kv y0 _ _ _ _;have hb:∀es,h b=some (.mp es)→u.2.2=[b]→h' b=some (.mp es):=fun es Y h2=>by rw[Z b (by rw[h2];simp)];exact Y
  split at G
  ·rename_i es k kd v J _ _ _;split at G
   ·rename_i O
    have:u.2.2=[b]:=by
     split at G
     ·simp only[Zf] at G;subst G;rfl
     ·simp only[Zf] at G;subst G;rfl
     ·cases G
    simp only[hb es J this, *,if_true]
   ·cases G
  ·cases G
 ·cases G
theorem zi{x y:Option Kt}{u:Kt}(G:FX x y=some u):x=some u∨x=none∧y=some u:=by
 unfold FX at G;split at G
 ·exact .inl G
 ·exact .inr ⟨rfl,G⟩
theorem nG{u:Kt}(G:V6 P o T h=some u)(hs:∀x∈o.op.operands,Zo T' x=Zo T x)(O:∀b∈u.2.2,h' b=h b):V6 P o T' h'=some u:=by
 have hp:=wo (P:=P) hs;unfold V6 at G ⊢;generalize ar:o.op=q at G hs ⊢;cases q
 case move x=>simp only[WY,hs x (by simp[Op.operands])] at G ⊢;exact G
 case assign x=>simp only[WY,hs x (by simp[Op.operands])] at G ⊢;exact G
 case pick c x y=>simp only[BX,WY,hs c (by simp[Op.operands]),hs x (by simp[Op.operands]),hs y (by simp[Op.operands])] at G ⊢;exact G
 case alloc ty =>
  simp only at G ⊢;split at G
  ·split at G
   ·unfold qx at G ⊢;split at G
    ·rename_i d cs hd ai;split at G
     ·rename_i Z;simp only[Zf] at G;subst G;rw[O d zq,Z]
     ·cases G
    ·cases G
   ·cases G
  ·cases G
 case box ty x =>
  simp only[hs x (by simp[Op.operands])] at G ⊢;split at G
  ·unfold qx at G ⊢;split at G
   ·rename_i d cs hd ai;split at G
    ·rename_i Z;simp only[Zf] at G;subst G;rw[O d zq,Z]
    ·cases G
   ·cases G
  ·cases G
 case build t ps =>
  simp only[Ir,TG (T':=T') (T:=T) (l:=ps.toList) (fun x J=>hs x (by simpa [Op.operands] using J))] at G ⊢;exact G
 case makeMap t rsv =>
  simp only[D6] at G ⊢;split at G
  ·rename_i d hd;split at G
   ·rename_i Z;simp only[Zf] at G;subst G;have:h' d=none:=by rw[O d zq];exact Z
    simp[this]
   ·cases G
  ·cases G
 case lookup t x i ok =>
  have J:=hs x (by simp[Op.operands]);have hi:=hs i (by simp[Op.operands]);rcases zi G with h1|⟨_,h1⟩
  ·simp only[FX,kS h1 J hi O]
  ·obtain⟨h2,h3⟩:=IV h1 J hi O;simp only[FX,h2,h3]
 case mapUpdate t x i y =>
  have J:=hs x (by simp[Op.operands]);have hi:=hs i (by simp[Op.operands]);have Y:=hs y (by simp[Op.operands]);rcases zi G with h1|⟨h0,h1⟩
  ·simp only[FX,Ak h1 J hi Y O]
  ·obtain⟨h2,h3⟩:=IW h1 h0 J hi Y O;simp only[FX,h2,h3]
 case makeSlice t x y=>exact vS G (hs x (by simp[Op.operands])) (hs y (by simp[Op.operands])) O
 case buildSlice t n ps =>
  simp only at G ⊢;split at G
  ·rename_i hn;rw[if_pos hn];exact xy G O
  rename_i hn;rw[if_neg hn];rw[nE (T:=T) (l:=ps.toList) (fun x J=>hs x (by simpa [Op.operands] using J))];split at G
  ·rename_i hB;rw[if_pos hB];simp only[Gu,TG (T':=T') (T:=T) (l:=ps.toList) (fun x J=>hs x (by simpa [Op.operands] using J))] at G ⊢;split at G
   ·rename_i e d qs _ _ _;split at G
    ·rename_i i _;split at G
     ·rename_i z Z hd;split at G
      ·rename_i zs ad;split at G
       ·rename_i ac;split at G
        ·rename_i rs ab;split at G
         ·rename_i hc;simp only[Zf] at G;subst G;simp only[O d zq,hd,Z,ad];rw[if_pos ac];simp only[ab];rw[if_pos hc]
         ·cases G
        ·cases G
       ·cases G
      ·cases G
     ·cases G
    ·cases G
   ·cases G
  rename_i hB;rw[if_neg hB];simp only[Gs,TG (T':=T') (T:=T) (l:=ps.toList) (fun x J=>hs x (by simpa [Op.operands] using J))] at G ⊢;split at G
  ·rename_i e d qs _ _ _;split at G
   ·rename_i i _;split at G
    ·rename_i z Z hd;split at G
     ·rename_i zs ad;split at G
      ·rename_i ac;split at G
       ·rename_i rs ab;split at G
        ·rename_i pvs an;split at G
         ·rename_i hc;simp only[Zf] at G;subst G;simp only[O d zq,hd,Z,ad];rw[if_pos ac];simp only[ab,an];rw[if_pos hc]
         ·cases G
        ·cases G
       ·cases G
      ·cases G
     ·cases G
    ·cases G
   ·cases G
  ·cases G
 case load ty x =>
  have J:=hs x (by simp[Op.operands]);simp only at G ⊢;rw[J];split at G
  ·rename_i U;rw[if_pos U];exact vR G J O
  rename_i U;rw[if_neg U];simp only[Sv,hs x (by simp[Op.operands])] at G ⊢;split at G
  ·split at G
   ·rename_i b off J;split at G
    ·rename_i tb cs hb
     have ao:h' b=some (.box tb cs):=by
      rw[←hb];refine O b ?_;split at G
      ·split at G
       ·simp only[Zf] at G;subst G;simp
       ·cases G
      ·split at G
       ·simp only[Zf] at G;subst G;simp
       ·cases G
     simp only[ao];exact G
    ·cases G
   ·exact G
   ·cases G
  ·cases G
 case store ty x y =>
  have J:=hs x (by simp[Op.operands]);have Y:=hs y (by simp[Op.operands]);simp only at G ⊢;rw[J];split at G
  ·rename_i U;rw[if_pos U];exact kK G J Y O
  rename_i U;rw[if_neg U];simp only[Io,hs x (by simp[Op.operands]),hs y (by simp[Op.operands])] at G ⊢;split at G
  ·rename_i i b off v _ _ _;split at G
   ·rename_i tb cs vs hb aj;split at G
    ·rename_i hc;simp only[Zf] at G;subst G;simp only[O b zq,hb,aj];rw[if_pos hc]
    ·cases G
   ·cases G
  ·cases G
 case nilCheck x =>
  have J:=hs x (by simp[Op.operands]);simp only at G ⊢;rw[J];split at G
  ·rename_i U;rw[if_pos U];exact xw G J O
  rename_i U;rw[if_neg U];simp only[Hm,J] at G ⊢;rw[hp];exact G
 case fieldAddr t x f =>
  have J:=hs x (by simp[Op.operands]);simp only at G ⊢;rw[J];split at G
  ·rename_i U;rw[if_pos U];exact Ew G J O
  rename_i U;rw[if_neg U];simp only[Un,J] at G ⊢;exact G
 case field t x f=>simp only[Ip,hs x (by simp[Op.operands])] at G ⊢;exact G
 case indexAddr t x i =>
  have J:=hs x (by simp[Op.operands]);have hi:=hs i (by simp[Op.operands]);simp only at G ⊢;rw[J];split at G
  ·rename_i U;rw[if_pos U];exact Eu G J hi O
  rename_i U;rw[if_neg U];have e1:Js P T' t x i=Js P T t x i:=by simp only[Js,J,hi]
  have e2:Xf P T' t x i=Xf P T t x i:=by simp only[Xf,J,hi]
  rw[e1,e2];exact Gv G fun G=>Gv G fun G=>Ey G J hi O
 case index t x i=>simp only[Eo,Bl,hs x (by simp[Op.operands]),hs i (by simp[Op.operands])] at G ⊢;rw[hp];exact G
 case slice t x lo hi mx =>
  have e1:∀d,WR T' d lo=WR T d lo:=fun d=>Cb (fun y Y=>hs y (by simp[Op.operands,Y]))
  have e2:∀d,WR T' d hi=WR T d hi:=fun d=>Cb (fun y Y=>hs y (by simp[Op.operands,Y]))
  have e3:∀d,WR T' d mx=WR T d mx:=fun d=>Cb (fun y Y=>hs y (by simp[Op.operands,Y]))
  have J:=hs x (by simp[Op.operands]);have e4:Hq P T' t x lo hi mx=Hq P T t x lo hi mx:=by simp only[Hq,J,e1,e2,e3]
  simp only[e4] at G ⊢;rw[hp];exact Gv G fun G=>Gv G fun G=>kM G J e1 e2 O
 case extract x i=>simp only[FR,hs x (by simp[Op.operands])] at G ⊢;exact G
 case makeFunc f a b =>
  simp only[RX,FZ (T':=T') (T:=T) (l:=a.toList) (fun x J=>hs x (by simp[Op.operands] at J ⊢;exact .inl J)),FZ (T':=T') (T:=T) (l:=b.toList) (fun x J=>hs x (by simp[Op.operands] at J ⊢;exact .inr J))] at G ⊢;exact G
 case makeInterface t x=>simp only[Xc,hs x (by simp[Op.operands])] at G ⊢;exact G
 case typeAssert x xt t ok=>simp only[Gq,hs x (by simp[Op.operands])] at G ⊢;exact G
 case binOp op tx x y ty =>
  have J:=hs x (by simp[Op.operands]);have Y:=hs y (by simp[Op.operands]);have e1:Et T' op x y=Et T op x y:=by simp only[Et,J,Y]
  have e2:lN P T' op tx x y=lN P T op tx x y:=by simp only[lN,vT,J,Y]
  simp only[e1,e2,hp] at G ⊢
  have last:Ez P T h op tx x y=some u→Ez P T' h' op tx x y=some u:=by
   intro G;unfold Ez at G ⊢;rw[J,Y];split at G
   ·rename_i e S es t m k _ _ _;split at G
    ·rename_i ta Sa n hb;split at G
     ·rename_i ah
      have:h' t=some (.arr ta Sa n):=by
       rw[O t ?_]
       ·exact hb
       ·split at G
        ·simp only[Zf] at G;subst G;simp
        ·simp only[Zf] at G;subst G;simp
        ·cases G
      simp only[this,ah];exact G
     ·cases G
    ·cases G
   ·cases G
  cases q1:Et T op x y with
 |some z=>rw[q1] at G;exact G
 |none =>
   rw[q1] at G;cases q2:lN P T op tx x y with
  |some z=>rw[q2] at G;exact G
  |none =>
    rw[q2] at G;cases q3:U9 P T o with
   |some z=>rw[q3] at G;exact G
   |none =>
     rw[q3] at G;exact last G
 case unOp op tx x=>simp only[aUn,hs x (by simp[Op.operands])] at G ⊢;rw[hp];exact G
 case convert src dst x=>simp only[vN,hs x (by simp[Op.operands])] at G ⊢;rw[hp];exact G
 case call c =>
  obtain⟨callee,args,types⟩:=c;cases callee
  case builtin b =>
   cases b
   case len =>
    simp only at G ⊢;split at G
    ·rename_i x t;have J:=hs x (by simp[Op.operands,Call.operands]);rw[J];split at G
     ·rename_i U;rw[if_pos U];exact xx G J O
     rename_i U;rw[if_neg U];have e1:vL P T' t x=vL P T t x:=by simp only[vL,J]
     have e2:SE P T' t x=SE P T t x:=by simp only[SE,J]
     have e3:vY P T' t x=vY P T t x:=by simp only[vY,J]
     rw[e1,e2,e3,hp];exact Gv G fun G=>Gv G fun G=>Gv G fun G=>Gv G fun G=>xz G J O
    ·cases G
   case delete =>
    simp only at G ⊢;split at G
    ·exact IX G (hs _ (by simp[Op.operands,Call.operands])) (hs _ (by simp[Op.operands,Call.operands])) O
    ·cases G
   case append =>
    simp only at G ⊢;split at G
    ·rename_i s x t t';split at G
     ·rename_i ht;subst ht;simp only[if_true];have ae:=hs s (by simp[Op.operands,Call.operands]);have aq:=hs x (by simp[Op.operands,Call.operands]);rw[ae];split at G
      ·rename_i U;rw[if_pos U];exact qE G ae aq O
      rename_i U;rw[if_neg U];simp only[LK,hs s (by simp[Op.operands,Call.operands]),hs x (by simp[Op.operands,Call.operands])] at G ⊢;split at G
      ·split at G
       ·split at G
        ·split at G
         ·rename_i ak;simp only[ak,and_self,if_true];split at G
          ·rename_i hn;simp only[hn,if_true];split at G
           ·rename_i aa;simp only[aa,if_true] at G ⊢;exact G
           ·rename_i aa;simp only[aa,if_false];split at G
            ·rename_i d hd;split at G
             ·rename_i hc;simp only[Zf] at G;subst G;have:h' d=none:=by rw[O d zq];exact hc.1
              simp[this,hc.2]
             ·cases G
            ·cases G
          ·rename_i hn;simp only[hn];split at G
           ·rename_i S es tk _;split at G
            ·rename_i ty S' n al
             have af:h' tk=some (.arr ty S' n):=by
              rw[←al];refine O tk ?_;split at G
              ·simp only[Zf] at G;subst G;simp
              ·split at G
               ·simp only[Zf] at G;subst G;simp
               ·cases G
             simp only[af];exact G
            ·cases G
           ·cases G
         ·cases G
        ·cases G
       ·cases G
      ·cases G
     ·cases G
    ·cases G
   case clear =>
    simp only at G ⊢;split at G
    ·exact kN G (hs _ (by simp[Op.operands,Call.operands])) O
    ·cases G
   case max=>simp only at G ⊢;rw[hp];exact G
   case min=>simp only at G ⊢;rw[hp];exact G
   all_goals cases G
  all_goals cases G
 all_goals cases G
end
def UG{α:Type}(F:Nat→Option α):Option (Nat×α)→Nat→Option α|none=>F|some (b,v)=>fun t=>if b=t then some v else F t
def vF{α:Type}:List (Option (Nat×α))→(Nat→Bool)→(Nat→Option α)→Nat→Option α|[],_,F=>F|c::G,L,F=>vF G (fun j=>L (j+1)) (if L 0 then UG F c else F)
theorem UK{α:Type}{t:Nat}:∀(J:List (Option (Nat×α))) (L O:Nat→Bool) (F U:Nat→Option α),F t=U t→(∀(j:Nat) v,J[j]?=some (some (t,v))→L j=O j)→vF J L F t=vF J O U t
|[],_,_,_,_,G,_=>G
|c::J,L,O,F,U,G,Y=>by
  simp only[vF];refine UK J _ _ _ _ ?_ (fun j v hj=>Y (j+1) v (by simpa using hj));cases c with
 |none=>simp only[UG];split<;>split<;>exact G
 |some Z =>
   obtain⟨b,v⟩:=Z;by_cases e:b=t
   ·have:=Y 0 v (by simp[e]);rw[this];split
    ·simp[UG,e]
    ·exact G
   ·split<;>split<;>simp[UG,e,G]
theorem uX{α:Type}{t:Nat}{v:α}:∀(G:List (Option (Nat×α))) (L:Nat→Bool) (F:Nat→Option α) (i:Nat),G[i]?=some (some (t,v))→L i=true→(∀(j:Nat) u,i<j→G[j]?=some (some (t,u))→L j=false)→vF G L F t=some v
|[],_,_,i,hi,_,_=>by simp at hi
|c::G,L,F,0,hi,O,U=>by
  simp only[List.getElem?_cons_zero,Zf] at hi;subst hi;simp only[vF,O,if_true];rw[UK G (fun j=>L (j+1)) (fun _=>false) _ (fun _=>some v) (by simp[UG]) (fun j u J=>U (j+1) u zo (by simpa using J))]
  have:∀(G:List (Option (Nat×α))) (F:Nat→Option α),vF G (fun _=>false) F=F:=by
   intro G
   induction G with
  |nil=>intro F;rfl
  |cons c G Z=>intro F;simp only[vF,Bool.false_eq_true,if_false];exact Z F
  rw[this]
|c::G,L,F,i+1,hi,O,U=>by
  simp only[vF];exact uX G (fun j=>L (j+1)) _ i (by simpa using hi) O (fun j u Y J=>U (j+1) u zo (by simpa using J))
theorem kT(J:List (Option (Nat×α)))(L:Nat→Bool)(F:Nat→Option α)(i:Nat)(c:Option (Nat×α))(hi:J[i]?=some c)(Z:∀b v,c=some (b,v)→∀(j:Nat) u,i<j→J[j]?=some (some (b,u))→L j=false) :
  vF J (fun j=>L j||decide (j=i)) F=UG (vF J L F) c:=by
 funext t;cases c with
|none =>
  refine UK J _ _ _ _ rfl (fun j v G=>?_);have:j≠i:=fun e=>by rw[e,hi] at G;cases G
  simp[this]
|some U =>
  obtain⟨b,v⟩:=U;by_cases e:b=t
  ·subst e;simp only[UG,if_true];refine uX J _ F i hi zq (fun j u O G=>?_);have:=Z b v rfl j u O G;have h2:j≠i:=by omega
   simp[this,h2]
  ·simp only[UG,e,if_false];refine UK J _ _ _ _ rfl (fun j u G=>?_);have:j≠i:=fun Y=>by rw[Y,hi] at G;cases G;exact e rfl
   simp[this]
theorem kU(G:List (Option (Nat×α)))(L J:Nat→Bool)(F:Nat→Option α)(U:∀j,j<G.length→L j=J j):vF G L F=vF G J F:=by
 funext t;exact UK G L J F F rfl (fun j v O=>U j (MG.1 O).1)
theorem Ue{α:Type}:∀(G:List (Option (Nat×α))) (L:Nat→Bool) (F:Nat→Option α),(∀j,j<G.length→L j=false)→vF G L F=F
|[],_,_,_=>rfl
|c::G,L,F,J=>by
  simp only[vF,J 0 zq,Bool.false_eq_true,if_false];exact Ue G _ F (fun j O=>J (j+1) (by simp;omega))
structure Ev where
 x:AV
 wr:Option (Nat×Blk)
 rd:List Nat
def wT(o:Oper)(e:Ev):Option (Nat×AV):=o.dst.map fun d=>(d,e.x)
def pvs(G:List Value):List AV:=G.map fun v=>.p (.val v)
def Qdl(G:List AV→AV):Prop:=∀(φ:Nat→Nat) (h:QY) (w:World) (M:ZQ) (args:List AV) (J:List Value) (v:Value),Ql φ h w M args J→Qg φ h w M (G (pvs J)) v→Qg φ h w M (G args) v
def dM:AV→Bool|.tsl _ _ _=>true|.p (.sl _ _)=>true|_=>false
def SlV(G:List Value):Prop:=∀v∈G,∃a l c,v=Value.slice a l c
theorem uY{φ:Nat→Nat}{h:QY}{w:World}{M:ZQ}:∀{xs:List AV} {Y:List Value},xs.all dM=true→Ql φ h w M xs Y→SlV Y
|[],Y,_,J=>by simp only[Ql] at J;subst J;intro v G;cases G
|x::xs,Y,O,J=>by
  simp only[Ql] at J;obtain⟨y,ys,rfl,U,Z⟩:=J;simp only[List.all_cons,KL] at O;intro v G;rcases List.mem_cons.1 G with rfl|G
  ·have hp:∀S es,Q6 w M (.sl S es) v→∃a l c,v=Value.slice a l c:=by
    intro S es hp;simp only[Q6] at hp;rcases hp with⟨r,o,cap,e,_⟩|⟨_,a,cap,e⟩
    ·exact⟨_,_,_,e⟩
    ·exact⟨_,_,_,e⟩
   cases x with
  |tsl S es t=>simp only[Qg] at U;exact hp S es U.1
  |p q =>
    cases q with
   |sl S es=>simp only[Qg] at U;exact hp S es U
   |_=>simp[dM] at O
  |_=>simp[dM] at O
  ·exact uY O.2 Z v G
def Step1(P:Program)(N:Nat)(ops:Array Oper)(o:Oper)(T:Nat→Option AV)(h:QY)(e:Ev):Prop :=
  K5 N o.dst=true ∧
  ((ZV ops o T=some false∧e=⟨.p (.val undef),none,[]⟩) ∨
   (ZV ops o T=some true∧V6 P o T h=some (e.x,e.wr,e.rd)) ∨
   (ZV ops o T=some true∧∃f args args',KC T o.op=some (f,args)∧(P.funcs[f]?).any (fun fn=>fn.body.isSome&&fn.name != "runtime.NumGoroutine")=true∧NS args args'∧VG args'=true ∧
     QV P f args' (.ret e.x)∧YN e.x=true∧e.wr=none∧e.rd=[]) ∨
   (ZV ops o T=some true∧∃(f:FuncId) (args:List AV) (J:List AV→AV),KC T o.op=some (f,args)∧(P.funcs[f]?).any (fun fn=>fn.body.isSome&&fn.name != "runtime.NumGoroutine")=true ∧
     args.all dM=true∧(∀G:List Value,SlV G→G.length=args.length→QV P f (pvs G) (.ret (J (pvs G))))∧(∀G,YN (J (pvs G))=true)∧Qdl J∧e.x=J args∧e.wr=none∧e.rd=[]))
theorem nH(G:∀t∈o.looksAt ops,T' t=T t):∀x∈o.op.operands,Zo T' x=Zo T x:=by
 intro x J;cases x with
|tmp t=>exact G t (List.mem_append_left _ (List.mem_filterMap.2 ⟨.tmp t,by simpa using J,rfl⟩))
|_=>rfl
theorem ww(G:∀t∈o.looksAt ops,T' t=T t):ZV ops o T'=ZV ops o T:=by
 unfold ZV;cases hg:o.guard with
|none=>rfl
|some O =>
  obtain⟨g,want⟩:=O;simp only;cases hj:ops[g]? with
 |none=>rfl
 |some J =>
   simp only;cases hd:J.dst with
  |none=>rfl
  |some d =>
    simp only;rw[G d (by simp[Oper.looksAt,hg,hj,hd])]
theorem kV(hs:∀x∈o.op.operands,Zo T' x=Zo T x):KC T' o.op=KC T o.op:=by
 unfold KC;split
 ·rename_i f args ts J;rw[FZ (fun x G=>hs x (by rw[J];simp[Op.operands,Call.operands] at G ⊢;exact .inr G))]
 ·rename_i t args ts J;have O:T' t=T t:=hs (.tmp t) (by rw[J];simp[Op.operands,Call.operands]);rw[O,FZ (fun x G=>hs x (by rw[J];simp[Op.operands,Call.operands] at G ⊢;exact .inr G))]
 ·rfl
theorem Step1.loc{e:Ev}(s:Step1 P N ops o T h e)(J:∀t∈o.looksAt ops,T' t=T t)(O:∀b∈e.rd,h' b=h b) :
  Step1 P N ops o T' h' e:=by
 have hs:=nH J;refine⟨s.1,?_⟩;rw[ww J,kV hs];rcases s.2 with G|⟨G,U⟩|G|G
 ·exact .inl G
 ·exact .inr (.inl ⟨G,nG U hs O⟩)
 ·exact .inr (.inr (.inl G))
 ·exact .inr (.inr (.inr G))
theorem ZG.putT(r:ZG φ M0 N D T h a w){d:Option Tmp}{x:AV}(J:∀t,d=some t→t<N)(O:Qg φ h w (MM φ h M0) x v):ZG φ M0 N D (UG T (d.map fun d=>(d,x))) h (a.put d v) w:=by
 cases d with
|none=>exact r
|some d =>
  have hlt:=J d rfl;refine⟨r.dfs,by simp[Act.put,r.siz],r.hp,fun t y G=>?_⟩;simp only[Option.map_some,UG] at G;by_cases e:d=t
  ·simp only[e,if_true,Zf] at G;subst G;refine⟨e▸hlt,?_⟩;have:(a.put (some d) v).tmps.getD t undef=v:=by subst e;simp[Act.put,r.siz,hlt]
   rw[this];exact O
  ·simp only[e,if_false] at G;refine⟨(r.tm t y G).1,?_⟩;have:(a.put (some d) v).tmps.getD t undef=a.tmps.getD t undef:=by simp[Act.put,Array.getElem?_setIfInBounds_ne e]
   rw[this];exact(r.tm t y G).2
theorem eP(h:QY)(c:Option (Nat×Blk)):ap h c=UG h c:=by
 cases c with
|none=>rfl
|some G=>rfl
theorem Step1.wp{e:Ev}{Q:Exit→Act→World→Prop}(hi:ops[i]?=some o)(s:Step1 P N ops o T h e)(r:ZG φ M0 N D T h a w){K:Act→World→Prop}(hK:∀φ' a' w',ZG φ' M0 N D (UG T (wT o e)) (UG h e.wr) a' w'→Zl φ h w φ' (UG h e.wr) w'→K a' w'):wpOp P ops Q i K a w:=by
 unfold wpOp;simp only[hi];obtain⟨hd,hs⟩:=s;rcases hs with⟨G,rfl⟩|⟨G,J⟩|⟨G,f,args,args',J,O,h4,h5,h6,h7,h8,h9⟩|⟨G,f,args,τ,J,O,ab,h6,h7,h5,h4,h8,h9⟩
 ·rw[FY r G];simp only[Bool.false_eq_true,if_false];exact hK φ _ w (r.putT (Kn hd) (by simp[Qg,Q6])) (Zl.refl _ _ _)
 ·rw[FY r G];simp only[if_true];refine .inl ?_;obtain⟨nx,v,w',φ',g1,g2,g3,g4,g5,g6⟩:=dE r J;simp only[eP] at g3 g4 g5 g6;have r3:ZG φ' M0 N D T (UG h e.wr) a w':=r.keep g5 g6 g4;have Z:=r3.putT (d:=o.dst) (x:=e.x) (v:=v) (Kn hd) g3;unfold Oper.wp;rw[g1];rcases g2 with rfl|⟨rfl,rfl⟩
  ·exact hK φ' _ w' Z g5
  ·exact hK φ' _ w' Z g5
 ·rw[FY r G];simp only[if_true];refine .inl ?_;obtain⟨vs,g1,g2⟩:=MN r J O;unfold Oper.wp;rw[g2];simp only[Oper.upon];have hH:Z9 φ LU w (MB φ h w M0):=Gw (fun x o hm=>vZ hm) r.hp.gm.w r.hp.gm.mb;have hM:∀r o v,w.cell? ⟨r,o,none⟩=some v→¬MM φ h M0 r o→w.cell? ⟨r,o,none⟩=some v∧¬MM φ LU (MB φ h w M0) r o:=fun r o v G J=>⟨G,fun O=>O.elim Jo (fun h4=>J h4.1)⟩
  refine(h6 φ (MB φ h w M0) w vs hH ((JR hM).2 _ _ h5 (XM.2 _ _ _ h4 g1))).mono ?_;rintro e1 w' ⟨φ',r',h',⟨rfl,rfl⟩,aa,E,v,rfl,hv⟩;have U:∀ro o v,w'.cell? ⟨ro,o,none⟩=some v→¬MM φ' LU (MB φ h w M0) ro o→w'.cell? ⟨ro,o,none⟩=some v∧¬MM (YM φ w.heap.size (w'.heap.size-w.heap.size)) h M0 ro o:=fun ro o v G J=>⟨G,AY r.hp E.size G (fun O=>J (.inr O))⟩
  obtain⟨r,E1,X1,hC⟩:=r.lift (w'.heap.size-w.heap.size);obtain⟨Y,X2,H2⟩:=FI E.os E.tape E.output E.size (fun x hx=>E.same x hx (fun b hb=>absurd rfl hb)) r.hp hC;have Z:ZG _ M0 N D T h a w':=r.keep Y X2 H2;have r3:=Z.putT (d:=o.dst) (x:=e.x) (v:=v) (Kn hd) ((JR U).1 _ _ h7 hv);have e8:UG h e.wr=h:=by rw[h8];rfl
  exact hK _ _ w' (by rw[e8];exact r3) (by rw[e8];exact E1.trans Y)
 ·rw[FY r G];simp only[if_true];refine .inl ?_;obtain⟨vs,g1,g2⟩:=MN r J O;unfold Oper.wp;rw[g2];simp only[Oper.upon];have hH:Z9 φ LU w (MB φ h w M0):=Gw (fun x o hm=>vZ hm) r.hp.gm.w r.hp.gm.mb;refine(h6 vs (uY ab g1) (Z5 g1).symm φ (MB φ h w M0) w vs hH (FP vs)).mono ?_;rintro e1 w' ⟨φ',r',h',⟨rfl,rfl⟩,aa,E,v,rfl,hv⟩;have U:∀ro o v,w'.cell? ⟨ro,o,none⟩=some v→¬MM φ' LU (MB φ h w M0) ro o→w'.cell? ⟨ro,o,none⟩=some v∧¬MM (YM φ w.heap.size (w'.heap.size-w.heap.size)) h M0 ro o:=fun ro o v G J=>⟨G,AY r.hp E.size G (fun O=>J (.inr O))⟩
  obtain⟨r,E1,X1,hC⟩:=r.lift (w'.heap.size-w.heap.size);obtain⟨Y,X2,H2⟩:=FI E.os E.tape E.output E.size (fun x hx=>E.same x hx (fun b hb=>absurd rfl hb)) r.hp hC;have Z:ZG _ M0 N D T h a w':=r.keep Y X2 H2;have ac:=(JR (φ':=YM φ w.heap.size (w'.heap.size-w.heap.size)) (h':=h) U).1 _ _ (h7 vs) hv;have r3:=Z.putT (d:=o.dst) (x:=e.x) (v:=v) (Kn hd) (by rw[h4];exact h5 _ _ _ _ _ _ _ ((QZ (Y.keeps M0) X2).2 _ _ ((QZ (E1.keeps M0) X1).2 _ _ g1)) ac);have e8:UG h e.wr=h:=by rw[h8];rfl
  exact hK _ _ w' (by rw[e8];exact r3) (by rw[e8];exact E1.trans Y)
abbrev Vf:=Option Nat×List Nat
def YU(a b:Vf):Bool :=
 (match a.1 with|some x=>!b.2.contains x&&b.1 != some x|none=>true)&&(match b.1 with|some y=>!a.2.contains y|none=>true)
def waits(G:Oper)(i:Nat):Bool:=G.after.toList.any fun e=>Region.binds .any e&&e.on==i
def IY(ops:Array Oper)(G:Oper)(i:Nat):Bool:=waits G i||G.after.toList.any fun e=>Region.binds .any e&&(ops[e.on]?).any (waits · i)
theorem LV{U:Oper}(h:IY ops U i=true) :
  (∃G,G∈U.after∧Region.binds .any G=true∧G.on=i)∨(∃G ok J,G∈U.after∧Region.binds .any G=true∧ops[G.on]?=some ok∧J∈ok.after∧Region.binds .any J=true∧J.on=i):=by
 have key:∀(o:Oper),waits o i=true→∃G,G∈o.after∧Region.binds .any G=true∧G.on=i:=by
  intro o hw;simp only[waits,List.any_eq_true,KL,beq_iff_eq] at hw;obtain⟨G,Y,Z,O⟩:=hw;exact⟨G,by simpa using Y,Z,O⟩
 simp only[IY,Bool.or_eq_true] at h;rcases h with h|h
 ·exact .inl (key U h)
 ·simp only[List.any_eq_true,KL] at h;obtain⟨G,Y,Z,O⟩:=h;cases hok:ops[G.on]? with
 |none=>rw[hok] at O;cases O
 |some ok =>
   rw[hok] at O;obtain⟨J,g1,g2,g3⟩:=key ok (by simpa using O);exact .inr ⟨G,ok,J,by simpa using Y,Z,hok,g1,g2,g3⟩
def Bt(ops:Array Oper)(O:Oper)(i:Nat)(G:Vf):List Oper→List Vf→Bool|J::l,Y::U=>(IY ops J i||(O.apart ops J&&YU G Y))&&Bt ops O i G l U|_,_=>true
def uZ(ops:Array Oper):Nat→List Oper→List Vf→Bool|i,O::l,J::G=>Bt ops O i J l G&&uZ ops (i+1) l G|_,_,_=>true
def FJ:Nat→List Oper→Bool|_,[]=>true|j,o::l=>(o.after.toList.all fun e=>!Region.binds .any e||decide (e.on<j))&&FJ (j+1) l
def KO(ops:Array Oper)(G:List Vf):Bool:=uZ ops 0 ops.toList G&&FJ 0 ops.toList
theorem Cc{ops:Array Oper}{Y:Oper}{i:Nat}{Z:Vf}:∀{l:List Oper} {U:List Vf},Bt ops Y i Z l U=true→∀(j:Nat) G J,l[j]?=some G→U[j]?=some J→IY ops G i=true∨(Y.apart ops G=true∧YU Z J=true)
|[],U,_,j,G,J,O,_=>by simp at O
|o::l,[],_,j,G,J,_,hf=>by simp at hf
|o::l,f::U,hp,j,G,J,O,hf=>by
  simp only[Bt,KL,Bool.or_eq_true] at hp;cases j with
 |zero=>simp at O hf;subst O hf;exact hp.1
 |succ j=>exact Cc hp.2 j G J (by simpa using O) (by simpa using hf)
theorem F3{ops:Array Oper}:∀{l:List Oper} {Z:List Vf} {k:Nat},uZ ops k l Z=true→∀(i j:Nat) U G Y J,i<j→l[i]?=some U→l[j]?=some G→Z[i]?=some Y→Z[j]?=some J →
  IY ops G (k+i)=true∨(U.apart ops G=true∧YU Y J=true)
|[],Z,k,_,i,j,U,G,Y,J,_,hi,_,_,_=>by simp at hi
|o::l,[],k,_,i,j,U,G,Y,J,_,_,_,hf,_=>by simp at hf
|o::l,f::Z,k,hp,i,j,U,G,Y,J,ab,hi,hj,O,aa=>by
  simp only[uZ,KL] at hp;cases j with
 |zero=>omega
 |succ j =>
   cases i with
  |zero =>
    simp at hi O;subst hi O;exact Cc hp.1 j G J (by simpa using hj) (by simpa using aa)
  |succ i =>
    have:=F3 hp.2 i j U G Y J zo (by simpa using hi) (by simpa using hj) (by simpa using O) (by simpa using aa)
    rwa [show k+1+i=k+(i+1) from by omega] at this
theorem W9:∀{l:List Oper} {k:Nat},FJ k l=true→∀(j:Nat) o,l[j]?=some o→∀e∈o.after,Region.binds .any e=true→e.on<k+j
|[],k,_,j,o,G=>by simp at G
|o::l,k,hp,j,O,G=>by
  simp only[FJ,KL] at hp;cases j with
 |zero =>
   simp at G;subst G;intro e J hb;have:=Gp.1 hp.1 e (by simpa using J);simpa [hb] using this
 |succ j =>
   intro e J hb;have:=W9 hp.2 j O (by simpa using G) e J hb;omega
def AZ(listed:Array Bool):Nat→Nat|0=>0|n+1=>AZ listed n+(if listed.getD n true then 0 else 1)
theorem NT{listed:Array Bool}{i:Nat}(hi:listed.getD i true=false):∀n,AZ (listed.setIfInBounds i true) n+(if i<n then 1 else 0)=AZ listed n
|0=>by simp[AZ]
|n+1=>by
  have G:=NT hi n;simp only[AZ]
  have hlt:i<listed.size:=by
   rcases Nat.lt_or_ge i listed.size with h|h
   ·exact h
   ·simp[Array.getElem?_eq_none h] at hi
  by_cases e:i=n
  ·subst e;have J:(listed.setIfInBounds i true).getD i true=true:=by simp[hlt]
   rw[J,hi];simp at G ⊢;omega
  ·rw[getD_set_ne true e];have:(i<n+1)↔(i<n):=by omega
   simp only[this];omega
theorem Ce{listed:Array Bool}:∀{n:Nat},AZ listed n=0→∀i,i<n→listed.getD i true=true
|0,_,i,hi=>by omega
|n+1,hu,i,hi=>by
  simp only[AZ] at hu;by_cases e:i=n
  ·subst e;cases hq:listed.getD i true with
  |true=>rfl
  |false=>rw[hq] at hu;simp at hu
  ·exact Ce (n:=n) (Nat.eq_zero_of_add_eq_zero_right hu) i zo
theorem dN{Q:Exit→Act→World→Prop}{T0:Nat→Option AV}(es:List Ev)(ar:es.length=ops.size)(bc:∀(i:Nat) o e,ops[i]?=some o→es[i]?=some e→Step1 P N ops o (vF ((ops.toList.zip es).map fun p=>wT p.1 p.2) (fun j=>decide (j<i)) T0) (vF (es.map (·.wr)) (fun j=>decide (j<i)) h0) e)(a6:KO ops (es.map fun e=>(e.wr.map (·.1),e.rd))=true)(hQ:∀φ a w,ZG φ M0 N D (vF ((ops.toList.zip es).map fun p=>wT p.1 p.2) (fun _=>true) T0) (vF (es.map (·.wr)) (fun _=>true) h0) a w→Zl φ0 h0 w0 φ (vF (es.map (·.wr)) (fun _=>true) h0) w→Q .normal a w) :
  ∀(ad:Nat) (listed:Array Bool) (a:Act) (w:World) (φ:Nat→Nat),listed.size=ops.size→AZ listed ops.size≤ad →
   (∀(j:Nat) o,ops[j]?=some o→listed.getD j false=true→∀e∈o.after,Region.binds .any e=true→listed.getD e.on false=true) →
   ZG φ M0 N D (vF ((ops.toList.zip es).map fun p=>wT p.1 p.2) (fun j=>listed.getD j false) T0) (vF (es.map (·.wr)) (fun j=>listed.getD j false) h0) a w →
   Zl φ0 h0 w0 φ (vF (es.map (·.wr)) (fun j=>listed.getD j false) h0) w→wpAny P .any ops Q ad listed a w:=by
 simp only[KO,KL] at a6;obtain⟨ah,bb⟩:=a6;have ay:∀(listed:Array Bool) (i:Nat),i<listed.size→listed.getD i true=listed.getD i false:=fun listed i hi=>by simp[hi]
 have bi:((ops.toList.zip es).map fun p=>wT p.1 p.2).length=ops.size:=by simp[ar]
 have av:∀(listed:Array Bool) (a:Act) (w:World) (φ:Nat→Nat),listed.size=ops.size→(∀i,i<ops.size→listed.getD i true=true) →
   ZG φ M0 N D (vF ((ops.toList.zip es).map fun p=>wT p.1 p.2) (fun j=>listed.getD j false) T0) (vF (es.map (·.wr)) (fun j=>listed.getD j false) h0) a w →
   Zl φ0 h0 w0 φ (vF (es.map (·.wr)) (fun j=>listed.getD j false) h0) w→Q .normal a w:=by
  intro listed a w φ af O r E
  have e1:vF ((ops.toList.zip es).map fun p=>wT p.1 p.2) (fun j=>listed.getD j false) T0=vF ((ops.toList.zip es).map fun p=>wT p.1 p.2) (fun _=>true) T0 :=
   kU _ _ _ _ (fun j U=>by rw[bi] at U;rw[←ay listed j zo];exact O j U)
  have e2:vF (es.map (·.wr)) (fun j=>listed.getD j false) h0=vF (es.map (·.wr)) (fun _=>true) h0 :=
   kU _ _ _ _ (fun j U=>by simp only[RS,ar] at U;rw[←ay listed j zo];exact O j U)
  rw[e1,e2] at r;rw[e2] at E;exact hQ φ a w r E
 have az:∀(listed:Array Bool),listed.size=ops.size→Region.ready .any ops listed=[]→∀i,i<ops.size→listed.getD i true=true:=by
  intro listed af hr i
  induction i using Nat.strongRecOn with
 |_ i ih =>
   intro hi;cases hq:listed.getD i true with
  |true=>rfl
  |false =>
    have:i∈Region.ready .any ops listed:=by
     rw[mem_ready];refine⟨hq,ops[i],Array.getElem?_eq_getElem hi,fun e he hb=>?_⟩;have Y:=W9 bb i ops[i] (by simp[hi]) e he hb;have h2:e.on<i:=by omega
     rw[←ay listed e.on zo];exact ih e.on h2 zo
    rw[hr] at this;cases this
 intro ad
 induction ad with
|zero =>
  intro listed a w φ af hu al r E;have O:=Ce (n:=ops.size) (listed:=listed) zo;refine⟨?_,av listed a w φ af O r E⟩;apply List.eq_nil_iff_forall_not_mem.2;intro i hi;rw[mem_ready] at hi;obtain⟨Y,o,ho,_⟩:=hi;rw[O i (RQ.1 ho).1] at Y;cases Y
|succ ad ih =>
  intro listed a w φ af hu al r E;refine⟨fun hr=>av listed a w φ af (az listed af hr) r E,fun i hi=>?_⟩;rw[mem_ready] at hi;obtain⟨bg,o,ho,O⟩:=hi;have bf:i<ops.size:=(RQ.1 ho).1;have ai:listed.getD i false=false:=by rw[←ay listed i zo];exact bg
  obtain⟨e,he⟩:∃e,es[i]?=some e:=⟨es[i],List.getElem?_eq_getElem zo⟩
  have aj:∀(j:Nat) oj Z,ops[j]?=some oj→es[j]?=some Z→j≠i→¬(listed.getD j false=decide (j<i))→oj.apart ops o=true∧YU (Z.wr.map (·.1),Z.rd) (e.wr.map (·.1),e.rd)=true∨(o.apart ops oj=true∧YU (e.wr.map (·.1),e.rd) (Z.wr.map (·.1),Z.rd)=true):=by
   intro j oj Z J aa hne G;rcases Nat.lt_or_ge j i with hlt|bk
   ·have:=F3 ah j i oj o (Z.wr.map (·.1),Z.rd) (e.wr.map (·.1),e.rd) hlt (by simpa using J) (by simpa using ho) (by simp[aa]) (by simp[he]);rcases this with hw|a7
    ·exfalso;simp only[Nat.zero_add] at hw;rcases LV hw with⟨ed,ab,hb,ae⟩|⟨ed,ok,bd,ab,hb,hok,an,be,ae⟩
     ·have:=O ed ab hb;rw[ae] at this;exact G (by rw[this];simp[hlt])
     ·have:=al ed.on ok hok (O ed ab hb) bd an be;rw[ae] at this;exact G (by rw[this];simp[hlt])
    ·exact .inl a7
   ·have ba:i<j:=by omega
    have:=F3 ah i j o oj (e.wr.map (·.1),e.rd) (Z.wr.map (·.1),Z.rd) ba (by simpa using ho) (by simpa using J) (by simp[he]) (by simp[aa]);rcases this with hw|a7
    ·exfalso;simp only[Nat.zero_add] at hw;cases hq:listed.getD j false with
    |true =>
      rcases LV hw with⟨ed,ab,hb,ae⟩|⟨ed,ok,bd,ab,hb,hok,an,be,ae⟩
      ·have:=al j oj J hq ed ab hb;rw[ae,ai] at this;cases this
      ·have:=al ed.on ok hok (al j oj J hq ed ab hb) bd an be;rw[ae,ai] at this;cases this
    |false =>
      have h3:¬j<i:=by omega
      exact G (by rw[hq];simp[h3])
    ·exact .inr a7
  have aq:∀(j:Nat) t v,((ops.toList.zip es).map fun p=>wT p.1 p.2)[j]?=some (some (t,v))→∃oj Z,ops[j]?=some oj∧es[j]?=some Z∧oj.dst=some t:=by
   intro j t v U;simp only[List.getElem?_map,LC] at U;obtain⟨p,hp,hw⟩:=U;rw[List.getElem?_zip_eq_some] at hp;refine⟨p.1,p.2,by simpa using hp.1,hp.2,?_⟩;unfold wT at hw;cases hd:p.1.dst with
  |none=>rw[hd] at hw;cases hw
  |some d=>rw[hd] at hw;simp only[Option.map_some,Zf,DC] at hw;rw[hw.1]
  have aw:∀(j:Nat) b k,(es.map (·.wr))[j]?=some (some (b,k))→∃oj Z,ops[j]?=some oj∧es[j]?=some Z∧Z.wr=some (b,k):=by
   intro j b k U;simp only[List.getElem?_map,LC] at U;obtain⟨p,hp,hw⟩:=U;have bj:j<ops.size:=by rw[←ar];exact(MG.1 hp).1
   exact⟨ops[j],p,Array.getElem?_eq_getElem bj,hp,hw⟩
  have ax:=(bc i o e ho he).loc (T':=vF ((ops.toList.zip es).map fun p=>wT p.1 p.2) (fun j=>listed.getD j false) T0) (h':=vF (es.map (·.wr)) (fun j=>listed.getD j false) h0) (by
   intro t ht;refine UK _ _ _ _ _ rfl (fun j v U=>?_);obtain⟨oj,Z,J,aa,ac⟩:=aq j t v U;apply Classical.byContradiction;intro G;by_cases hne:j=i
   ·subst hne;exact G (by rw[ai];simp)
   ·rcases aj j oj Z J aa hne G with⟨Y,_⟩|⟨Y,_⟩
    ·exact(Oper.apart_spec Y).1 t ac ht
    ·exact(Oper.apart_spec Y).2.2 t ac ht) (by
   intro b hb;refine UK _ _ _ _ _ rfl (fun j k U=>?_);obtain⟨oj,Z,J,aa,au⟩:=aw j b k U;apply Classical.byContradiction;intro G;by_cases hne:j=i
   ·subst hne;exact G (by rw[ai];simp)
   ·rcases aj j oj Z J aa hne G with⟨_,Y⟩|⟨_,Y⟩
    ·simp only[YU,au,Option.map_some,KL,Bool.not_eq_true'] at Y;have:=Y.1.1;simp[hb] at this
    ·simp only[YU,au,Option.map_some,KL,Bool.not_eq_true'] at Y;have:=Y.2;simp[hb] at this)
  refine ax.wp ho r ?_;intro φ' a' w' r' E'
  have eL:∀j,(listed.setIfInBounds i true).getD j false=(listed.getD j false||decide (j=i)):=by
   intro j;by_cases a8:j=i
   ·subst a8;have:j<listed.size:=by omega
    simp[this]
   ·rw[getD_set_ne false (Ne.symm a8)];simp[a8]
  have hT:vF ((ops.toList.zip es).map fun p=>wT p.1 p.2) (fun j=>(listed.setIfInBounds i true).getD j false) T0=UG (vF ((ops.toList.zip es).map fun p=>wT p.1 p.2) (fun j=>listed.getD j false) T0) (wT o e):=by
   simp only[eL];refine kT _ _ _ i (wT o e) ?_ ?_
   ·rw[List.getElem?_map,List.getElem?_zip_eq_some.2 (show ops.toList[i]?=some (o,e).1∧es[i]?=some (o,e).2 from⟨by simpa using ho,he⟩)];rfl
   ·intro b v ak j u ba U;obtain⟨oj,Z,J,aa,ac⟩:=aq j b u U
    have ao:o.dst=some b:=by
     unfold wT at ak;cases hd:o.dst with
    |none=>rw[hd] at ak;cases ak
    |some d=>rw[hd] at ak;simp only[Option.map_some,Zf,DC] at ak;rw[ak.1]
    cases hq:listed.getD j false with
   |false=>rfl
   |true =>
     exfalso;rcases aj j oj Z J aa zo (by rw[hq];simp[show ¬j<i by omega]) with⟨Y,_⟩|⟨Y,_⟩
     ·exact(Oper.apart_spec Y).2.1 b ac ao
     ·exact(Oper.apart_spec Y).2.1 b ao ac
  have hH:vF (es.map (·.wr)) (fun j=>(listed.setIfInBounds i true).getD j false) h0=UG (vF (es.map (·.wr)) (fun j=>listed.getD j false) h0) e.wr:=by
   simp only[eL];refine kT _ _ _ i e.wr (by simp[he]) ?_;intro b k bh j u ba U;obtain⟨oj,Z,J,aa,au⟩:=aw j b u U;cases hq:listed.getD j false with
  |false=>rfl
  |true =>
    exfalso;rcases aj j oj Z J aa zo (by rw[hq];simp[show ¬j<i by omega]) with⟨_,Y⟩|⟨_,Y⟩
    ·simp only[YU,au,bh,Option.map_some,KL,bne_iff_ne] at Y;exact Y.1.2 rfl
    ·simp only[YU,au,bh,Option.map_some,KL,bne_iff_ne] at Y;exact Y.1.2 rfl
  refine ih (listed.setIfInBounds i true) a' w' φ' (by simpa using af) ?_ ?_ (by rw[hT,hH];exact r') (by rw[hH];exact E.trans E')
  ·have:=NT bg ops.size;rw[if_pos bf] at this;omega
  ·intro j oj J U ed ab hb;rw[eL] at U ⊢;simp only[Bool.or_eq_true,Ii] at U ⊢;rcases U with U|rfl
   ·exact .inl (al j oj J U ed ab hb)
   ·rw[ho] at J;cases J;exact .inl (O ed ab hb)
def Uf(ops:Array Oper)(m:Nat):Bool:=(List.range m).all fun j=>(List.range (m+1)).any fun k=>decide (j<k)&&(ops[k]?).any (waits · j)
def FK(o:Oper):Bool:=match o.op with|.call ⟨.value (.tmp _),_,_⟩=>false|_=>true
def LW(ops:Array Oper)(m:Nat):Bool:=(List.range ops.size).all fun k=>decide (k≤m)||(ops[k]?).any (waits · (k-1))
theorem xD{Q:Exit→Act→World→Prop}(m:Nat)(Y:∀i,(hi:i<ops.size)→∀e∈(ops[i]).after,Region.binds .any e=true→e.on<i)(ac:LW ops m=true) :
  ∀(d k G:Nat) (listed:Array Bool) (a:Act) (w:World),k+d=ops.size→m≤k→d≤G→listed.size=ops.size→(∀i,i<k→listed.getD i false=true)→(∀i,k≤i→listed.getD i false=false) →
   wpOps P ops Q ((List.range d).map (k+·)) a w→wpAny P .any ops Q G listed a w:=by
 have U:∀(listed:Array Bool) (i:Nat),i<listed.size→listed.getD i true=listed.getD i false:=fun listed i hi=>by simp[hi]
 intro d
 induction d with
|zero =>
  intro k G listed a w hk ae hf aa h1 h2 h
  have J:Region.ready .any ops listed=[]:=by
   apply List.eq_nil_iff_forall_not_mem.2;intro i hi;rw[mem_ready] at hi;obtain⟨h3,o,ho,_⟩:=hi;have al:=(RQ.1 ho).1;rw[U listed i zo,h1 i zo] at h3;cases h3
  cases G with
 |zero=>exact⟨J,h⟩
 |succ G=>exact⟨fun _=>h,fun i hi=>by rw[J] at hi;cases hi⟩
|succ d ih =>
  intro k G listed a w hk ae hf aa h1 h2 h;obtain⟨G,rfl⟩:∃f,G=f+1:=⟨G-1,by omega⟩;have O:k<ops.size:=by omega
  have hr:(List.range (d+1)).map (k+·)=k::(List.range d).map (k+1+·):=by
   simp only[List.range_succ_eq_map,U8,List.map_map,Nat.add_zero,List.cons.injEq,true_and];apply List.map_congr_left;intro j _;simp;omega
  rw[hr,wpOps_cons] at h;refine⟨fun J=>?_,fun i hi=>?_⟩
  ·exfalso
   have:k∈Region.ready .any ops listed:=by
    rw[mem_ready];refine⟨by rw[U listed k zo];exact h2 k (Yf _),ops[k],Array.getElem?_eq_getElem O,fun e he hb=>?_⟩;exact h1 e.on (Y k O e he hb)
   rw[J] at this;cases this
  ·rw[mem_ready] at hi;obtain⟨h3,o,ho,ab⟩:=hi;have aj:i<ops.size:=(RQ.1 ho).1;rw[U listed i zo] at h3
   have ad:i=k:=by
    rcases Nat.lt_trichotomy i k with hlt|af|ak
    ·rw[h1 i hlt] at h3;cases h3
    ·exact af
    ·exfalso;have Z:=Gp.1 ac i (by simp;omega);simp only[Bool.or_eq_true,Ii] at Z;rcases Z with Z|Z
     ·omega
     ·rw[ho] at Z;simp only[Option.any_some,waits,List.any_eq_true,KL,beq_iff_eq] at Z;obtain⟨ed,ah,hb,ai⟩:=Z;have:=ab ed (by simpa using ah) hb;rw[ai,h2 (i-1) zo] at this;cases this
   subst ad;refine wpOp_mono (fun a' w' hq=>ih (i+1) G _ a' w' zo zo zo (by simpa using aa) ?_ ?_ hq) h
   ·intro j hj;by_cases e:i=j
    ·subst e;have:i<listed.size:=by omega
     simp[this]
    ·rw[getD_set_ne false e];exact h1 j zo
   ·intro j hj;rw[getD_set_ne false zo];exact h2 j zo
theorem zk{Q:Exit→Act→World→Prop}{T0:Nat→Option AV}(es:List Ev)(m:Nat)(hm:m<ops.size)(a6:es.length=m)(be:∀(i:Nat) o e,ops[i]?=some o→es[i]?=some e→Step1 P N ops o (vF ((ops.toList.zip es).map fun p=>wT p.1 p.2) (fun j=>decide (j<i)) T0) (vF (es.map (·.wr)) (fun j=>decide (j<i)) h0) e)(a7:KO ops (es.map fun e=>(e.wr.map (·.1),e.rd))=true)(bm:Uf ops m=true)(az:LW ops m=true)(hQ:∀φ a w,ZG φ M0 N D (vF ((ops.toList.zip es).map fun p=>wT p.1 p.2) (fun _=>true) T0) (vF (es.map (·.wr)) (fun _=>true) h0) a w→Zl φ0 h0 w0 φ (vF (es.map (·.wr)) (fun _=>true) h0) w→wpOps P ops Q ((List.range (ops.size-m)).map (m+·)) a w) :
  ∀(ac:Nat) (listed:Array Bool) (a:Act) (w:World) (φ:Nat→Nat),listed.size=ops.size→AZ listed ops.size≤ac→(∀j,m≤j→listed.getD j false=false) →
   (∀(j:Nat) o,ops[j]?=some o→listed.getD j false=true→∀e∈o.after,Region.binds .any e=true→listed.getD e.on false=true) →
   ZG φ M0 N D (vF ((ops.toList.zip es).map fun p=>wT p.1 p.2) (fun j=>listed.getD j false) T0) (vF (es.map (·.wr)) (fun j=>listed.getD j false) h0) a w →
   Zl φ0 h0 w0 φ (vF (es.map (·.wr)) (fun j=>listed.getD j false) h0) w→wpAny P .any ops Q ac listed a w:=by
 simp only[KO,KL] at a7;obtain⟨ak,au⟩:=a7;have ar:∀(listed:Array Bool) (i:Nat),i<listed.size→listed.getD i true=listed.getD i false:=fun listed i hi=>by simp[hi]
 have bn:((ops.toList.zip es).map fun p=>wT p.1 p.2).length=m:=by simp[a6];omega
 have bg:∀(listed:Array Bool) (a:Act) (w:World) (φ:Nat→Nat),listed.size=ops.size→(∀i,i<m→listed.getD i false=true) →
   ZG φ M0 N D (vF ((ops.toList.zip es).map fun p=>wT p.1 p.2) (fun j=>listed.getD j false) T0) (vF (es.map (·.wr)) (fun j=>listed.getD j false) h0) a w →
   Zl φ0 h0 w0 φ (vF (es.map (·.wr)) (fun j=>listed.getD j false) h0) w→wpOps P ops Q ((List.range (ops.size-m)).map (m+·)) a w:=by
  intro listed a w φ af O r E
  have e1:vF ((ops.toList.zip es).map fun p=>wT p.1 p.2) (fun j=>listed.getD j false) T0=vF ((ops.toList.zip es).map fun p=>wT p.1 p.2) (fun _=>true) T0 :=
   kU _ _ _ _ (fun j Y=>by rw[bn] at Y;exact O j Y)
  have e2:vF (es.map (·.wr)) (fun j=>listed.getD j false) h0=vF (es.map (·.wr)) (fun _=>true) h0 :=
   kU _ _ _ _ (fun j Y=>by simp only[RS,a6] at Y;exact O j Y)
  rw[e1,e2] at r;rw[e2] at E;exact hQ φ a w r E
 have ay:∀(listed:Array Bool),listed.size=ops.size→Region.ready .any ops listed=[]→∀i,i<ops.size→listed.getD i true=true:=by
  intro listed af hr i
  induction i using Nat.strongRecOn with
 |_ i ih =>
   intro hi;cases hq:listed.getD i true with
  |true=>rfl
  |false =>
    have:i∈Region.ready .any ops listed:=by
     rw[mem_ready];refine⟨hq,ops[i],Array.getElem?_eq_getElem hi,fun e he hb=>?_⟩;have Z:=W9 au i ops[i] (by simp[hi]) e he hb;have h2:e.on<i:=by omega
     rw[←ar listed e.on zo];exact ih e.on h2 zo
    rw[hr] at this;cases this
 intro ac
 induction ac with
|zero =>
  intro listed a w φ af hu ae ah r E;have O:=Ce (n:=ops.size) (listed:=listed) zo;have:=O m zo;rw[ar listed m zo,ae m (Yf _)] at this;cases this
|succ ac ih =>
  intro listed a w φ af hu ae ah r E
  have bk:∀n,n≤ops.size→(∀i,m≤i→i<n→listed.getD i true=false)→n-m≤AZ listed n:=by
   intro n
   induction n with
  |zero=>intro _ _;simp
  |succ n bp =>
    intro hn hh;simp only[AZ];have:=bp zo (fun i Z h2=>hh i Z zo);by_cases bt:m≤n
    ·rw[hh n bt zo];simp;omega
    ·split<;>omega
  by_cases bd:∀i,i<m→listed.getD i false=true
  ·have hf:=bk ops.size (Yf _) (fun i Z h2=>by rw[ar listed i zo];exact ae i Z);exact xD m (fun i hi e he hb=>by have:=W9 au i ops[i] (by simp[hi]) e he hb;omega) az (ops.size-m) m (ac+1) listed a w zo (Yf _) zo af bd ae (bg listed a w φ af bd r E)
  refine⟨fun hr=>?_,fun i hi=>?_⟩
  ·have:=ay listed af hr m zo;rw[ar listed m zo,ae m (Yf _)] at this;cases this
  rw[mem_ready] at hi;obtain⟨bj,o,ho,O⟩:=hi;have bi:i<ops.size:=(RQ.1 ho).1;have ai:listed.getD i false=false:=by rw[←ar listed i zo];exact bj
  by_cases bw:m≤i
  ·exfalso
   have bq:i=m:=by
    apply Classical.byContradiction;intro hne;have h4:=Gp.1 az i (by simp;omega);simp only[Bool.or_eq_true,Ii] at h4;rcases h4 with h4|h4
    ·omega
    ·rw[ho] at h4;simp only[Option.any_some,waits,List.any_eq_true,KL,beq_iff_eq] at h4;obtain⟨ed,U,hb,aa⟩:=h4;have:=O ed (by simpa using U) hb;rw[aa,ae (i-1) zo] at this;cases this
   subst bq
   have a8:∀d j,j+d+1=i→listed.getD j false=true:=by
    intro d
    induction d using Nat.strongRecOn with
   |_ d bu =>
     intro j Y;have Z:=Gp.1 bm j (by simp;omega);simp only[List.any_eq_true,List.mem_range,KL,Ii] at Z;obtain⟨k,hk,bv,hw⟩:=Z;cases hok:ops[k]? with
    |none=>rw[hok] at hw;cases hw
    |some ok =>
      rw[hok] at hw;simp only[Option.any_some,waits,List.any_eq_true,KL,beq_iff_eq] at hw;obtain⟨ed,U,hb,aa⟩:=hw;by_cases br:k=i
      ·subst br;rw[ho] at hok;cases hok;have:=O ed (by simpa using U) hb
       rwa [aa] at this
      ·have:=ah k ok hok (bu (i-k-1) zo k zo) ed (by simpa using U) hb
       rwa [aa] at this
   exact bd (fun j Y=>a8 (i-j-1) j zo)
  obtain⟨e,he⟩:∃e,es[i]?=some e:=⟨es[i],List.getElem?_eq_getElem zo⟩
  have aj:∀(j:Nat) oj ej,ops[j]?=some oj→es[j]?=some ej→j≠i→¬(listed.getD j false=decide (j<i))→oj.apart ops o=true∧YU (ej.wr.map (·.1),ej.rd) (e.wr.map (·.1),e.rd)=true∨(o.apart ops oj=true∧YU (e.wr.map (·.1),e.rd) (ej.wr.map (·.1),ej.rd)=true):=by
   intro j oj ej J ab hne G;rcases Nat.lt_or_ge j i with hlt|bx
   ·have:=F3 ak j i oj o (ej.wr.map (·.1),ej.rd) (e.wr.map (·.1),e.rd) hlt (by simpa using J) (by simpa using ho) (by simp[ab]) (by simp[he]);rcases this with hw|ba
    ·exfalso;simp only[Nat.zero_add] at hw;rcases LV hw with⟨ed,U,hb,aa⟩|⟨ed,ok,bf,U,hb,hok,an,bh,aa⟩
     ·have:=O ed U hb;rw[aa] at this;exact G (by rw[this];simp[hlt])
     ·have:=ah ed.on ok hok (O ed U hb) bf an bh;rw[aa] at this;exact G (by rw[this];simp[hlt])
    ·exact .inl ba
   ·have bc:i<j:=by omega
    have:=F3 ak i j o oj (e.wr.map (·.1),e.rd) (ej.wr.map (·.1),ej.rd) bc (by simpa using ho) (by simpa using J) (by simp[he]) (by simp[ab]);rcases this with hw|ba
    ·exfalso;simp only[Nat.zero_add] at hw;cases hq:listed.getD j false with
    |true =>
      rcases LV hw with⟨ed,U,hb,aa⟩|⟨ed,ok,bf,U,hb,hok,an,bh,aa⟩
      ·have:=ah j oj J hq ed U hb;rw[aa,ai] at this;cases this
      ·have:=ah ed.on ok hok (ah j oj J hq ed U hb) bf an bh;rw[aa,ai] at this;cases this
    |false =>
      have h3:¬j<i:=by omega
      exact G (by rw[hq];simp[h3])
    ·exact .inr ba
  have aq:∀(j:Nat) t v,((ops.toList.zip es).map fun p=>wT p.1 p.2)[j]?=some (some (t,v))→∃oj ej,ops[j]?=some oj∧es[j]?=some ej∧oj.dst=some t:=by
   intro j t v Y;simp only[List.getElem?_map,LC] at Y;obtain⟨p,hp,hw⟩:=Y;rw[List.getElem?_zip_eq_some] at hp;refine⟨p.1,p.2,by simpa using hp.1,hp.2,?_⟩;unfold wT at hw;cases hd:p.1.dst with
  |none=>rw[hd] at hw;cases hw
  |some d=>rw[hd] at hw;simp only[Option.map_some,Zf,DC] at hw;rw[hw.1]
  have aw:∀(j:Nat) b k,(es.map (·.wr))[j]?=some (some (b,k))→∃oj ej,ops[j]?=some oj∧es[j]?=some ej∧ej.wr=some (b,k):=by
   intro j b k Y;simp only[List.getElem?_map,LC] at Y;obtain⟨p,hp,hw⟩:=Y;have bo:j<ops.size:=by have:=(MG.1 hp).1;omega
   exact⟨ops[j],p,Array.getElem?_eq_getElem bo,hp,hw⟩
  have ax:=(be i o e ho he).loc (T':=vF ((ops.toList.zip es).map fun p=>wT p.1 p.2) (fun j=>listed.getD j false) T0) (h':=vF (es.map (·.wr)) (fun j=>listed.getD j false) h0) (by
   intro t ht;refine UK _ _ _ _ _ rfl (fun j v Y=>?_);obtain⟨oj,ej,J,ab,ad⟩:=aq j t v Y;apply Classical.byContradiction;intro G;by_cases hne:j=i
   ·subst hne;exact G (by rw[ai];simp)
   ·rcases aj j oj ej J ab hne G with⟨Z,_⟩|⟨Z,_⟩
    ·exact(Oper.apart_spec Z).1 t ad ht
    ·exact(Oper.apart_spec Z).2.2 t ad ht) (by
   intro b hb;refine UK _ _ _ _ _ rfl (fun j k Y=>?_);obtain⟨oj,ej,J,ab,av⟩:=aw j b k Y;apply Classical.byContradiction;intro G;by_cases hne:j=i
   ·subst hne;exact G (by rw[ai];simp)
   ·rcases aj j oj ej J ab hne G with⟨_,Z⟩|⟨_,Z⟩
    ·simp only[YU,av,Option.map_some,KL,Bool.not_eq_true'] at Z;have:=Z.1.1;simp[hb] at this
    ·simp only[YU,av,Option.map_some,KL,Bool.not_eq_true'] at Z;have:=Z.2;simp[hb] at this)
  refine ax.wp ho r ?_;intro φ' a' w' r' E'
  have eL:∀j,(listed.setIfInBounds i true).getD j false=(listed.getD j false||decide (j=i)):=by
   intro j;by_cases bb:j=i
   ·subst bb;have:j<listed.size:=by omega
    simp[this]
   ·rw[getD_set_ne false (Ne.symm bb)];simp[bb]
  have hT:vF ((ops.toList.zip es).map fun p=>wT p.1 p.2) (fun j=>(listed.setIfInBounds i true).getD j false) T0=UG (vF ((ops.toList.zip es).map fun p=>wT p.1 p.2) (fun j=>listed.getD j false) T0) (wT o e):=by
   simp only[eL];refine kT _ _ _ i (wT o e) ?_ ?_
   ·rw[List.getElem?_map,List.getElem?_zip_eq_some.2 (show ops.toList[i]?=some (o,e).1∧es[i]?=some (o,e).2 from⟨by simpa using ho,he⟩)];rfl
   ·intro b v al j u bc Y;obtain⟨oj,ej,J,ab,ad⟩:=aq j b u Y
    have ao:o.dst=some b:=by
     unfold wT at al;cases hd:o.dst with
    |none=>rw[hd] at al;cases al
    |some d=>rw[hd] at al;simp only[Option.map_some,Zf,DC] at al;rw[al.1]
    cases hq:listed.getD j false with
   |false=>rfl
   |true =>
     exfalso;rcases aj j oj ej J ab zo (by rw[hq];simp[show ¬j<i by omega]) with⟨Z,_⟩|⟨Z,_⟩
     ·exact(Oper.apart_spec Z).2.1 b ad ao
     ·exact(Oper.apart_spec Z).2.1 b ao ad
  have hH:vF (es.map (·.wr)) (fun j=>(listed.setIfInBounds i true).getD j false) h0=UG (vF (es.map (·.wr)) (fun j=>listed.getD j false) h0) e.wr:=by
   simp only[eL];refine kT _ _ _ i e.wr (by simp[he]) ?_;intro b k bl j u bc Y;obtain⟨oj,ej,J,ab,av⟩:=aw j b u Y;cases hq:listed.getD j false with
  |false=>rfl
  |true =>
    exfalso;rcases aj j oj ej J ab zo (by rw[hq];simp[show ¬j<i by omega]) with⟨_,Z⟩|⟨_,Z⟩
    ·simp only[YU,av,bl,Option.map_some,KL,bne_iff_ne] at Z;exact Z.1.2 rfl
    ·simp only[YU,av,bl,Option.map_some,KL,bne_iff_ne] at Z;exact Z.1.2 rfl
  refine ih (listed.setIfInBounds i true) a' w' φ' (by simpa using af) ?_ (fun j Y=>by rw[getD_set_ne false zo];exact ae j Y) ?_ (by rw[hT,hH];exact r') (by rw[hH];exact E.trans E')
  ·have:=NT bj ops.size;rw[if_pos bi] at this;omega
  ·intro j oj J Y ed U hb;rw[eL] at Y ⊢;simp only[Bool.or_eq_true,Ii] at Y ⊢;rcases Y with Y|rfl
   ·exact .inl (ah j oj J Y ed U hb)
   ·rw[ho] at J;cases J;exact .inl (O ed U hb)
def wy(N:Nat)(o:Oper)(s:St)(K:St→Prop):Option Kt→Prop|some u=>K5 N o.dst=true∧K (s.put o.dst u.1)|none=>False
def Qdm(N:Nat)(o:Oper)(s:St)(acc:List Vf)(K:List Vf→St→Prop):Option Kt→Prop|some u=>K5 N o.dst=true∧K ((u.2.1.map (·.1),u.2.2)::acc) (XN s o.dst u)|none=>False
def wz(ops:Array Oper)(s:St):List Oper→Bool|[]=>true|o::rest=>(FK o||(yieldOf (look (ZH ops o s.T true)) o.op).isNone)&&rest.all FK
theorem wB{l:List Oper}(h:l.all FK=true):wz ops s l=true:=by
 cases l with
|nil=>rfl
|cons o l =>
  simp only[List.all_cons,KL] at h;simp[wz,h.1,h.2]
def xH(P:Program)(N:Nat)(ops:Array Oper)(Q:AX→St→Prop)(o:Oper)(op:Op)(rest:List Oper)(acc:List Vf)(s0 s:St)(K:St→Prop):Prop :=(∃f args args' x,KC (look s.T) op=some (f,args)∧We P f=true∧K5 N o.dst=true∧NS args args'∧VG args'=true∧YN x=true∧QV P f args' (.ret x)∧K (s.put o.dst x)) ∨ (rest=[]∧Uf ops acc.length=true∧KO ops acc.reverse=true∧U7 P N o s (Q .normal) Q) ∨ (Uf ops acc.length=true∧KO ops acc.reverse=true∧LW ops acc.length=true∧wz ops s0 (o::rest)=true∧Y2 P N ops Q (o::rest) s0) ∨ (∃(f:FuncId) (args:List AV) (J:List AV→AV),KC (look s.T) op=some (f,args)∧We P f=true∧K5 N o.dst=true∧args.all dM=true∧(∀G:List Value,SlV G→G.length=args.length→QV P f (pvs G) (.ret (J (pvs G))))∧(∀G,YN (J (pvs G))=true)∧Qdl J∧K (s.put o.dst (J args)))
def QaV(P:Program)(N:Nat)(ops:Array Oper)(Q:AX→St→Prop)(o:Oper)(rest:List Oper)(acc:List Vf)(s0:St):Prop :=Uf ops acc.length=true∧KO ops acc.reverse=true∧LW ops acc.length=true∧wz ops s0 (o::rest)=true∧Y2 P N ops Q (o::rest) s0
def Yb(P:Program)(N:Nat)(ops:Array Oper)(Q:AX→St→Prop):List Oper→List Vf→St→Prop
 |[],acc,s=>KO ops acc.reverse=true∧Q .normal s
 |o::rest,acc,s =>
    match ZV ops o (look s.T) with
   |some b=>Rm b
        (match o.op with
        |.pick c x y=>match Zo (look (ZH ops o s.T true)) c with
          |some (.p (.val (.bool t)))=>Rm t (wy N o ⟨ZH ops o s.T true,s.H⟩ (Yb P N ops Q rest ((none,[])::acc)) (WY (look (ZH ops o s.T true)) x)) (wy N o ⟨ZH ops o s.T true,s.H⟩ (Yb P N ops Q rest ((none,[])::acc)) (WY (look (ZH ops o s.T true)) y))
          |_=>False
        |.call ⟨.value f,args,ts⟩=>xH P N ops Q o (.call ⟨.value f,args,ts⟩) rest acc s ⟨ZH ops o s.T true,s.H⟩ (Yb P N ops Q rest ((none,[])::acc))
        |.panic x=>rest=[]∧Uf ops acc.length=true∧KO ops acc.reverse=true∧U7 P N o ⟨ZH ops o s.T true,s.H⟩ (Q .normal) Q
        |_=>Qdm N o ⟨ZH ops o s.T true,s.H⟩ acc (Yb P N ops Q rest) (V6 P o (look (ZH ops o s.T true)) (look s.H))∨QaV P N ops Q o rest acc s)
        (K5 N o.dst=true∧Yb P N ops Q rest ((none,[])::acc) (St.put ⟨ZH ops o s.T false,s.H⟩ o.dst (.p (.val undef))))
   |none=>False
def qH(e:Ev):Vf:=(e.wr.map (·.1),e.rd)
theorem eQ(c:Option (Nat×α))(G:List (Option (Nat×α)))(i:Nat)(F:Nat→Option α):vF (c::G) (fun j=>decide (j<i+1)) F=vF G (fun j=>decide (j<i)) (UG F c):=by
 simp only[vF,Nat.zero_lt_succ,decide_true,if_true];congr 1;funext j;simp
def NU(P:Program)(N:Nat)(ops:Array Oper)(l:List Oper)(es:List Ev)(T0:Nat→Option AV)(h0:QY):Prop :=∀(i:Nat) o e,l[i]?=some o→es[i]?=some e→Step1 P N ops o (vF ((l.zip es).map fun p=>wT p.1 p.2) (fun j=>decide (j<i)) T0) (vF (es.map (·.wr)) (fun j=>decide (j<i)) h0) e
theorem TH{l:List Oper}{e:Ev}{es:List Ev}{T0:Nat→Option AV}(Z:Step1 P N ops o T0 h0 e)(Y:NU P N ops l es (UG T0 (wT o e)) (UG h0 e.wr)):NU P N ops (o::l) (e::es) T0 h0:=by
 intro i O U J G;cases i with
|zero =>
  simp at J G;subst J G;rw[Ue _ _ _ zq,Ue _ _ _ zq];exact Z
|succ i =>
  simp only[List.zip_cons_cons,U8,eQ];exact Y i O U (by simpa using J) (by simpa using G)
theorem nI(s:St)(o:Oper)(u:Kt):look (XN s o.dst u).T=UG (look s.T) (wT o ⟨u.1,u.2.1,u.2.2⟩)∧look (XN s o.dst u).H=UG (look s.H) u.2.1:=by
 constructor
 ·unfold XN wT;cases o.dst<;>rfl
 ·unfold XN;cases hq:u.2.1 with
 |none=>rfl
 |some G=>rfl
theorem NV(s:St)(o:Oper)(e:Ev)(hw:e.wr=none):look (s.put o.dst e.x).T=UG (look s.T) (wT o e)∧look (s.put o.dst e.x).H=UG (look s.H) e.wr:=by
 rw[hw];unfold wT St.put;cases o.dst<;>exact⟨rfl,rfl⟩
def SN(P:Program)(N:Nat)(ops:Array Oper)(Q:AX→St→Prop)(l:List Oper)(acc:List Vf)(s:St):Prop :=(∃(es:List Ev) (s':St),es.length=l.length∧NU P N ops l es (look s.T) (look s.H)∧KO ops (acc.reverse++es.map qH)=true ∧ look s'.T=vF ((l.zip es).map fun p=>wT p.1 p.2) (fun _=>true) (look s.T)∧look s'.H=vF (es.map (·.wr)) (fun _=>true) (look s.H)∧Q .normal s') ∨ (∃(pre:List Oper) (o:Oper) (es:List Ev) (s':St),l=pre++[o]∧es.length=pre.length∧NU P N ops l es (look s.T) (look s.H)∧KO ops (acc.reverse++es.map qH)=true∧Uf ops (acc.length+pre.length)=true ∧ look s'.T=vF ((l.zip es).map fun p=>wT p.1 p.2) (fun _=>true) (look s.T)∧look s'.H=vF (es.map (·.wr)) (fun _=>true) (look s.H)∧ZV ops o (look s'.T)=some true∧U7 P N o s' (Q .normal) Q) ∨ (∃(pre:List Oper) (o:Oper) (rest:List Oper) (es:List Ev) (s':St),l=pre++o::rest∧es.length=pre.length∧NU P N ops l es (look s.T) (look s.H)∧KO ops (acc.reverse++es.map qH)=true∧Uf ops (acc.length+pre.length)=true∧LW ops (acc.length+pre.length)=true∧wz ops s' (o::rest)=true ∧ look s'.T=vF ((l.zip es).map fun p=>wT p.1 p.2) (fun _=>true) (look s.T)∧look s'.H=vF (es.map (·.wr)) (fun _=>true) (look s.H)∧Y2 P N ops Q (o::rest) s')
theorem SS{l:List Oper}{acc:List Vf}(G:look s1.T=look s.T)(J:look s1.H=look s.H)(h:SN P N ops Q l acc s1):SN P N ops Q l acc s:=by
 unfold SN at h ⊢;rw[G,J] at h;exact h
theorem IZ{P:Program}{N:Nat}{ops:Array Oper}{Q:AX→St→Prop}:∀(l:List Oper) (acc:List Vf) (s:St),Yb P N ops Q l acc s→SN P N ops Q l acc s
 |[],acc,s,h=>.inl ⟨[],s,rfl,fun i o e ho=>by simp at ho,by simpa using h.1,rfl,rfl,h.2⟩
 |o::l,acc,s,h=>by
    have step:∀(s:St) (e:Ev) (s1:St),Step1 P N ops o (look s.T) (look s.H) e→look s1.T=UG (look s.T) (wT o e)→look s1.H=UG (look s.H) e.wr→Yb P N ops Q l (qH e::acc) s1→SN P N ops Q (o::l) acc s:=by
      intro s e s1 hs hT hH hd;rcases IZ l (qH e::acc) s1 hd with⟨es,s',G,U,J,O,Y,h6⟩|⟨pre,o',es,s',h0,G,U,J,O,Y,h6,h7,h8⟩|⟨pre,o',rest,es,s',h0,G,U,J,O,ae,aa,Y,h6,h8⟩
      · refine .inl ⟨e::es,s',by simp[G],TH hs (by rw[←hT,←hH];exact U),by simpa using J,?_,?_,h6⟩
        · rw[O,hT];rfl
        · rw[Y,hH];rfl
      · refine .inr (.inl ⟨o::pre,o',e::es,s',by simp[h0],by simp[G],TH hs (by rw[←hT,←hH];exact U),by simpa using J,?_,?_,?_,h7,h8⟩)
        · have:(qH e::acc).length+pre.length=acc.length+(o::pre).length:=by simp;omega
          rw[←this];exact O
        · rw[Y,hT];rfl
        · rw[h6,hH];rfl
      · have this:(qH e::acc).length+pre.length=acc.length+(o::pre).length:=by simp;omega
        refine .inr (.inr ⟨o::pre,o',rest,e::es,s',by simp[h0],by simp[G],TH hs (by rw[←hT,←hH];exact U),by simpa using J,by rw[←this];exact O,by rw[←this];exact ae,aa,?_,?_,h8⟩)
        · rw[Y,hT];rfl
        · rw[h6,hH];rfl
    have tail:∀(s:St),ZV ops o (look s.T)=some true→(l=[]∧Uf ops acc.length=true∧KO ops acc.reverse=true∧U7 P N o s (Q .normal) Q)→SN P N ops Q (o::l) acc s:=by
      rintro s hw ⟨G,U,J,O⟩;subst G;exact .inr (.inl ⟨[],o,[],s,rfl,rfl,fun i o e _ he=>by simp at he,by simpa using J,by simpa using U,rfl,rfl,hw,O⟩)
    have ah:∀s0 s:St,look s.T=look s0.T→s.H=s0.H→ZV ops o (look s.T)=some true→(match o.op with
        |.pick c x y=>match Zo (look s.T) c with
          |some (.p (.val (.bool t)))=>Rm t (wy N o s (Yb P N ops Q l ((none,[])::acc)) (WY (look s.T) x)) (wy N o s (Yb P N ops Q l ((none,[])::acc)) (WY (look s.T) y))
          |_=>False
        |.call ⟨.value f,args,ts⟩=>xH P N ops Q o (.call ⟨.value f,args,ts⟩) l acc s0 s (Yb P N ops Q l ((none,[])::acc))
        |.panic x=>l=[]∧Uf ops acc.length=true∧KO ops acc.reverse=true∧U7 P N o s (Q .normal) Q
        |_=>Qdm N o s acc (Yb P N ops Q l) (V6 P o (look s.T) (look s.H))∨QaV P N ops Q o l acc s0)→SN P N ops Q (o::l) acc s:=by
        intro s0 s ad ac hw g;split at g
        · rename_i c x y ho
          split at g
          · rename_i t hc
            have Z:∀z,wy N o s (Yb P N ops Q l ((none,[])::acc)) (WY (look s.T) z)→BX (look s.T) c x y=WY (look s.T) z→SN P N ops Q (o::l) acc s:=by
              intro z hz hp;cases hm:WY (look s.T) z with
             |none=>rw[hm] at hz;exact hz.elim
             |some u =>
                rw[hm] at hz hp
                have hu:u.2=(none,[]):=by
                  unfold WY at hm;split at hm
                  · simp only[Zf] at hm;subst hm;rfl
                  · cases hm
                have af:V6 P o (look s.T) (look s.H)=some (u.1,none,[]):=by
                  unfold V6;simp only[ho];rw[hp];congr 1;rw[←hu]
                have ab:=NV s o ⟨u.1,none,[]⟩ rfl;exact step s ⟨u.1,none,[]⟩ _ ⟨hz.1,.inr (.inl ⟨hw,af⟩)⟩ ab.1 ab.2 hz.2
            refine Gx g (fun ht hz=>Z x hz ?_) (fun ht hz=>Z y hz ?_)
            · subst ht;simp[BX,hc]
            · subst ht;simp[BX,hc]
          · exact g.elim
        · rename_i f ai ts ho
          rcases g with⟨f,args,args',x,G,U,J,O,Y,h6,h7,h8⟩|G|⟨G,U,J,O,Y⟩|⟨f,args,τ,G,U,J,h8,O,Y,h6,h7⟩
          · have hp:=NV s o ⟨x,none,[]⟩ rfl
            exact step s ⟨x,none,[]⟩ _ ⟨J,.inr (.inr (.inl ⟨hw,f,args,args',by rw[ho];exact G,U,O,Y,h7,h6,rfl,rfl⟩))⟩ hp.1 hp.2 h8
          · exact tail s hw G
          · exact .inr (.inr ⟨[],o,l,[],s0,rfl,rfl,fun i o e _ he=>by simp at he,by simpa using U,by simpa using G,by simpa using J,O,ad.symm,by rw[ac];rfl,Y⟩)
          · have hp:=NV s o ⟨τ args,none,[]⟩ rfl
            exact step s ⟨τ args,none,[]⟩ _ ⟨J,.inr (.inr (.inr ⟨hw,f,args,τ,by rw[ho];exact G,U,h8,O,Y,h6,rfl,rfl,rfl⟩))⟩ hp.1 hp.2 h7
        · exact tail s hw g
        · rcases g with g|⟨G,U,J,O,Y⟩
          rotate_left
          · exact .inr (.inr ⟨[],o,l,[],s0,rfl,rfl,fun i o e _ he=>by simp at he,by simpa using U,by simpa using G,by simpa using J,O,ad.symm,by rw[ac];rfl,Y⟩)
          cases hu:V6 P o (look s.T) (look s.H) with
         |none=>rw[hu] at g;exact g.elim
         |some u =>
            rw[hu] at g;have hp:=nI s o u;exact step s ⟨u.1,u.2.1,u.2.2⟩ _ ⟨g.1,.inr (.inl ⟨hw,hu⟩)⟩ hp.1 hp.2 g.2
    simp only[Yb] at h;split at h
    · rename_i b hw
      refine Gx h (fun hb g=>?_) (fun hb g=>?_)
      · subst hb
        have em:=Hu hw;exact SS (s1:=⟨ZH ops o s.T true,s.H⟩) em rfl (ah s ⟨ZH ops o s.T true,s.H⟩ em rfl (by show ZV ops o (look (ZH ops o s.T true))=some true;rw[em];exact hw) g)
      · subst hb
        have em:=Hu hw;refine SS (s1:=⟨ZH ops o s.T false,s.H⟩) em rfl ?_;have hp:=NV ⟨ZH ops o s.T false,s.H⟩ o ⟨.p (.val undef),none,[]⟩ rfl;exact step ⟨ZH ops o s.T false,s.H⟩ ⟨.p (.val undef),none,[]⟩ _ ⟨g.1,.inl ⟨by show ZV ops o (look (ZH ops o s.T false))=some false;rw[em];exact hw,rfl⟩⟩ hp.1 hp.2 g.2
    · exact h.elim
theorem wC(h:FK o=true):yieldOf T o.op=none:=by
 unfold FK at h;unfold yieldOf;split
 ·rename_i G;rw[G] at h;cases h
 ·rfl
theorem xI(h:(FK o||(yieldOf (look (ZH ops o s.T true)) o.op).isNone)=true):yieldOf (look (ZH ops o s.T true)) o.op=none:=by
 rcases Bool.or_eq_true _ _ |>.mp h with h|h
 ·exact wC h
 ·simpa using h
theorem EC{P:Program}{N:Nat}{D:DB}{ops:Array Oper}{Q:AX→St→Prop}:∀(l:List Oper) (k:Nat) (s:St) (φ0:Nat→Nat) (h0:QY) (w0:World) (φ:Nat→Nat) (M0:ZQ) (a:Act) (w:World),
  (∀j,l[j]?=ops[k+j]?)→wz ops s l=true→Zl φ0 h0 w0 φ (look s.H) w→ZG φ M0 N D (look s.T) (look s.H) a w→Y2 P N ops Q l s →
  wpOps P ops (Post N D Q φ0 M0 h0 w0) ((List.range l.length).map (k+·)) a w
|[],k,s,φ0,h0,w0,φ,M0,a,w,U,G,E,r,h=>⟨φ,.normal,s,h,r,E,rfl⟩
|o::l,k,s,φ0,h0,w0,φ,M0,a,w,U,G,E,r,h=>by
  have h1:ops[k]?=some o:=by simpa using (U 0).symm
  have Z:(List.range (o::l).length).map (k+·)=k::(List.range l.length).map (k+1+·):=by
   simp only[lU,List.range_succ_eq_map,U8,List.map_map,Nat.add_zero,List.cons.injEq,true_and];apply List.map_congr_left;intro j _;simp;omega
  rw[Z,wpOps_cons];unfold wpOp;simp only[h1];simp only[wz,KL] at G;have J:∀j,l[j]?=ops[k+1+j]?:=fun j=>by have:=U (j+1);rwa [show k+(j+1)=k+1+j from by omega] at this
  simp only[Y2] at h;split at h
  ·rename_i b hw;rw[FY r hw];refine Gx h (fun hb g=>?_) (fun hb g=>?_)
   ·subst hb;simp only[if_true];have O:=Hu hw;have r1:ZG φ M0 N D (look (ZH ops o s.T true)) (look s.H) a w:=by rw[O];exact r
    rw[xI G.1] at g;refine .inl (Go.Abs.Oper.wp_mono2 (Br (s:=⟨ZH ops o s.T true,s.H⟩) g r1) ?_ ?_)
    ·rintro Y w' ⟨φ',s',h2,h3,h4⟩;exact EC l (k+1) s' φ0 h0 w0 φ' M0 Y w' J (wB G.2) (E.trans h4) h3 h2
    ·intro e Y w' p;exact p.trans E
   ·subst hb;simp only[Bool.false_eq_true,if_false];have O:=Hu hw;have r1:ZG φ M0 N D (look (ZH ops o s.T false)) (look s.H) a w:=by rw[O];exact r
    refine EC l (k+1) _ φ0 h0 w0 φ M0 _ w J (wB G.2) ?_ (ZG.put (s:=⟨ZH ops o s.T false,s.H⟩) r1 (Kn g.1) (by simp[Qg,Q6])) g.2;cases o.dst<;>exact E
  ·exact h.elim
theorem I1(h:Yb P N ops Q ops.toList [] s)(r:ZG φ M0 N D (look s.T) (look s.H) a w) :
  wpAny P .any ops (Post N D Q φ M0 (look s.H) w) ops.size (Array.replicate ops.size false) a { w with drawn:=w.drawn+1 }:=by
 have hd:Zl φ (look s.H) w φ (look s.H) { w with drawn:=w.drawn+1 }:=RV rfl rfl rfl rfl;have r1:ZG φ M0 N D (look s.T) (look s.H) a { w with drawn:=w.drawn+1 }:=r.keep hd (FE rfl) (Be (w:=w) rfl hd r.hp)
 have G:∀(j:Nat),(Array.replicate ops.size false).getD j false=false:=by
  intro j;rcases Nat.lt_or_ge j ops.size with h|h
  ·simp[h]
  ·simp[h]
 have J:∀n,AZ (Array.replicate ops.size false) n≤n:=by
  intro n
  induction n with
 |zero=>simp[AZ]
 |succ n ih=>simp only[AZ];split<;>omega
 rcases IZ _ _ _ h with⟨es,s',h1,h2,h3,h4,Z,Y⟩|⟨pre,o,es,s',h0,h1,h2,h3,h4,Z,Y,h7,h8⟩|⟨pre,o,rest,es,s',h0,h1,h2,h3,h4,ac,aa,Z,Y,h8⟩
 ·refine dN (D:=D) (T0:=look s.T) (h0:=look s.H) (φ0:=φ) (w0:=w) (M0:=M0) (N:=N) es (by simpa using h1) (fun i o e ho he=>h2 i o e (by simpa using ho) he) (by show KO ops (es.map qH)=true;simpa using h3) ?_ ops.size _ a _ φ zq (J _) (fun j o _ U=>by rw[G] at U;cases U) ?_ ?_
  ·intro φ' a' w' r' O;rw[←h4,←Z] at r';rw[←Z] at O;exact⟨φ',.normal,s',Y,r',O,rfl⟩
  ·rw[Ue _ _ _ (fun j _=>G j),Ue _ _ _ (fun j _=>G j)];exact r1
  ·rw[Ue _ _ _ (fun j _=>G j)];exact hd
 ·have ae:ops.size=pre.length+1:=by have:=congrArg List.length h0;simpa using this
  have ad:ops[pre.length]?=some o:=by
   have:ops.toList[pre.length]?=some o:=by rw[h0];simp
   simpa using this
  have ah:LW ops pre.length=true:=by
   unfold LW;rw[Gp];intro k hk;simp only[List.mem_range,Bool.or_eq_true,Ii] at hk ⊢;exact .inl zo
  refine zk (D:=D) (T0:=look s.T) (h0:=look s.H) (φ0:=φ) (w0:=w) (M0:=M0) (N:=N) es pre.length zo h1 (fun i o e ho he=>h2 i o e (by simpa using ho) he) (by show KO ops (es.map qH)=true;simpa using h3) (by simpa using h4) ah ?_ ops.size _ a _ φ zq (J _) (fun j _=>G j) (fun j o _ U=>by rw[G] at U;cases U) ?_ ?_
  ·intro φ' a' w' r' O;rw[←Z,←Y] at r';rw[←Y] at O;rw[show ops.size-pre.length=1 from by omega];show wpOps _ _ _ [pre.length+0] _ _;rw[wpOps_cons,Nat.add_zero];unfold wpOp;simp only[ad,FY r' h7,if_true];refine .inl (Go.Abs.Oper.wp_mono2 (Br h8 r') ?_ ?_)
   ·rintro af w'' ⟨ab,ai,g1,g2,g3⟩;exact⟨ab,.normal,ai,g1,g2,O.trans g3,rfl⟩
   ·intro e af w'' p;exact p.trans O
  ·rw[Ue _ _ _ (fun j _=>G j),Ue _ _ _ (fun j _=>G j)];exact r1
  ·rw[Ue _ _ _ (fun j _=>G j)];exact hd
 ·have ae:ops.size=pre.length+(rest.length+1):=by have:=congrArg List.length h0;simpa using this
  refine zk (D:=D) (T0:=look s.T) (h0:=look s.H) (φ0:=φ) (w0:=w) (M0:=M0) (N:=N) es pre.length zo h1 (fun i o e ho he=>h2 i o e (by simpa using ho) he) (by show KO ops (es.map qH)=true;simpa using h3) (by simpa using h4) (by simpa using ac) ?_ ops.size _ a _ φ zq (J _) (fun j _=>G j) (fun j o _ U=>by rw[G] at U;cases U) ?_ ?_
  ·intro φ' a' w' r' O;rw[←Z,←Y] at r';rw[←Y] at O
   have:=EC (o::rest) pre.length s' φ (look s.H) w φ' M0 a' w' (fun j=>by
    have e1:ops[pre.length+j]?=ops.toList[pre.length+j]?:=by simp
    rw[e1,h0,List.getElem?_append_right zo];congr 1;omega) aa O r' h8
   rw[show ops.size-pre.length=(o::rest).length from by simp;omega];exact this
  ·rw[Ue _ _ _ (fun j _=>G j),Ue _ _ _ (fun j _=>G j)];exact r1
  ·rw[Ue _ _ _ (fun j _=>G j)];exact hd
theorem u6(J:P.follows .mixedOrders=true)(G:Gj ops=true)(h:Yb P N ops Q ops.toList [] s):Ex P N ro (.region id ops true) s Q :=
 fun _ _ _ _ _ r=>wpIn_region_any J (MO G Ju _ _ _ _ (I1 h r))
def Xg:Nat→List AV→List (Nat×AV)|_,[]=>[]|k,x::xs=>(k,x)::Xg (k+1) xs
theorem I4:∀(xs:List AV) (k t:Nat) (x:AV),look (Xg k xs) t=some x→k≤t∧xs[t-k]?=some x
|[],k,t,x,h=>by simp[Xg,look] at h
|y::xs,k,t,x,h=>by
  simp only[Xg,look] at h;by_cases e:k=t
  ·subst e;simp at h;subst h;simp
  ·simp only[e,if_false] at h;obtain⟨J,G⟩:=I4 xs (k+1) t x h;refine⟨by omega,?_⟩;have:t-k=(t-(k+1))+1:=by omega
   rw[this];simpa using G
def eT(P:Program)(T:Nat→Option AV)(h:QY):ResultVar→Option AV
|.tmp t=>T t
|.cell t ty=>match Sv P T h ty (.tmp t) with|some u=>some u.1|none=>none
def zl(P:Program)(T:Nat→Option AV)(h:QY):List ResultVar→Option (List AV)
|[]=>some []
|x::xs=>match eT P T h x,zl P T h xs with|some v,some G=>some (v::G)|_,_=>none
def Cf(P:Program)(fn:Func)(T:Nat→Option AV)(h:QY):Option AV :=
 match zl P T h fn.results.toList with
|some [x]=>some x
|some xs=>some (.tup xs)
|none=>none
theorem I5{x:Value}(h:(Instr.loadAt ty v).run P w=.ok x w'):(do loadVar ty (←asAddr v):Sem Value).run P w=.ok x w':=by
 cases v with
|pointer q =>
  cases q with
 |none=>simp[Instr.loadAt,Instr.sureAddr,stuck] at h
 |some a=>simpa [Instr.loadAt,Instr.sureAddr,asAddr] using h
|_=>simp[Instr.loadAt,Instr.sureAddr,stuck] at h
def nJ(tmps:Array Value):ResultVar→Sem Value
|.tmp t=>pure (tmps.getD t undef)
|.cell t ty=>do loadVar ty (←asAddr (tmps.getD t undef))
theorem eU(r:ZG φ M0 N D T h a w){x:ResultVar}{v:AV}(G:eT P T h x=some v) :
  ∃y,(nJ a.tmps x).run P w=.ok y w∧Qg φ h w (MM φ h M0) v y:=by
 cases x with
|tmp t=>exact⟨_,rfl,(r.tm t v G).2⟩
|cell t ty =>
  simp only[eT] at G;split at G
  ·rename_i u hu;simp only[Zf] at G;subst G;obtain⟨_,y,O,J⟩:=Il (P:=P) r hu;exact⟨y,I5 O,J⟩
  ·cases G
theorem I6{P:Program}{φ:Nat→Nat}{M0:ZQ}{N:Nat}{D:DB}{T:Nat→Option AV}{h:QY}{a:Act}{w:World}(r:ZG φ M0 N D T h a w):∀{l:List ResultVar} {J:List AV},zl P T h l=some J →
  ∃ys,(l.mapM (nJ a.tmps)).run P w=.ok ys w∧Ql φ h w (MM φ h M0) J ys
|[],J,G=>by simp only[zl,Zf] at G;subst G;exact⟨[],by simp,by simp[Ql]⟩
|x::l,J,G=>by
  simp only[zl] at G;split at G
  ·rename_i v O U Y;simp only[Zf] at G;subst G;obtain⟨y,g1,g2⟩:=eU r U;obtain⟨ys,g3,g4⟩:=I6 r Y;exact⟨y::ys,by simp[List.mapM_cons,g1,g3],by simp only[Ql];exact⟨y,ys,rfl,g2,g4⟩⟩
  ·cases G
theorem u7(r:ZG φ M0 N D T h a w){x:AV}(J:Cf P fn T h=some x) :
  ∃v,(results fn a.tmps).run P w=.ok v w∧Qg φ h w (MM φ h M0) x v:=by
 have G:∀ys:List Value,(fn.results.toList.mapM (nJ a.tmps)).run P w=.ok ys w→(results fn a.tmps).run P w=.ok (if hh:ys.toArray.size=1 then ys.toArray[0] else .tuple ys.toArray) w:=by
  intro ys Z;have e1:fn.results.mapM (nJ a.tmps)=Functor.map List.toArray (fn.results.toList.mapM (nJ a.tmps)):=Array.mapM_eq_mapM_toList ..
  have e2:results fn a.tmps=(do let U ←fn.results.mapM (nJ a.tmps);pure (if hh:U.size=1 then U[0] else .tuple U)):=by
   unfold results;congr 1
  rw[e2];simp only[Sem.run_bind,e1,Sem.run_map,Z,Result.andThen_ok,Sem.run_pure]
 unfold Cf at J;split at J
 ·rename_i y Z;simp only[Zf] at J;subst J;obtain⟨ys,g1,g2⟩:=I6 r Z;simp only[Ql] at g2;obtain⟨v,U,rfl,O,rfl⟩:=g2;exact⟨v,by rw[G _ g1];simp,O⟩
 ·rename_i xs hne Y;simp only[Zf] at J;subst J;obtain⟨ys,g1,g2⟩:=I6 r Y;have hl:=Z5 g2
  have aa:¬ys.toArray.size=1:=by
   intro O;simp only[List.size_toArray] at O;rw[O] at hl
   match xs,hl with
  |[x],_=>exact hne x rfl
  refine⟨.tuple ys.toArray,by rw[G _ g1,dif_neg aa],?_⟩;simp only[Qg];exact⟨ys,rfl,g2⟩
 ·cases J
def Qdn(P:Program)(f:FuncId)(args:List AV)(R:KN→Prop):Prop:=V7 P f args LU fun r h'=>R r∧h'=LU
def dO(P:Program)(fn:Func)(R:KN→Prop):AX→St→Prop|.ret,s=>∃x y,Cf P fn (look s.T) (look s.H)=some x∧le x y∧YN y=true∧R (.ret y)|.normal,s=>∃x y,Cf P fn (look s.T) (look s.H)=some x∧le x y∧YN y=true∧R (.ret y)|.panic x,s=>YN x=true∧R (.panic x)|.exit _,_=>False
theorem nK(E:Zl φ LU w φ' h w'):Zl φ LU w φ' LU w' :=
 ⟨E.os,E.tape,E.output,E.size,E.same,E.cell,fun _ _ _ x=>absurd x Jo,(fun _ _ _ _ x=>by cases x),(fun _ _ _ _ _ x=>by cases x),(fun _ _ _ _ _ x=>by cases x),(fun _ _ _ _ x=>by cases x)⟩
structure G7(ms:List Nat)(w w':World):Prop where
 os:w'.os=w.os
 tape:w'.tape=w.tape
 output:w'.output=w.output
 size:w'.heap.size=w.heap.size
 same:∀k,k∉ms→w'.heap[k]?=w.heap[k]?
 turn:∀k,k∈ms→w'.heap[k]?=some (.deferred none)
def Ug(P:Program)(fn:Func)(tmps:Array Value)(R:Ending→World→Prop):List Deferred→FrameMode→World→Prop|[],u,w=>Leaves P fn tmps R [] u w|d::G,u,w=>u≠.run ∧ ((∃r w',d.target=.collected r∧(Instr.takeDeferred r).run P w=.ok [] w'∧Ug P fn tmps R G u w') ∨ (∃fv cap f args,d.target=.fn fv cap∧(invoke d.target d.args).run P w=.ok (.enter f args) w ∧ CallsD P f args u w fun|.returned _,J,w'=>Ug P fn tmps R G (settle J) w'|.panicked chain,J,w'=>Ug P fn tmps R G (raised J chain) w'|.outgrown,_,w'=>R .outgrown w'))
theorem Rn{tmps:Array Value}{R:Ending→World→Prop}:∀(ds:List Deferred) (u:FrameMode) (w:World) (fr:Frame)
  (cs:List Frame),fr.mode=u→fr.defers=ds→fr.tmps=tmps→P.funcs[fr.fn]?=some fn→fr.kind=.normal→Ug P fn tmps R ds u w →
  ∃e w' G,R e w'∧Comes P (lone fr cs w) (lone G cs w') e∧G.fn=fr.fn∧G.leaving P w' e:=by
 intro ds
 induction ds with
|nil=>exact fun u w fr cs hu hd ht hf hk h=>leaves_steps [] u w fr cs hu hd ht hf hk h
|cons d ds ih =>
  intro u w fr cs hu hd ht hf hk h;obtain⟨ab,h⟩:=h;rcases h with⟨r,w',Z,ac,ae⟩|⟨fv,cap,f,args,Z,ah,ad⟩
  ·have h1:=step_collected (cs:=cs) (hu▸ab) hd Z ac;obtain⟨e',w'',G,U,aa,O,Y⟩:=ih u w' { fr with defers:=[]++ds } cs hu rfl ht hf hk ae;exact⟨e',w'',G,U,Comes.of_steps (.one h1) aa,O,Y⟩
  ·have h1:=step_defer (cs:=cs) (hu▸ab) hd Z ah;obtain⟨e,u',w',aj,hR,J,ai,af⟩:=ad { fr with defers:=ds } cs hu;cases e with
  |outgrown=>exact⟨.outgrown,w',fr,hR,Outgrown.of_steps (.one h1) J,rfl,trivial⟩
  |returned v =>
    have h2:=step_going_returned (c:={ { fr with defers:=ds } with mode:=u' }) (cs:=cs) ai af;obtain⟨e',w'',G,U,aa,O,Y⟩:=ih (settle u') w' { { { fr with defers:=ds } with mode:=u' } with mode:=settle u' } cs rfl rfl ht hf hk hR;exact⟨e',w'',G,U,Comes.of_steps (.head h1 (Steps.trans J (.one h2))) aa,O,Y⟩
  |panicked chain =>
    have h2:=step_going_panicked (c:={ { fr with defers:=ds } with mode:=u' }) (cs:=cs) af;obtain⟨e',w'',G,U,aa,O,Y⟩:=ih (raised u' chain) w' { { { fr with defers:=ds } with mode:=u' } with mode:=raised u' chain } cs rfl rfl ht hf hk hR;exact⟨e',w'',G,U,Comes.of_steps (.head h1 (Steps.trans J (.one h2))) aa,O,Y⟩
def nL(P:Program)(fn:Func)(R:Ending→World→Prop):Exit→Act→World→Prop|.normal,a,w|.ret,a,w=>Ug P fn a.tmps R a.defers .returning w|.panic chain,a,w=>Ug P fn a.tmps R a.defers (.panicking chain) w|.outgrown,_,w=>R .outgrown w|_,_,_=>False
theorem NW{args:Array Value}{R:Ending→World→Prop}(hf:P.funcs[f]?=some fn)(hb:fn.body=some c)(h:c.wpIn (wd none) 0 P (nL P fn R) { tmps:=args++Array.replicate (fn.ntmps-args.size) undef,defers:=[] } w):Calls P f args w R:=by
 have h:=wpIn_wide.1 h;intro cs
 let b:Frame:={ (default:Frame) with fn:=f,kind:=.normal }
 have Y:Frame.enter P f args .normal=b.at { tmps:=args++Array.replicate (fn.ntmps-args.size) undef,defers:=[] } [.code c]:=by
  simp[Frame.enter,Frame.at,hf,hb,b]
 obtain⟨e,a',w',Z,G⟩:=h b [] cs;rw[←Y] at G;cases e with
|normal =>
  obtain⟨e',w'',O,hR,hs,U,hl⟩:=Rn a'.defers .returning w' { b.at a' [] with mode:=.returning } cs rfl rfl rfl hf rfl Z;exact⟨e',w'',O,hR,Comes.of_steps (Steps.trans G (.one step_end)) hs,U,hl⟩
|ret =>
  obtain⟨todo,J⟩:=G;obtain⟨e',w'',O,hR,hs,U,hl⟩:=Rn a'.defers .returning w' { b.at a' todo with mode:=.returning } cs rfl rfl rfl hf rfl Z;exact⟨e',w'',O,hR,Comes.of_steps J hs,U,hl⟩
|panic chain =>
  obtain⟨todo,J⟩:=G;obtain⟨e',w'',O,hR,hs,U,hl⟩:=Rn a'.defers (.panicking chain) w' { b.at a' todo with mode:=.panicking chain } cs rfl rfl rfl hf rfl Z;exact⟨e',w'',O,hR,Comes.of_steps J hs,U,hl⟩
|exit id=>exact Z.elim
|goto l=>exact Z.elim
|outgrown=>exact⟨.outgrown,w',b,Z,G.resolve_left (by simp[b]),rfl,trivial⟩
theorem NY{P:Program}{fn:Func}{tmps:Array Value}{R:Ending→World→Prop}{u:FrameMode}(hu:u≠.run)(ds:List Deferred):∀(O:List Nat) (w:World),O.Nodup→(∀r∈O,w.heap[r]?=some (.deferred (some []))) →
  (∀w',G7 O w w'→Ug P fn tmps R ds u w')→Ug P fn tmps R ((O.map fun r=>({ target:=.collected r,args:=#[] }:Deferred))++ds) u w
|[],w,_,_,h=>h w ⟨rfl,rfl,rfl,rfl,fun _ _=>rfl,fun k G=>by cases G⟩
|r::O,w,Z,hb,h=>by
  have h0:=hb r zq;have hlt:r<w.heap.size:=(RQ.1 h0).1
  let U:World:=w.putObj r (.deferred none)
  have J:∀k:Nat,U.heap[k]?=(w.heap.setIfInBounds r (.deferred none))[k]?:=fun k=>rfl
  have Y:(Instr.takeDeferred r).run P w=.ok [] U:=run_takeDeferred h0;refine⟨hu,.inl ⟨r,U,rfl,Y,NY hu ds O U (List.nodup_cons.1 Z).2 ?_ ?_⟩⟩
  ·intro k G;have:r≠k:=fun e=>(List.nodup_cons.1 Z).1 (e▸G)
   rw[J,Array.getElem?_setIfInBounds_ne this];exact hb k (by simp[G])
  ·intro w' t;refine h w' ⟨t.os,t.tape,t.output,by rw[t.size];simp[U,World.putObj],fun k G=>?_,fun k G=>?_⟩
   ·simp only[List.mem_cons,not_or] at G;rw[t.same k G.2,J,Array.getElem?_setIfInBounds_ne (Ne.symm G.1)]
   ·rcases List.mem_cons.1 G with e|e
    ·subst e;rw[t.same k (List.nodup_cons.1 Z).1,J];simp[hlt]
    ·exact t.turn k e
theorem eX{tmps:Array Value}{R:Ending→World→Prop}{u:FrameMode}(hu:u≠.run)(G:List Nat)(w:World)(J:G.Nodup)(hb:∀r∈G,w.heap[r]?=some (.deferred (some [])))(h:∀w',G7 G w w'→Leaves P fn tmps R [] u w'):Ug P fn tmps R (G.map fun r=>({ target:=.collected r,args:=#[] }:Deferred)) u w:=by
 have:=NY (P:=P) (fn:=fn) (tmps:=tmps) (R:=R) hu [] G w J hb h;simpa using this
theorem ZG.turned{U:List Nat}(r:ZG φ M0 N D T h a w)(t:G7 U w w')(Z:∀r∈U,w.heap[r]?=some (.deferred (some []))∧∀b,h b≠none→φ b≠r):ZG φ M0 N ⟨[],0⟩ T h { a with defers:=[] } w':=by
 have G:∀b k,h b=some k→w'.heap[φ b]?=w.heap[φ b]?:=fun b k hb=>t.same _ fun J=>(Z _ J).2 b (by rw[hb];simp) rfl
 have X:VQ φ h w φ h w':=⟨fun _ _ _ x=>⟨⟨_,_,x⟩,rfl⟩,fun b ty S n x=>⟨_,x,Yf _,fun _=>VN (rfl) (by rw[G _ _ x])⟩,
  fun b ty S n x=>⟨_,x,Yf _,fun _=>⟨rfl,fun c hc=>⟨c,by rw[G _ _ x];exact hc,rfl⟩⟩⟩,fun _ _ _ O Y=>⟨⟨_,O,Y⟩,rfl⟩⟩
 have hk:∀r o v,w.cell? ⟨r,o,none⟩=some v→¬MM φ h M0 r o→w'.cell? ⟨r,o,none⟩=some v∧¬MM φ h M0 r o:=by
  intro x o v O Y;refine⟨?_,Y⟩
  have:x∉U:=fun J=>by
   have:=(Z x J).1;simp[World.cell?,this] at O
  rw[←O];simp[World.cell?,t.same x this]
 refine⟨⟨Nat.zero_le _,[],rfl,List.nodup_nil,fun r hr=>by cases hr⟩,r.siz,⟨r.hp.inj,fun b k hb=>Ku hk X (G b k hb) (r.hp.blk b k hb),r.hp.fr,fun x o J=>by rw[t.size];exact r.hp.lt x o J,vC (fun g hg=>t.same g fun J=>Qbs r.hp.gm.w g hg _ (Z g J).1) r.hp.gm.w,r.hp.gm.m⟩,
  fun x y J=>⟨(r.tm x y J).1,(QZ hk X).1 _ _ (r.tm x y J).2⟩⟩
theorem Ci{O:List Nat}(t:G7 O w w')(Z:∀r∈O,w.heap[r]?=some (.deferred (some []))∧∀b,h b≠none→φ b≠r)(x:AV)(v:Value)(hv:Qg φ h w (MM φ h M0) x v):Qg φ h w' (MM φ h M0) x v:=by
 have G:∀b k,h b=some k→w'.heap[φ b]?=w.heap[φ b]?:=fun b k hb=>t.same _ fun Y=>(Z _ Y).2 b (by rw[hb];simp) rfl
 have X:VQ φ h w φ h w':=⟨fun _ _ _ x=>⟨⟨_,_,x⟩,rfl⟩,fun b ty S n x=>⟨_,x,Yf _,fun _=>VN (rfl) (by rw[G _ _ x])⟩,
  fun b ty S n x=>⟨_,x,Yf _,fun _=>⟨rfl,fun c hc=>⟨c,by rw[G _ _ x];exact hc,rfl⟩⟩⟩,fun _ _ _ J U=>⟨⟨_,J,U⟩,rfl⟩⟩
 refine(QZ (fun r o v J U=>⟨?_,U⟩) X).1 _ _ hv
 have:r∉O:=fun Y=>by
  have:=(Z r Y).1;simp[World.cell?,this] at J
 rw[←J];simp[World.cell?,t.same r this]
theorem Zl.turned{ms:List Nat}(E:Zl φ h w φ' h' w')(t:G7 ms w' w'')(aa:∀r∈ms,w.heap.size≤r)(hm:∀r∈ms,w'.heap[r]?=some (.deferred (some []))∧∀b,h' b≠none→φ' b≠r):Zl φ h w φ' h' w'':=by
 have O:∀r,r<w.heap.size→w''.heap[r]?=w'.heap[r]?:=fun r Y=>t.same r fun U=>by have:=aa r U;omega
 have G:∀b k,h' b=some k→w''.heap[φ' b]?=w'.heap[φ' b]?:=fun b k hb=>t.same _ fun U=>(hm _ U).2 b (by rw[hb];simp) rfl
 refine⟨t.os.trans E.os,t.tape.trans E.tape,t.output.trans E.output,by rw[t.size];exact E.size,fun r Y ab=>(O r Y).trans (E.same r Y ab),fun r o Y hm=>?_,E.mu,E.kb,?_,?_,E.ko⟩
 ·rw[←E.cell r o Y hm];simp[World.cell?,O r Y]
 ·intro b ty S n hb U;obtain⟨n',Z,h2,J⟩:=E.kt b ty S n hb U;refine⟨n',Z,h2,fun e=>⟨fun h=>by rw[G b _ Z];exact(J e).1 h,(J e).2.imp (fun h=>h) fun J=>⟨J.1,fun c hc=>?_⟩⟩⟩;obtain⟨c',h4,h5⟩:=J.2 c hc;exact⟨c',by rw[←J.1,G b _ Z,J.1];exact h4,h5⟩
 ·intro b ty S n hb U;obtain⟨n',Z,h2,J⟩:=E.kv b ty S n hb U;refine⟨n',Z,h2,fun e=>⟨(J e).1,fun c hc=>?_⟩⟩;obtain⟨c',h4,h5⟩:=(J e).2 c hc;exact⟨c',by rw[←(J e).1,G b _ Z,(J e).1];exact h4,h5⟩
def Out(R:KN→QY→Prop)(φ:Nat→Nat)(h:QY)(w:World)(M0:ZQ)(e:Ending)(w':World):Prop :=∃φ' r h',R r h'∧Z9 φ' h' w' M0∧Zl φ h w φ' h' w'∧dF φ' h' w' (MM φ' h' M0) r e
theorem ED{G:List Value}(hH:Z9 φ h w M0)(O:Ql φ h w (MM φ h M0) args G)(hl:args.length≤n) :
  ZG φ M0 n ⟨[],w.heap.size⟩ (look (Xg 0 args)) h { tmps:=G.toArray++Array.replicate (n-G.toArray.size) undef,defers:=[] } w:=by
 have U:=Z5 O;refine⟨⟨Yf _,[],rfl,List.nodup_nil,fun r Y=>by cases Y⟩,by simp;omega,hH,fun t x ht=>?_⟩;obtain⟨_,J⟩:=I4 args 0 t x ht;simp only[Nat.sub_zero] at J;have hlt:t<args.length:=(MG.1 J).1;obtain⟨v,Z,h4⟩:=Hf O J;refine⟨by omega,?_⟩
 have:(G.toArray++Array.replicate (n-G.toArray.size) undef).getD t undef=v:=by
  rw[Array.getD_eq_getD_getElem?,Array.getElem?_append_left (by simp;omega)];simp[Z]
 rw[this];exact h4
theorem SV{vs:List Value}{h:List (Nat×Blk)}(hf:P.funcs[f]?=some fn)(hb:fn.body=some c)(hl:args.length≤fn.ntmps)(hH:Z9 φ (look h) w M0)(ha:Ql φ (look h) w (MM φ (look h) M0) args vs)(hx:Ex P fn.ntmps none c ⟨Xg 0 args,h⟩ Q)(O:∀x s φ' a w',Q x s→x=.normal∨x=.ret→ZG φ' M0 fn.ntmps ⟨[],0⟩ (look s.T) (look s.H) a w'→Zl φ (look h) w φ' (look s.H) w'→∃v,(results fn a.tmps).run P w'=.ok v w'∧Out R φ (look h) w M0 (.returned v) w')(aa:∀x s φ' a w' v,Q (.panic x) s→ZG φ' M0 fn.ntmps ⟨[],0⟩ (look s.T) (look s.H) a w'→Zl φ (look h) w φ' (look s.H) w'→Qg φ' (look s.H) w' (MM φ' (look s.H) M0) x v→Out R φ (look h) w M0 (.panicked [{ v:=v,recovered:=false }]) w')(Z:∀i s,¬Q (.exit i) s):Calls P f vs.toArray w (Out R φ (look h) w M0):=by
 refine NW hf hb (wpIn_mono (hx φ M0 _ _ w (ED hH ha hl)) ?_);rintro e a' w' ⟨φ',k,s',h1,h2,h3,h4⟩;obtain⟨ab,ms,hd,ac,Y⟩:=h2.dfs;have ad:a'.defers=ms.map fun r=>({ target:=.collected r,args:=#[] }:Deferred):=by rw[hd];simp
 have U:∀r∈ms,w'.heap[r]?=some (.deferred (some []))∧∀b,look s'.H b≠none→φ' b≠r:=fun r hr=>(Y r hr).2
 have go:∀(u:FrameMode),u≠.run→(∀w'',G7 ms w' w''→ZG φ' M0 fn.ntmps ⟨[],0⟩ (look s'.T) (look s'.H) { a' with defers:=[] } w''→Zl φ (look h) w φ' (look s'.H) w''→Leaves P fn a'.tmps (Out R φ (look h) w M0) [] u w'') →
   Ug P fn a'.tmps (Out R φ (look h) w M0) a'.defers u w':=by
  intro u hu g;rw[ad];exact eX hu ms w' ac (fun r hr=>(Y r hr).2.1) (fun w'' t=>g w'' t (h2.turned t U) (h3.turned t (fun r hr=>(Y r hr).1) U))
 cases k with
|normal =>
  simp only[UH] at h4;subst h4;exact go .returning zq fun w'' t J G=>O _ _ _ { a' with defers:=[] } _ h1 (.inl rfl) J G
|ret =>
  simp only[UH] at h4;subst h4;exact go .returning zq fun w'' t J G=>O _ _ _ { a' with defers:=[] } _ h1 (.inr rfl) J G
|exit i=>exact absurd h1 (Z i s')
|panic x =>
  obtain⟨v,rfl,h5⟩:=h4;refine go (.panicking [{ v:=v,recovered:=false }]) zq fun w'' t J G=>aa _ _ _ _ _ _ h1 J G ?_
  exact Ci t U _ _ h5
theorem wD{R:KN→Prop}(hf:P.funcs[f]?=some fn)(hb:fn.body=some c)(hl:args.length≤fn.ntmps)(h:Ex P fn.ntmps none c ⟨Xg 0 args,[]⟩ (dO P fn R)):Qdn P f args R:=by
 intro φ M0 w vs hH ha;have Z:∀{φ':Nat→Nat} {s:St} {w':World},Zl φ LU w φ' (look s.H) w'→Zl φ LU w φ' LU w':=fun E=>nK E
 have Y:∀{φ':Nat→Nat} {s:St} {w':World},∀r o v,w'.cell? ⟨r,o,none⟩=some v→¬MM φ' (look s.H) M0 r o→w'.cell? ⟨r,o,none⟩=some v∧¬MM φ' LU M0 r o:=fun r o v g1 g2=>⟨g1,fun g3=>g3.elim Jo (fun g4=>g2 (.inr g4))⟩
 refine SV (h:=[]) hf hb hl hH ha h ?_ ?_ ?_
 ·intro x s φ' a w' G hx r E;have O:∃x y,Cf P fn (look s.T) (look s.H)=some x∧le x y∧YN y=true∧R (.ret y):=by rcases hx with rfl|rfl<;>exact G
  obtain⟨x,y,g1,g2,g3,g4⟩:=O;obtain⟨v,g5,g6⟩:=u7 r g1;exact⟨v,g5,φ',.ret y,LU,⟨g4,rfl⟩,Gw (fun x o U=>r.hp.lt x o U) r.hp.gm.w (fun g J o h=>r.hp.gm.m g J o (.inr h)),Z E,v,rfl,(JR Y).1 _ _ g3 (XM.1 _ _ _ g2 g6)⟩
 ·intro x s φ' a w' v G r E hv;exact⟨φ',.panic x,LU,⟨G.2,rfl⟩,Gw (fun x o U=>r.hp.lt x o U) r.hp.gm.w (fun g J o h=>r.hp.gm.m g J o (.inr h)),Z E,v,rfl,(JR Y).1 _ _ G.1 hv⟩
 ·intro i s G;exact G
theorem wE{X:KN}(hf:P.funcs[f]?=some fn)(hb:fn.body=some c)(G:args.length≤fn.ntmps)(h:Ex P fn.ntmps none c ⟨Xg 0 args,[]⟩ (dO P fn (·=X))):QV P f args X:=wD hf hb G h
theorem wF:(∀x:AV,le x x)∧(∀xs:List AV,NS xs xs):=by
 have key:∀n:Nat,(∀(x:AV),SizeOf.sizeOf x≤n→le x x)∧(∀(xs:List AV),SizeOf.sizeOf xs≤n→NS xs xs):=by
  intro n
  induction n with
 |zero =>
   refine⟨fun x G=>?_,fun es G=>?_⟩
   ·cases x<;>simp at G
   ·cases es<;>simp at G
 |succ n J =>
   obtain⟨O,i2⟩:=J;refine⟨fun x G=>?_,fun xs G=>?_⟩
   ·cases x with
   |p x=>cases x<;>simp[le]
   |agg cs=>simp only[le];exact⟨cs,rfl,i2 cs (by simp at G;omega)⟩
   |tup cs=>simp only[le];exact⟨cs,rfl,i2 cs (by simp at G;omega)⟩
   |_=>simp[le]
   ·cases xs with
   |nil=>simp[NS]
   |cons x xs=>simp only[NS];simp at G;exact⟨x,xs,rfl,O x zo,i2 xs zo⟩
 exact⟨fun x=>(key (SizeOf.sizeOf x)).1 x (Yf _),fun xs=>(key (SizeOf.sizeOf xs)).2 xs (Yf _)⟩
theorem le_refl(x:AV):le x x:=wF.1 x
theorem wG(xs:List AV):NS xs xs:=wF.2 xs
mutual
def Kv(h:QY):AV→Bool|.p _=>true|.eptr _=>true|.tsl _ _ t=>(h t).isSome|.ptr b _=>(h b).isSome|.vnil=>true|.vsl _ t _=>(h t).isSome|.vptr t _ _ _=>(h t).isSome|.vtl _ t _ _ _=>(h t).isSome|.yv b=>(h b).isSome|.mv b=>(h b).isSome|.bsl b _=>(h b).isSome|.sfp b=>(h b).isSome|.iv b=>(h b).isSome|.agg cs=>KR h cs|.tup cs=>KR h cs|.fn _ a b=>KR h a&&KR h b|.ifc _ x=>Kv h x
def KR(h:QY):List AV→Bool|[]=>true|x::xs=>Kv h x&&KR h xs
end
theorem NZ(h:QY):∀l:List PV,KR h (l.map .p)=true
|[]=>by simp[KR]
|x::l=>by simp[KR,Kv,NZ h l]
def leB:Blk→Blk→Prop|.box ty cs,k=>∃cs',k=.box ty cs'∧NS cs cs'|.arr ty S n,k=>k=.arr ty S n|.vec ty S es,k=>k=.vec ty S es|.lp T nf st pd,k=>k=.lp T nf st pd|.mp es,k=>k=.mp es|.mf es,k=>k=.mf es|.mg en G es,k=>k=.mg en G es|.it m G sn,k=>k=.it m G sn
theorem UL{k k':Blk}{x:OB}(h:leB k k')(G:k.ob=some x):k'.ob=some x:=by
 cases k with
|box ty cs=>cases G
|arr ty S n=>cases G
|vec ty S es=>cases G
|lp T nf st pd=>simp only[leB] at h;subst h;exact G
|mp es=>simp only[leB] at h;subst h;exact G
|mf es=>simp only[leB] at h;subst h;exact G
|mg en J es=>simp only[leB] at h;subst h;exact G
|it m J sn=>simp only[leB] at h;subst h;exact G
theorem N7(hM:∀r o,M' r o→M r o)(hh:∀b k',h' b=some k'→∃k,h b=some k∧leB k k') :
  (∀(x:AV) (v:Value),Kv h' x=true→Qg φ h w M x v→Qg φ h' w M' x v)∧(∀(xs:List AV) (l:List Value),KR h' xs=true→Ql φ h w M xs l→Ql φ h' w M' xs l):=by
 obtain⟨kp,ke,kc⟩:=Yg (w:=w) (w':=w) (M:=M) (M':=M') (fun r o v O U=>⟨O,fun h3=>U (hM r o h3)⟩)
 have key:∀n:Nat,(∀(x:AV),SizeOf.sizeOf x≤n→∀v,Kv h' x=true→Qg φ h w M x v→Qg φ h' w M' x v)∧(∀(xs:List AV),SizeOf.sizeOf xs≤n→∀l,KR h' xs=true→Ql φ h w M xs l→Ql φ h' w M' xs l):=by
  intro n
  induction n with
 |zero =>
   refine⟨fun x hx=>?_,fun es hx=>?_⟩
   ·cases x<;>simp at hx
   ·cases es<;>simp at hx
 |succ n ih =>
   obtain⟨i1,i2⟩:=ih;refine⟨fun x hx v Y J=>?_,fun xs hx l Y J=>?_⟩
   ·cases x with
   |p x=>simp only[Qg] at J ⊢;exact kp x v J
   |tsl S es t =>
     simp only[Kv] at Y;obtain⟨k',G⟩:=RU.1 Y;simp only[Qg] at J ⊢;obtain⟨O,ty,m,U,h3⟩:=J;obtain⟨k,Z,e2⟩:=hh t k' G;rw[U] at Z;cases Z;simp only[leB] at e2;exact⟨kp _ _ O,ty,m,by rw[G,e2],h3⟩
   |ptr b off =>
     simp only[Kv] at Y;obtain⟨k',G⟩:=RU.1 Y;simp only[Qg] at J ⊢;obtain⟨O,ty,cs,U⟩:=J;obtain⟨k,Z,e2⟩:=hh b k' G;rw[U] at Z;cases Z;simp only[leB] at e2;obtain⟨cs',e3,_⟩:=e2;exact⟨O,ty,cs',by rw[G,e3]⟩
   |bsl b n =>
     simp only[Kv] at Y;obtain⟨k',G⟩:=RU.1 Y;simp only[Qg] at J ⊢;obtain⟨O,ty,cs,U⟩:=J;obtain⟨k,Z,e2⟩:=hh b k' G;rw[U] at Z;cases Z;simp only[leB] at e2;obtain⟨cs',e3,_⟩:=e2;exact⟨O,ty,cs',by rw[G,e3]⟩
   |sfp b =>
     simp only[Kv] at Y;obtain⟨k',G⟩:=RU.1 Y;simp only[Qg] at J ⊢;obtain⟨O,ty,cs,U⟩:=J;obtain⟨k,Z,e2⟩:=hh b k' G;rw[U] at Z;cases Z;simp only[leB] at e2;obtain⟨cs',e3,_⟩:=e2;exact⟨O,ty,cs',by rw[G,e3]⟩
   |vnil=>simp only[Qg] at J ⊢;exact J
   |vsl S t n =>
     simp only[Kv] at Y;obtain⟨k',G⟩:=RU.1 Y;simp only[Qg] at J ⊢;obtain⟨O,ty,m,U,h3⟩:=J;obtain⟨k,Z,e2⟩:=hh t k' G;rw[U] at Z;cases Z;simp only[leB] at e2;exact⟨O,ty,m,by rw[G,e2],h3⟩
   |vtl S t n k m0 =>
     simp only[Kv] at Y;obtain⟨k',G⟩:=RU.1 Y;simp only[Qg] at J ⊢;obtain⟨O,ty,m,U,h3⟩:=J;obtain⟨k,Z,e2⟩:=hh t k' G;rw[U] at Z;cases Z;simp only[leB] at e2;exact⟨O,ty,m,by rw[G,e2],h3⟩
   |vptr t n k f =>
     simp only[Kv] at Y;obtain⟨k',G⟩:=RU.1 Y;simp only[Qg] at J ⊢;obtain⟨O,ty,S,m,U,h3⟩:=J;obtain⟨k,Z,e2⟩:=hh t k' G;rw[U] at Z;cases Z;simp only[leB] at e2;exact⟨O,ty,S,m,by rw[G,e2],h3⟩
   |yv b =>
     simp only[Kv] at Y;obtain⟨k',G⟩:=RU.1 Y;simp only[Qg] at J ⊢;obtain⟨O,k,T,nf,U,h3⟩:=J;obtain⟨k2,Z,e2⟩:=hh b k' G;rw[U] at Z;cases Z;exact⟨O,k',T,nf,G,UL e2 h3⟩
   |mv b =>
     simp only[Kv] at Y;obtain⟨k',G⟩:=RU.1 Y;simp only[Qg] at J ⊢;obtain⟨O,k,U,h3⟩:=J;obtain⟨k2,Z,e2⟩:=hh b k' G;rw[U] at Z;cases Z;exact⟨O,k',G,UL e2 h3⟩
   |iv b =>
     simp only[Kv] at Y;obtain⟨k',G⟩:=RU.1 Y;simp only[Qg] at J ⊢;obtain⟨O,k,U,h3⟩:=J;obtain⟨k2,Z,e2⟩:=hh b k' G;rw[U] at Z;cases Z;exact⟨O,k',G,UL e2 h3⟩
   |eptr cs =>
     simp only[Qg] at J ⊢;obtain⟨r,o,O,U⟩:=J;exact⟨r,o,O,kc cs r o U⟩
   |agg cs =>
     simp only[Qg,Kv] at J Y ⊢;obtain⟨l,O,U⟩:=J;exact⟨l,O,i2 cs (by simp at hx;omega) l Y U⟩
   |tup cs =>
     simp only[Qg,Kv] at J Y ⊢;obtain⟨l,O,U⟩:=J;exact⟨l,O,i2 cs (by simp at hx;omega) l Y U⟩
   |fn f a b =>
     simp only[Qg,Kv,KL] at J Y ⊢;obtain⟨l,m,O,U,h3⟩:=J;simp at hx;exact⟨l,m,O,i2 a zo l Y.1 U,i2 b zo m Y.2 h3⟩
   |ifc t x =>
     simp only[Qg,Kv] at J Y ⊢;obtain⟨y,O,U⟩:=J;exact⟨y,O,i1 x (by simp at hx;omega) y Y U⟩
   ·cases xs with
   |nil=>simpa [Ql] using J
   |cons x xs =>
     simp only[Ql,KR,KL] at J Y ⊢;simp at hx;obtain⟨y,ys,O,U,h3⟩:=J;exact⟨y,ys,O,i1 x zo y Y.1 U,i2 xs zo ys Y.2 h3⟩
 exact⟨fun x v=>(key (SizeOf.sizeOf x)).1 x (Yf _) v,fun xs l=>(key (SizeOf.sizeOf xs)).2 xs (Yf _) l⟩
def leO:Option AV→AV→Prop|some y,x=>le y x|none,_=>False
def QbB:Option Blk→Blk→Prop|some k,k'=>leB k k'|none,_=>False
def I7(T:Nat→Option AV)(h':QY):List (Nat×AV)→Prop|[]=>True|(t,x)::l=>leO (T t) x∧Kv h' x=true∧I7 T h' l
def okRefB(h:QY):Blk→Bool|.box _ cs=>KR h cs|.arr _ _ _=>true|.vec _ _ _=>true|.lp T _ _ _=>KR h (T.map (·.2))|.mp es=>true|.mf es=>KR h (es.map (·.2.2))|.mg _ _ es=>KR h (es.map (·.2.2))|.it m _ _=>(h m).isSome
def BL(h h':QY):List (Nat×Blk)→Prop|[]=>True|(b,k)::l=>QbB (h b) k∧okRefB h' k=true∧BL h h' l
def YR(h':QY):List (Nat×Blk)→Bool|[]=>true|(b,_)::l=>(decide (b<1000)||(h' b).isSome)&&YR h' l
theorem Bv{T:Nat→Option AV}{h':QY}:∀{l:List (Nat×AV)},I7 T h' l→∀t x,look l t=some x→∃y,T t=some y∧le y x∧Kv h' x=true
|[],_,t,x,G=>by simp[look] at G
|(t0,J)::l,hs,t,x,G=>by
  simp only[I7] at hs;simp only[look] at G;by_cases e:t0=t
  ·simp only[e,if_true,Zf] at G;subst G e;cases hq:T t0 with
  |none=>rw[hq] at hs;exact hs.1.elim
  |some y=>rw[hq] at hs;exact⟨y,rfl,hs.1,hs.2.1⟩
  ·simp only[e,if_false] at G;exact Bv hs.2.2 t x G
theorem Xx{h h':QY}:∀{l:List (Nat×Blk)},BL h h' l→∀b k',look l b=some k'→(∃k,h b=some k∧leB k k')∧okRefB h' k'=true
|[],_,t,x,G=>by simp[look] at G
|(t0,J)::l,hs,t,x,G=>by
  simp only[BL] at hs;simp only[look] at G;by_cases e:t0=t
  ·simp only[e,if_true,Zf] at G;subst G e;cases hq:h t0 with
  |none=>rw[hq] at hs;exact hs.1.elim
  |some y=>rw[hq] at hs;exact⟨⟨y,rfl,hs.1⟩,hs.2.1⟩
  ·simp only[e,if_false] at G;exact Xx hs.2.2 t x G
theorem Yq{h':QY}:∀{l:List (Nat×Blk)},YR h' l=true→∀b k,1000≤b→look l b=some k→∃k',h' b=some k'
|[],_,b,k,_,G=>by simp[look] at G
|(b0,k0)::l,hs,b,k,hb,G=>by
  simp only[YR,KL,Bool.or_eq_true,Ii] at hs;simp only[look] at G;by_cases e:b0=b
  ·subst e;rcases hs.1 with J|J
   ·omega
   ·exact RU.1 J
  ·simp only[e,if_false] at G;exact Yq hs.2 b k hb G
theorem R3(h:QY):∀(es:List (Value×PV)),KR h (es.map fun p=>.p p.2)=true
|[]=>rfl
|x::es=>by simp only[U8,KR,Kv,Bool.true_and];exact R3 h es
theorem JS{h:QY}:∀{es:List (Bool×List UInt8×AV)},KR h (es.map (·.2.2))=true→KR h ((Tu es).map (·.2.2))=true
|[],_=>rfl
|(f,k,x)::es,G=>by
  simp only[U8,KR,KL] at G;cases f with
 |false=>exact JS (es:=es) G.2
 |true=>simp only[Tu,List.filter_cons_of_pos,U8,KR,KL];exact⟨G.1,JS (es:=es) G.2⟩
theorem Gy{h:QY}:∀{T:List (Nat×AV)} {t:Nat} {x:AV},KR h (T.map (·.2))=true→look T t=some x→Kv h x=true
|[],t,x,_,G=>by simp[look] at G
|(k,y)::T,t,x,J,G=>by
  simp only[U8,KR,KL] at J;simp only[look] at G;by_cases e:k=t
  ·simp only[e,if_true,Zf] at G;subst G;exact J.1
  ·simp only[e,if_false] at G;exact Gy J.2 G
theorem dP(hT:I7 (look s.T) (look s'.H) s'.T)(hH:BL (look s.H) (look s'.H) s'.H)(hK:YR (look s'.H) s.H=true)(r:ZG φ M0 N D (look s.T) (look s.H) a w):ZG φ M0 N D (look s'.T) (look s'.H) a w∧Zl φ (look s.H) w φ (look s'.H) w:=by
 have hh:∀b k',look s'.H b=some k'→∃k,look s.H b=some k∧leB k k':=fun b k' hb=>(Xx hH b k' hb).1
 have ab:∀r o,DD φ (look s'.H) r o→DD φ (look s.H) r o:=by
  rintro x o ⟨b,k',O,G,J⟩;obtain⟨k,Y,h5⟩:=hh b k' O;refine⟨b,k,Y,G,?_⟩;cases k with
 |box ty cs=>trivial
 |arr ty S n=>simp only[leB] at h5;subst h5;exact J
 |vec ty S es=>trivial
 |lp T nf st pd=>trivial
 |mp es=>trivial
 |mf es=>trivial
 |mg en cl es=>trivial
 |it m cl sn=>trivial
 have hM:∀r o,MM φ (look s'.H) M0 r o→MM φ (look s.H) M0 r o:=fun x o hx=>hx.elim (fun h=>.inl (ab x o h)) .inr
 have U:∀b,look s'.H b≠none→look s.H b≠none:=fun b hb=>by
  cases hq:look s'.H b with
 |none=>exact absurd hq hb
 |some k'=>obtain⟨k,O,_⟩:=hh b k' hq;rw[O];simp
 obtain⟨c1,c2⟩:=N7 (φ:=φ) (w:=w) hM hh
 have ae:Z9 φ (look s'.H) w M0:=by
  refine⟨fun b c hb hc=>r.hp.inj b c (U b hb) (U c hc),fun b k' hb=>?_,fun b hb=>r.hp.fr b (U b hb),r.hp.lt,r.hp.gm.sub hM⟩;obtain⟨⟨k,O,G⟩,J⟩:=Xx hH b k' hb;have Y:=r.hp.blk b k O;cases k with
 |box ty cs =>
   simp only[leB] at G;obtain⟨cs',rfl,h5⟩:=G;obtain⟨c,h6,h7⟩:=Y;exact⟨c,h6,c2 _ _ J (XM.2 _ _ _ h5 h7)⟩
 |arr ty S n=>simp only[leB] at G;subst G;exact Y
 |vec ty S es =>
   simp only[leB] at G;subst G;obtain⟨c,cap,g1,g2,g3,g4,g5,g6,g7⟩:=Y;exact⟨c,cap,g1,g2,g3,g4,g5,g6,c2 _ _ (NZ _ _) g7⟩
 |lp T nf st pd =>
   simp only[leB] at G;subst G;obtain⟨tmps,d,g1,g2,g3⟩:=Y;exact⟨tmps,d,g1,g2,fun t x ht=>⟨(g3 t x ht).1,c1 _ _ (Gy J ht) (g3 t x ht).2⟩⟩
 |mp es =>
   simp only[leB] at G;subst G;obtain⟨en,cl,g1,g2,g3⟩:=Y;exact⟨en,cl,g1,g2,c2 _ _ (R3 _ _) g3⟩
 |mf es =>
   simp only[leB] at G;subst G;obtain⟨en,cl,g1,g2,g3,g5⟩:=Y;exact⟨en,cl,g1,g2,c2 _ _ (JS J) g3,g5⟩
 |mg en cl es =>
   simp only[leB] at G;subst G;obtain⟨g1,g2,g3,g5⟩:=Y;exact⟨g1,g2,c2 _ _ (JS J) g3,g5⟩
 |it m cl sn =>
   simp only[leB] at G;subst G;obtain⟨g1,k0,g2,g3⟩:=Y;obtain⟨km,ad⟩:=RU.1 J;obtain⟨k1,g5,g6⟩:=hh m km ad;rw[g2] at g5;cases g5;exact⟨g1,km,ad,UL g6 g3⟩
 have ac:Marks φ D (look s'.H) a w:=by
  obtain⟨h0,ms,O,G,J⟩:=r.dfs;exact⟨h0,ms,O,G,fun x hx=>⟨(J x hx).1,(J x hx).2.1,fun b hb=>(J x hx).2.2 b (U b hb)⟩⟩
 refine⟨⟨ac,r.siz,ae,fun t x ht=>?_⟩,⟨rfl,rfl,rfl,Yf _,fun _ _ _=>rfl,fun _ _ _ _=>rfl,fun x o _ hx=>ab x o hx,?_,?_,?_,?_⟩⟩
 ·obtain⟨y,O,G,J⟩:=Bv hT t x ht;exact⟨(r.tm t y O).1,c1 _ _ J (XM.1 _ _ _ G (r.tm t y O).2)⟩
 ·intro b ty cs hb Z;obtain⟨k',O⟩:=Yq hK b _ hb Z;obtain⟨k,G,J⟩:=hh b k' O;rw[Z] at G;cases G;simp only[leB] at J;obtain⟨cs',Y,_⟩:=J;exact⟨⟨cs',by rw[O,Y]⟩,rfl⟩
 ·intro t ty S n ht aa;obtain⟨k',O⟩:=Yq hK t _ ht aa;obtain⟨k,G,J⟩:=hh t k' O;rw[aa] at G;cases G;simp only[leB] at J;exact⟨n,by rw[O,J],Yf _,fun _=>VN (rfl) rfl⟩
 ·intro t ty S n ht aa;obtain⟨k',O⟩:=Yq hK t _ ht aa;obtain⟨k,G,J⟩:=hh t k' O;rw[aa] at G;cases G;simp only[leB] at J;exact⟨n,by rw[O,J],Yf _,fun _=>⟨rfl,fun c hc=>⟨c,hc,rfl⟩⟩⟩
 ·intro b k x hb Z ho;obtain⟨k',O⟩:=Yq hK b _ hb Z;obtain⟨k2,G,J⟩:=hh b k' O;rw[Z] at G;cases G;exact⟨⟨k',O,UL J ho⟩,rfl⟩
theorem dQ(J:I7 (look s.T) (look s'.H) s'.T)(O:BL (look s.H) (look s'.H) s'.H)(G:YR (look s'.H) s.H=true):Weak N s s' :=
 fun φ _ _ _ _ r=>⟨φ,dP J O G r⟩
attribute [go_sem] Bi Vy KM Wu UI Iu Sz
attribute [go_sem ↓] Y2 U7 Yb Km Fw
attribute [go_sem] yieldOf ZV ZH V6 WY Zo Ep Iq look Xg XN St.put Ik K5 FX Et aUn vN MJ Fu NF xm Sv Io qx cellsOf Hg AV.one G6 Un Js Xf vY Gu isB elems vI Ip Eo FR RX Xc Gq Hm vL SE Bl lN vT eqV eqV.eqFs Gt isConst Ej DJ Ir NB kF Gs Hq WR LK DR isNil KC qo SB DW Uo Jt vQ Fv SC xq Xd TD vU DY LP Value.oneCell' Cf zl eT Km Fw mY LM DT bY BZ
mutual
def JH(ρ:Nat→Nat):AV→AV|.p x=>.p x|.eptr cs=>.eptr cs|.tsl S es t=>.tsl S es (ρ t)|.ptr b off=>.ptr (ρ b) off|.vnil=>.vnil|.vsl S t n=>.vsl S (ρ t) n|.vptr t n k f=>.vptr (ρ t) n k f|.vtl S t n k m=>.vtl S (ρ t) n k m|.yv b=>.yv (ρ b)|.mv b=>.mv (ρ b)|.bsl b n=>.bsl (ρ b) n|.sfp b=>.sfp (ρ b)|.iv b=>.iv (ρ b)|.agg cs=>.agg (Ja ρ cs)|.tup cs=>.tup (Ja ρ cs)|.fn f a b=>.fn f (Ja ρ a) (Ja ρ b)|.ifc t x=>.ifc t (JH ρ x)
def Ja(ρ:Nat→Nat):List AV→List AV|[]=>[]|x::xs=>JH ρ x::Ja ρ xs
end
def Ky(ρ:Nat→Nat):Blk→Blk|.box ty cs=>.box ty (Ja ρ cs)|.arr ty S n=>.arr ty S n|.vec ty S es=>.vec ty S es|.lp T nf st pd=>.lp (T.map fun p=>(p.1,JH ρ p.2)) nf st pd|.mp es=>.mp es|.mf es=>.mf (es.map fun e=>(e.1,e.2.1,JH ρ e.2.2))|.mg en G es=>.mg en G (es.map fun e=>(e.1,e.2.1,JH ρ e.2.2))|.it m G sn=>.it (ρ m) G sn
def xJ(ρ:Nat→Nat):OB→OB|.lp T nf=>.lp (T.map fun p=>(p.1,JH ρ p.2)) nf|.mp=>.mp
theorem Uh(ρ:Nat→Nat)(k:Blk):(Ky ρ k).ob=k.ob.map (xJ ρ):=by cases k<;>rfl
theorem QbC{k:Blk}(h:(Ky ρ k).ob=some .mp):k.ob=some .mp:=by
 rw[Uh] at h;cases hk:k.ob with
|none=>rw[hk] at h;cases h
|some x =>
  rw[hk] at h;cases x with
 |mp=>rfl
 |lp T nf=>simp[xJ] at h
theorem Bw(ρ:Nat→Nat):∀(T:List (Nat×AV)) (t:Nat),look (T.map fun p=>(p.1,JH ρ p.2)) t=(look T t).map (JH ρ)
|[],t=>rfl
|(k,v)::T,t=>by
  simp only[U8,look];by_cases e:k=t
  ·simp[e]
  ·simp only[e,if_false];exact Bw ρ T t
theorem kW(ρ:Nat→Nat):∀(es:List (Value×PV)),Ja ρ (es.map fun p=>.p p.2)=es.map fun p=>.p p.2
|[]=>rfl
|x::es=>by simp only[U8,Ja,JH];rw[kW ρ es]
theorem LX(ρ:Nat→Nat):∀(es:List (Bool×List UInt8×AV)),(Tu (es.map fun e=>(e.1,e.2.1,JH ρ e.2.2))).map (·.2.2)=Ja ρ ((Tu es).map (·.2.2))
|[]=>rfl
|(f,k,x)::es=>by
  cases f with
 |false=>exact LX ρ es
 |true =>
   have:=LX ρ es;simp only[Tu] at this ⊢;simp only[U8,List.filter_cons_of_pos,Ja,this]
theorem LY(ρ:Nat→Nat):∀(es:List (Bool×List UInt8×AV)),(Tu (es.map fun e=>(e.1,e.2.1,JH ρ e.2.2))).map (fun e=>Dt e.2.1)=(Tu es).map (fun e=>Dt e.2.1)
|[]=>rfl
|(f,k,x)::es=>by
  cases f with
 |false=>exact LY ρ es
 |true =>
   have:=LY ρ es;simp only[Tu] at this ⊢;simp only[U8,List.filter_cons_of_pos,this]
section
variable {ρ φ φc:Nat→Nat}{h hc:QY}{w:World}{M Mc:ZQ}
theorem QbD(aa:∀c,hc c≠none→φc c=φ (ρ c))(hM:∀r o,Mc r o→M r o)(hh:∀c k,hc c=some k→∃k0,h (ρ c)=some k0∧leB k0 (Ky ρ k)) :
  (∀(x:AV) (v:Value),Kv hc x=true→Qg φ h w M (JH ρ x) v→Qg φc hc w Mc x v)∧(∀(xs:List AV) (l:List Value),KR hc xs=true→Ql φ h w M (Ja ρ xs) l→Ql φc hc w Mc xs l):=by
 obtain⟨kp,ke,kc⟩:=Yg (w:=w) (w':=w) (M:=M) (M':=Mc) (fun r o v O U=>⟨O,fun h3=>U (hM r o h3)⟩)
 have key:∀n:Nat,(∀(x:AV),SizeOf.sizeOf x≤n→∀v,Kv hc x=true→Qg φ h w M (JH ρ x) v→Qg φc hc w Mc x v)∧(∀(xs:List AV),SizeOf.sizeOf xs≤n→∀l,KR hc xs=true→Ql φ h w M (Ja ρ xs) l→Ql φc hc w Mc xs l):=by
  intro n
  induction n with
 |zero =>
   refine⟨fun x hx=>?_,fun es hx=>?_⟩
   ·cases x<;>simp at hx
   ·cases es<;>simp at hx
 |succ n ih =>
   obtain⟨i1,i2⟩:=ih;refine⟨fun x hx v Y J=>?_,fun xs hx l Y J=>?_⟩
   ·cases x with
   |p x=>simp only[JH,Qg] at J ⊢;exact kp x v J
   |tsl S es t =>
     simp only[Kv] at Y;obtain⟨k,G⟩:=RU.1 Y;simp only[JH,Qg] at J ⊢;obtain⟨O,ty,m,U,h3⟩:=J;obtain⟨k0,Z,e2⟩:=hh t k G;rw[U] at Z;cases Z
     have ab:k=.arr ty S m:=by
      cases k with
     |arr _ _ _=>simpa [leB,Ky] using e2
     |_=>simp[leB,Ky] at e2
     refine⟨kp _ _ O,ty,m,by rw[G,ab],?_⟩;rw[aa t (by rw[G];simp)];exact h3
   |ptr b off =>
     simp only[Kv] at Y;obtain⟨k,G⟩:=RU.1 Y;simp only[JH,Qg] at J ⊢;obtain⟨O,ty,cs,U⟩:=J;obtain⟨k0,Z,e2⟩:=hh b k G;rw[U] at Z;cases Z;cases k with
    |box ac cs'=>exact⟨by rw[aa b (by rw[G];simp)];exact O,ac,cs',G⟩
    |_=>simp[leB,Ky] at e2
   |bsl b n =>
     simp only[Kv] at Y;obtain⟨k,G⟩:=RU.1 Y;simp only[JH,Qg] at J ⊢;obtain⟨O,ty,cs,U⟩:=J;obtain⟨k0,Z,e2⟩:=hh b k G;rw[U] at Z;cases Z;cases k with
    |box ac cs'=>exact⟨by rw[aa b (by rw[G];simp)];exact O,ac,cs',G⟩
    |_=>simp[leB,Ky] at e2
   |sfp b =>
     simp only[Kv] at Y;obtain⟨k,G⟩:=RU.1 Y;simp only[JH,Qg] at J ⊢;obtain⟨O,ty,cs,U⟩:=J;obtain⟨k0,Z,e2⟩:=hh b k G;rw[U] at Z;cases Z;cases k with
    |box ac cs'=>exact⟨by rw[aa b (by rw[G];simp)];exact O,ac,cs',G⟩
    |_=>simp[leB,Ky] at e2
   |vnil=>simp only[JH,Qg] at J ⊢;exact J
   |vsl S t n =>
     simp only[Kv] at Y;obtain⟨k,G⟩:=RU.1 Y;simp only[JH,Qg] at J ⊢;obtain⟨O,ty,m,U,h3⟩:=J;obtain⟨k0,Z,e2⟩:=hh t k G;rw[U] at Z;cases Z
     have ab:k=.vec ty S m:=by
      cases k with
     |vec _ _ _=>simpa [leB,Ky] using e2
     |_=>simp[leB,Ky] at e2
     refine⟨O,ty,m,by rw[G,ab],?_⟩;rw[aa t (by rw[G];simp)];exact h3
   |vtl S t n ae m0 =>
     simp only[Kv] at Y;obtain⟨k,G⟩:=RU.1 Y;simp only[JH,Qg] at J ⊢;obtain⟨O,ty,m,U,h3⟩:=J;obtain⟨k0,Z,e2⟩:=hh t k G;rw[U] at Z;cases Z
     have ab:k=.vec ty S m:=by
      cases k with
     |vec _ _ _=>simpa [leB,Ky] using e2
     |_=>simp[leB,Ky] at e2
     refine⟨O,ty,m,by rw[G,ab],?_⟩;rw[aa t (by rw[G];simp)];exact h3
   |vptr t n k f =>
     simp only[Kv] at Y;obtain⟨k,G⟩:=RU.1 Y;simp only[JH,Qg] at J ⊢;obtain⟨O,ty,S,m,U,h3⟩:=J;obtain⟨k0,Z,e2⟩:=hh t k G;rw[U] at Z;cases Z
     have ab:k=.vec ty S m:=by
      cases k with
     |vec _ _ _=>simpa [leB,Ky] using e2
     |_=>simp[leB,Ky] at e2
     refine⟨O,ty,S,m,by rw[G,ab],?_⟩;rw[aa t (by rw[G];simp)];exact h3
   |yv b =>
     simp only[Kv] at Y;obtain⟨k,G⟩:=RU.1 Y;simp only[JH,Qg] at J ⊢;obtain⟨O,k1,T,nf,U,h3⟩:=J;obtain⟨k0,Z,e2⟩:=hh b k G;rw[U] at Z;cases Z;have e3:=UL e2 h3;rw[Uh] at e3;refine⟨by rw[aa b (by rw[G];simp)];exact O,k,?_⟩;cases k with
    |lp T' ad st pd=>exact⟨T',ad,G,rfl⟩
    |_=>simp[Blk.ob,xJ] at e3
   |mv b =>
     simp only[Kv] at Y;obtain⟨k,G⟩:=RU.1 Y;simp only[JH,Qg] at J ⊢;obtain⟨O,k1,U,h3⟩:=J;obtain⟨k0,Z,e2⟩:=hh b k G;rw[U] at Z;cases Z;have e3:=UL e2 h3;rw[Uh] at e3;refine⟨by rw[aa b (by rw[G];simp)];exact O,k,?_⟩;cases k with
    |mp es=>exact⟨G,rfl⟩
    |mf es=>exact⟨G,rfl⟩
    |mg en cl es=>exact⟨G,rfl⟩
    |it m cl sn=>exact⟨G,rfl⟩
    |_=>simp[Blk.ob,xJ] at e3
   |iv b =>
     simp only[Kv] at Y;obtain⟨k,G⟩:=RU.1 Y;simp only[JH,Qg] at J ⊢;obtain⟨O,k1,U,h3⟩:=J;obtain⟨k0,Z,e2⟩:=hh b k G;rw[U] at Z;cases Z;have e3:=UL e2 h3;rw[Uh] at e3;refine⟨by rw[aa b (by rw[G];simp)];exact O,k,?_⟩;cases k with
    |mp es=>exact⟨G,rfl⟩
    |mf es=>exact⟨G,rfl⟩
    |mg en cl es=>exact⟨G,rfl⟩
    |it m cl sn=>exact⟨G,rfl⟩
    |_=>simp[Blk.ob,xJ] at e3
   |eptr cs =>
     simp only[JH,Qg] at J ⊢;obtain⟨r,o,O,U⟩:=J;exact⟨r,o,O,kc cs r o U⟩
   |agg cs =>
     simp only[JH,Qg,Kv] at J Y ⊢;obtain⟨l,O,U⟩:=J;exact⟨l,O,i2 cs (by simp at hx;omega) l Y U⟩
   |tup cs =>
     simp only[JH,Qg,Kv] at J Y ⊢;obtain⟨l,O,U⟩:=J;exact⟨l,O,i2 cs (by simp at hx;omega) l Y U⟩
   |fn f a b =>
     simp only[JH,Qg,Kv,KL] at J Y ⊢;obtain⟨l,m,O,U,h3⟩:=J;simp at hx;exact⟨l,m,O,i2 a zo l Y.1 U,i2 b zo m Y.2 h3⟩
   |ifc t x =>
     simp only[JH,Qg,Kv] at J Y ⊢;obtain⟨y,O,U⟩:=J;exact⟨y,O,i1 x (by simp at hx;omega) y Y U⟩
   ·cases xs with
   |nil=>simpa [Ja,Ql] using J
   |cons x xs =>
     simp only[Ja,Ql,KR,KL] at J Y ⊢;simp at hx;obtain⟨y,ys,O,U,h3⟩:=J;exact⟨y,ys,O,i1 x zo y Y.1 U,i2 xs zo ys Y.2 h3⟩
 exact⟨fun x v=>(key (SizeOf.sizeOf x)).1 x (Yf _) v,fun xs l=>(key (SizeOf.sizeOf xs)).2 xs (Yf _) l⟩
theorem wH(U:∀c,hc c≠none→φ (ρ c)=φc c)(hM:∀r o v,w.cell? ⟨r,o,none⟩=some v→M r o→Mc r o)(hh:∀c k,hc c=some k→h (ρ c)=some (Ky ρ k)) :
  (∀(x:AV) (v:Value),Qg φc hc w Mc x v→Qg φ h w M (JH ρ x) v)∧(∀(xs:List AV) (l:List Value),Ql φc hc w Mc xs l→Ql φ h w M (Ja ρ xs) l):=by
 obtain⟨kp,ke,kc⟩:=Yg (w:=w) (w':=w) (M:=Mc) (M':=M) (fun r o v O G=>⟨O,fun Y=>G (hM r o v O Y)⟩)
 have key:∀n:Nat,(∀(x:AV),SizeOf.sizeOf x≤n→∀v,Qg φc hc w Mc x v→Qg φ h w M (JH ρ x) v)∧(∀(xs:List AV),SizeOf.sizeOf xs≤n→∀l,Ql φc hc w Mc xs l→Ql φ h w M (Ja ρ xs) l):=by
  intro n
  induction n with
 |zero =>
   refine⟨fun x Z=>?_,fun es Z=>?_⟩
   ·cases x<;>simp at Z
   ·cases es<;>simp at Z
 |succ n ih =>
   obtain⟨i1,i2⟩:=ih;refine⟨fun x Z v J=>?_,fun xs Z l J=>?_⟩
   ·cases x with
   |p x=>simp only[JH,Qg] at J ⊢;exact kp x v J
   |tsl S es t =>
     simp only[JH,Qg] at J ⊢;obtain⟨O,ty,m,G,Y⟩:=J;refine⟨kp _ _ O,ty,m,by rw[hh t _ G];rfl,?_⟩;rw[U t (by rw[G];simp)];exact Y
   |ptr b off =>
     simp only[JH,Qg] at J ⊢;obtain⟨O,ty,cs,G⟩:=J;exact⟨by rw[U b (by rw[G];simp)];exact O,ty,Ja ρ cs,by rw[hh b _ G];rfl⟩
   |bsl b n =>
     simp only[JH,Qg] at J ⊢;obtain⟨O,ty,cs,G⟩:=J;exact⟨by rw[U b (by rw[G];simp)];exact O,ty,Ja ρ cs,by rw[hh b _ G];rfl⟩
   |sfp b =>
     simp only[JH,Qg] at J ⊢;obtain⟨O,ty,cs,G⟩:=J;exact⟨by rw[U b (by rw[G];simp)];exact O,ty,Ja ρ cs,by rw[hh b _ G];rfl⟩
   |vnil=>simp only[JH,Qg] at J ⊢;exact J
   |vsl S t n =>
     simp only[JH,Qg] at J ⊢;obtain⟨O,ty,m,G,Y⟩:=J;refine⟨O,ty,m,by rw[hh t _ G];rfl,?_⟩;rw[U t (by rw[G];simp)];exact Y
   |vtl S t n k m0 =>
     simp only[JH,Qg] at J ⊢;obtain⟨O,ty,m,G,Y⟩:=J;refine⟨O,ty,m,by rw[hh t _ G];rfl,?_⟩;rw[U t (by rw[G];simp)];exact Y
   |vptr t n k f =>
     simp only[JH,Qg] at J ⊢;obtain⟨O,ty,S,m,G,Y⟩:=J;refine⟨O,ty,S,m,by rw[hh t _ G];rfl,?_⟩;rw[U t (by rw[G];simp)];exact Y
   |yv b =>
     simp only[JH,Qg] at J ⊢;obtain⟨O,k,T,nf,G,Y⟩:=J;exact⟨by rw[U b (by rw[G];simp)];exact O,Ky ρ k,_,nf,hh b _ G,by rw[Uh,Y];rfl⟩
   |mv b =>
     simp only[JH,Qg] at J ⊢;obtain⟨O,k,G,Y⟩:=J;exact⟨by rw[U b (by rw[G];simp)];exact O,Ky ρ k,hh b _ G,by rw[Uh,Y];rfl⟩
   |iv b =>
     simp only[JH,Qg] at J ⊢;obtain⟨O,k,G,Y⟩:=J;exact⟨by rw[U b (by rw[G];simp)];exact O,Ky ρ k,hh b _ G,by rw[Uh,Y];rfl⟩
   |eptr cs =>
     simp only[JH,Qg] at J ⊢;obtain⟨r,o,O,G⟩:=J;exact⟨r,o,O,kc cs r o G⟩
   |agg cs =>
     simp only[JH,Qg] at J ⊢;obtain⟨l,O,G⟩:=J;exact⟨l,O,i2 cs (by simp at Z;omega) l G⟩
   |tup cs =>
     simp only[JH,Qg] at J ⊢;obtain⟨l,O,G⟩:=J;exact⟨l,O,i2 cs (by simp at Z;omega) l G⟩
   |fn f a b =>
     simp only[JH,Qg] at J ⊢;obtain⟨l,m,O,G,Y⟩:=J;simp at Z;exact⟨l,m,O,i2 a zo l G,i2 b zo m Y⟩
   |ifc t x =>
     simp only[JH,Qg] at J ⊢;obtain⟨y,O,G⟩:=J;exact⟨y,O,i1 x (by simp at Z;omega) y G⟩
   ·cases xs with
   |nil=>simpa [Ja,Ql] using J
   |cons x xs =>
     simp only[Ja,Ql] at J ⊢;simp at Z;obtain⟨y,ys,O,G,Y⟩:=J;exact⟨y,ys,O,i1 x zo y G,i2 xs zo ys Y⟩
 exact⟨fun x v=>(key (SizeOf.sizeOf x)).1 x (Yf _) v,fun xs l=>(key (SizeOf.sizeOf xs)).2 xs (Yf _) l⟩
theorem eY(G:∀c,hc c≠none→φ (ρ c)=φc c)(O:∀r o,M r o→Mc r o)(J:∀c k,hc c=some k→h (ρ c)=some (Ky ρ k)) :
  (∀(x:AV) (v:Value),Qg φc hc w Mc x v→Qg φ h w M (JH ρ x) v)∧(∀(xs:List AV) (l:List Value),Ql φc hc w Mc xs l→Ql φ h w M (Ja ρ xs) l) :=
 wH G (fun r o _ _=>O r o) J
end
def KP(ρ:Nat→Nat)(hc':List (Nat×Blk))(H:List (Nat×Blk)):List (Nat×Blk):=hc'.map (fun p=>(ρ p.1,Ky ρ p.2))++H
def F4(ρ:Nat→Nat)(hc hc' H:List (Nat×Blk)):Prop :=(∀c∈hc.map (·.1),c∈hc'.map (·.1))∧(∀c∈hc'.map (·.1),c∈hc.map (·.1)∨look H (ρ c)=none)∧(∀c∈hc'.map (·.1),∀d∈hc'.map (·.1),ρ c=ρ d→c=d)
theorem EE{φ φ':Nat→Nat}{h h':QY}{w:World}{M M':ZQ}(Z:∀r o v,w.cell? ⟨r,o,none⟩=some v→M' r o→M r o):∀(l:List PV) (O:List Value),Ql φ h w M (l.map .p) O→Ql φ' h' w M' (l.map .p) O
|[],O,G=>by simpa [Ql] using G
|x::l,O,G=>by
  simp only[U8,Ql,Qg] at G ⊢;obtain⟨y,ys,J,Y,U⟩:=G;exact⟨y,ys,J,(Yg (w:=w) (w':=w) (M:=M) (M':=M') (fun r o v J Y=>⟨J,fun U=>Y (Z r o v J U)⟩)).1 x y Y,EE Z l ys U⟩
theorem N8(J:∀r o,M' r o→M r o)(l:List PV)(G:List Value):Ql φ h w M (l.map .p) G→Ql φ' h' w M' (l.map .p) G :=
 EE (fun r o _ _=>J r o) l G
theorem Cj{α:Type}:∀(a b:List (Nat×α)) (t:Nat),look (a++b) t=match look a t with|some v=>some v|none=>look b t
|[],b,t=>rfl
|(k,v)::a,b,t=>by
  simp only[List.cons_append,look];by_cases e:k=t
  ·simp[e]
  ·simp only[e,if_false];exact Cj a b t
theorem Vz{α:Type}:∀{a:List (Nat×α)} {t:Nat},look a t≠none↔t∈a.map (·.1)
|[],t=>by simp[look]
|(k,v)::a,t=>by
  simp only[look,U8,List.mem_cons];by_cases e:k=t
  ·simp[e]
  ·simp only[e,if_false,Vz];constructor
   ·exact .inr
   ·rintro(h|h)
    ·exact absurd h.symm e
    ·exact h
theorem I8{ρ:Nat→Nat}:∀{hc:List (Nat×Blk)} {t:Nat},(∀c d,c∈hc.map (·.1)→d∈t::hc.map (·.1)→ρ c=ρ d→c=d)→look (hc.map (fun p=>(ρ p.1,Ky ρ p.2))) (ρ t)=(look hc t).map (Ky ρ)
|[],t,_=>rfl
|(k,v)::hc,t,hi=>by
  simp only[U8,look];by_cases e:k=t
  ·simp[e]
  ·have:¬ρ k=ρ t:=fun h=>e (hi k t zq zq h)
   simp only[e,this,if_false];refine I8 (fun c d hc G h=>hi c d (by simp at hc ⊢;exact .inr hc) ?_ h);simp at G ⊢;rcases G with G|G
   ·exact .inl G
   ·exact .inr (.inr G)
theorem Me{ρ:Nat→Nat}:∀{hc:List (Nat×Blk)} {b:Nat},(∀c,c∈hc.map (·.1)→ρ c≠b)→look (hc.map (fun p=>(ρ p.1,Ky ρ p.2))) b=none
|[],b,_=>rfl
|(k,v)::hc,b,hi=>by
  simp only[U8,look];have:¬ρ k=b:=hi k zq;simp only[this,if_false];exact Me (fun c hc=>hi c (by simp at hc ⊢;exact .inr hc))
theorem Fx:∀(l:List Nat) (x:Nat),x∈l→x≤l.foldr max 0
|a::l,x,h=>by
  simp only[List.foldr_cons];rcases List.mem_cons.1 h with e|e
  ·subst e;exact Nat.le_max_left _ _
  ·exact Nat.le_trans (Fx l x e) (Nat.le_max_right _ _)
theorem MP{C:(Nat→Nat)→Array Value→World→(Ending→World→Prop)→Prop}(bj:∀φ vs w R R',C φ vs w R→(∀e w',R e w'→R' e w')→C φ vs w R')(ρ:Nat→Nat)(bk:∀φ M0 w vs,Z9 φ (look hc) w M0→Ql φ (look hc) w (MM φ (look hc) M0) args' vs→C φ vs.toArray w fun e w'=>∃φ' r h',R r h'∧Z9 φ' h' w' M0∧Zl φ (look hc) w φ' h' w'∧dF φ' h' w' (MM φ' h' M0) r e)(bf:NS args (Ja ρ args'))(hok:KR (look hc) args'=true)(av:∀c∈hc.map (·.1),1000≤c)(aq:∀c k,look hc c=some k→okRefB (look hc) k=true)(O:∀c k,look hc c=some k→∃k0,look s.H (ρ c)=some k0∧leB k0 (Ky ρ k))(bq:∀c∈hc.map (·.1),∀d∈hc.map (·.1),ρ c=ρ d→c=d)(hd:∀t,dst=some t→t<N)(bm:∀r h',R r h'→∃hc' H2,h'=look hc'∧F4 ρ hc hc' s.H∧(∀b,look H2 b=look (KP ρ hc' s.H) b) ∧
   (match r with|.ret x=>K (St.put ⟨s.T,H2⟩ dst (JH ρ x))|.panic x=>Q (.panic (JH ρ x)) ⟨s.T,H2⟩)) :
  ∀φ M0 D a w vs,ZG φ M0 N D (look s.T) (look s.H) a w→Ql φ (look s.H) w (MM φ (look s.H) M0) args vs→C (fun c=>φ (ρ c)) vs.toArray w fun e w' =>
   match e with
  |.returned v=>∃φ' s',K s'∧ZG φ' M0 N D (look s'.T) (look s'.H) (a.put dst v) w'∧Zl φ (look s.H) w φ' (look s'.H) w'
  |.panicked chain=>Post N D Q φ M0 (look s.H) w (.panic chain) a w'
  |.outgrown=>False:=by
 intro φ M0 D a w vs r ha
 let hr:QY:=fun b=>if b∈(hc.map (·.1)).map ρ then none else look s.H b
 let φc:Nat→Nat:=fun c=>φ (ρ c)
 have bw:∀b k,hr b=some k→look s.H b=some k∧b∉(hc.map (·.1)).map ρ:=by
  intro b k hb;simp only[hr] at hb;split at hb
  ·cases hb
  ·rename_i hn;exact⟨hb,hn⟩
 have az:∀x o,DD φ hr x o→DD φ (look s.H) x o:=by
  rintro x o ⟨b,k,h1,J,h3⟩;exact⟨b,k,(bw b k h1).1,J,h3⟩
 have ai:∀c,look hc c≠none→c∈hc.map (·.1):=fun c h=>Vz.1 h
 have au:∀x o,DD φc (look hc) x o→DD φ (look s.H) x o:=by
  rintro x o ⟨c,k,h1,J,h3⟩;obtain⟨k0,h4,h5⟩:=O c k h1;refine⟨ρ c,k0,h4,J,?_⟩;cases k0 with
 |arr ty S n =>
   cases k with
  |arr co S' n'=>simp only[leB,Ky,Blk.arr.injEq] at h5;obtain⟨rfl,rfl,rfl⟩:=h5;exact h3
  |_=>simp[leB,Ky] at h5
 |_=>trivial
 have bh:∀x o,MM φc (look hc) (MB φ hr w M0) x o→MM φ (look s.H) M0 x o:=by
  rintro x o (h1|⟨h1|h1,_⟩)
  ·exact .inl (au x o h1)
  ·exact .inl (az x o h1)
  ·exact .inr h1
 obtain⟨b4,a7⟩:=QbD (w:=w) (ρ:=ρ) (φ:=φ) (φc:=φc) (h:=look s.H) (hc:=look hc) (fun _ _=>rfl) bh O
 have b7:Z9 φc (look hc) w (MB φ hr w M0):=by
  refine⟨fun c d ad ak he=>?_,fun c k hk=>?_,fun c ad o Z=>?_,fun x o Z=>?_,r.hp.gm.sub bh⟩
  ·obtain⟨kc,a6⟩:=AP.1 ad;obtain⟨kd,ao⟩:=AP.1 ak;obtain⟨k0,e0,_⟩:=O c kc a6;obtain⟨k1,e1,_⟩:=O d kd ao;exact bq c (ai c ad) d (ai d ak) (r.hp.inj (ρ c) (ρ d) (by rw[e0];simp) (by rw[e1];simp) he)
  ·obtain⟨k0,h1,J⟩:=O c k hk;have h3:=r.hp.blk (ρ c) k0 h1;cases k with
  |box ty cs =>
    cases k0 with
   |box vo ch =>
     simp only[leB,Ky,Blk.box.injEq] at J;obtain⟨cs',⟨e1,e2⟩,h5⟩:=J;obtain⟨c0,h6,h7⟩:=h3;refine⟨c0,by rw[e1];exact h6,a7 _ _ (aq c _ hk) ?_⟩;rw[e2];exact XM.2 _ _ _ h5 h7
   |_=>simp[leB,Ky] at J
  |arr ty S n =>
    cases k0 with
   |arr vo S0 n0=>simp only[leB,Ky,Blk.arr.injEq] at J;obtain⟨rfl,rfl,rfl⟩:=J;exact h3
   |_=>simp[leB,Ky] at J
  |vec ty S es =>
    cases k0 with
   |vec vo S0 n0 =>
     simp only[leB,Ky,Blk.vec.injEq] at J;obtain⟨rfl,rfl,rfl⟩:=J;obtain⟨c0,cap,g1,g2,g3,g4,g5,g6,g7⟩:=h3;exact⟨c0,cap,g1,g2,g3,g4,g5,g6,N8 bh _ _ g7⟩
   |_=>simp[leB,Ky] at J
  |lp T nf st pd =>
    cases k0 with
   |lp T0 cg cj cf =>
     simp only[leB,Ky,Blk.lp.injEq] at J;obtain⟨rfl,rfl,rfl,rfl⟩:=J;obtain⟨tmps,d,g1,g2,g3⟩:=h3;refine⟨tmps,d,g1,g2,fun t x ht=>?_⟩;have g4:=g3 t (JH ρ x) (by rw[Bw,ht];rfl);exact⟨g4.1,b4 _ _ (Gy (aq c _ hk) ht) g4.2⟩
   |_=>simp[leB,Ky] at J
  |mp es =>
    cases k0 with
   |mp bn =>
     simp only[leB,Ky,Blk.mp.injEq] at J;subst J;obtain⟨en,cl,g1,g2,g3⟩:=h3;refine⟨en,cl,g1,g2,a7 _ _ (R3 _ _) ?_⟩;rw[kW];exact g3
   |_=>simp[leB,Ky] at J
  |mf es =>
    cases k0 with
   |mf bn =>
     simp only[leB,Ky,Blk.mf.injEq] at J;subst J;obtain⟨en,cl,g1,g2,g3,g4⟩:=h3;rw[LY] at g2;rw[LX] at g3;exact⟨en,cl,g1,g2,a7 _ _ (JS (aq c _ hk)) g3,g4⟩
   |_=>simp[leB,Ky] at J
  |mg en cl es =>
    cases k0 with
   |mg cn cd bn =>
     simp only[leB,Ky,Blk.mg.injEq] at J;obtain⟨rfl,rfl,rfl⟩:=J;obtain⟨g1,g2,g3,g4⟩:=h3;rw[LY] at g2;rw[LX] at g3;exact⟨g1,g2,a7 _ _ (JS (aq c _ hk)) g3,g4⟩
   |_=>simp[leB,Ky] at J
  |it m cl sn =>
    cases k0 with
   |it m0 cd cp =>
     simp only[leB,Ky,Blk.it.injEq] at J;obtain⟨e1,rfl,rfl⟩:=J;obtain⟨g1,k1,g2,g3⟩:=h3;obtain⟨km,bv⟩:=RU.1 (aq c _ hk);obtain⟨k2,g4,g5⟩:=O m km bv;rw[←e1] at g1 g2;rw[g2] at g4;cases g4;exact⟨g1,km,bv,QbC (UL g5 g3)⟩
   |_=>simp[leB,Ky] at J
  ·obtain⟨kc,a6⟩:=AP.1 ad;obtain⟨k0,e0,_⟩:=O c kc a6;rcases Z with⟨⟨b,k,h1,J,_⟩|Z,_⟩
   ·obtain⟨h4,h5⟩:=bw b k h1;have:=r.hp.inj b (ρ c) (by rw[h4];simp) (by rw[e0];simp) J;exact h5 (by rw[this];exact List.mem_map_of_mem (ai c ad))
   ·exact r.hp.fr (ρ c) (by rw[e0];simp) o Z
  ·exact Z.2
 refine bj _ _ _ _ _ (bk φc (MB φ hr w M0) w vs b7 (a7 _ _ hok (XM.2 _ _ _ bf ha))) ?_;rintro e w' ⟨ae,bp,h',hR,aw,E,hE⟩;obtain⟨hc',H2,rfl,⟨hd1,hd2,bu⟩,cc,be⟩:=bm bp h' hR;have bd:look H2=look (KP ρ hc' s.H):=funext cc
 have ba:∀b k,look s.H b=some k→b∉(hc.map (·.1)).map ρ→b∉(hc'.map (·.1)).map ρ:=by
  intro b k hb hn Z;obtain⟨c,G,rfl⟩:=List.mem_map.1 Z;rcases hd2 c G with h1|h1
  ·exact hn (List.mem_map_of_mem h1)
  ·rw[h1] at hb;cases hb
 have ar:∀b,b∉(hc'.map (·.1)).map ρ→b∉(hc.map (·.1)).map ρ:=by
  intro b hn Z;obtain⟨c,G,rfl⟩:=List.mem_map.1 Z;exact hn (List.mem_map_of_mem (hd1 c G))
 obtain⟨KK,cq⟩:∃KK,KK=w'.heap.size+((hc'.map (·.1)).map ae).foldr max 0+1:=⟨_,rfl⟩;have Y:∀b,φ b<w.heap.size→YM φ w.heap.size KK b=φ b:=fun b hb=>by simp[YM,hb]
 have aa:∀b,¬φ b<w.heap.size→YM φ w.heap.size KK b=φ b+KK:=fun b hb=>by simp[YM,hb]
 have br:∀b c,c∈hc'.map (·.1)→¬φ b<w.heap.size→ae c<YM φ w.heap.size KK b:=by
  intro b c G hb;have:=Fx ((hc'.map (·.1)).map ae) (ae c) (List.mem_map_of_mem G);rw[aa b hb];omega
 have bb:∀b d,YM φ w.heap.size KK b=YM φ w.heap.size KK d→φ b=φ d:=by
  intro b d e;by_cases e1:φ b<w.heap.size<;>by_cases e2:φ d<w.heap.size
  ·rw[Y b e1,Y d e2] at e;exact e
  ·rw[Y b e1,aa d e2] at e;omega
  ·rw[aa b e1,Y d e2] at e;omega
  ·rw[aa b e1,aa d e2] at e;omega
 have hex:∃φ':Nat→Nat,(∀c,c∈hc'.map (·.1)→φ' (ρ c)=ae c)∧(∀b,b∉(hc'.map (·.1)).map ρ→φ' b=YM φ w.heap.size KK b):=by
  refine⟨fun b=>match (hc'.map (·.1)).find? (fun c=>ρ c==b) with|some c=>ae c|none=>YM φ w.heap.size KK b,fun c ad=>?_,fun b hb=>?_⟩
  ·cases hf:(hc'.map (·.1)).find? (fun d=>ρ d==ρ c) with
  |none =>
    have:=List.find?_eq_none.1 hf c ad;simp at this
  |some d =>
    have h1:=List.find?_some hf;have J:=List.mem_of_find?_eq_some hf;simp only[beq_iff_eq] at h1;simp only[hf];rw[bu d J c ad h1]
  ·cases hf:(hc'.map (·.1)).find? (fun d=>ρ d==b) with
  |none=>simp only[hf]
  |some d =>
    have h1:=List.find?_some hf;have J:=List.mem_of_find?_eq_some hf;simp only[beq_iff_eq] at h1;exact absurd (by rw[←h1];exact List.mem_map_of_mem J) hb
 obtain⟨φ',U,ac⟩:=hex;have an:∀c k,look hc' c=some k→c∈hc'.map (·.1):=fun c k hk=>Vz.1 (by rw[hk];simp)
 have ab:∀c k,look hc' c=some k→look (KP ρ hc' s.H) (ρ c)=some (Ky ρ k):=by
  intro c k hk;unfold KP;rw[Cj,I8 (fun x y hx hy bx=>bu x hx y (by rcases List.mem_cons.1 hy with rfl|hy;exact an _ _ hk;exact hy) bx),hk];rfl
 have ah:∀b,b∉(hc'.map (·.1)).map ρ→look (KP ρ hc' s.H) b=look s.H b:=by
  intro b hb;unfold KP;rw[Cj,Me (fun c ad e=>hb (by rw[←e];exact List.mem_map_of_mem ad))]
 have al:∀b k,look (KP ρ hc' s.H) b=some k→(∃c k',look hc' c=some k'∧ρ c=b∧k=Ky ρ k')∨(b∉(hc'.map (·.1)).map ρ∧look s.H b=some k):=by
  intro b k hb;by_cases Z:b∈(hc'.map (·.1)).map ρ
  ·obtain⟨c,G,rfl⟩:=List.mem_map.1 Z;obtain⟨k',bt⟩:=AP.1 (Vz.2 G);rw[ab c k' bt] at hb;exact .inl ⟨c,k',bt,rfl,(Option.some.inj hb).symm⟩
  ·exact .inr ⟨Z,by rw[←ah b Z];exact hb⟩
 have a8:∀x o,DD φ' (look (KP ρ hc' s.H)) x o→DD ae (look hc') x o∨(DD φ hr x o∧x<w.heap.size)∨w'.heap.size≤x:=by
  rintro x o ⟨b,k,h1,J,h3⟩;rcases al b k h1 with⟨c,k',g1,rfl,rfl⟩|⟨g1,g2⟩
  ·left;refine⟨c,k',g1,?_,?_⟩
   ·rw[←U c (an _ _ g1)];exact J
   ·cases k'<;>exact h3
  ·right;rw[ac b g1] at J;by_cases hlt:φ b<w.heap.size
   ·rw[Y b hlt] at J;exact .inl ⟨⟨b,k,by simp only[hr];rw[if_neg (ar b g1)];exact g2,J,h3⟩,by omega⟩
   ·rw[aa b hlt] at J;exact .inr zo
 have bl:∀x o v,w'.cell? ⟨x,o,none⟩=some v→MM φ' (look (KP ρ hc' s.H)) M0 x o→MM ae (look hc') (MB φ hr w M0) x o:=by
  rintro x o v bi (h1|h1)
  ·rcases a8 x o h1 with J|J|J
   ·exact .inl J
   ·exact .inr ⟨.inl J.1,J.2⟩
   ·have:=NA bi;omega
  ·exact .inr ⟨.inr h1,r.hp.lt x o h1⟩
 obtain⟨ax,ay⟩:=wH (w:=w') (ρ:=ρ) (φ:=φ') (φc:=ae) (h:=look (KP ρ hc' s.H)) (hc:=look hc') (fun c ad=>U c (Vz.1 ad)) bl ab
 have b3:Zl φ (look s.H) w φ' (look (KP ρ hc' s.H)) w'∧VQ φ (look s.H) w φ' (look (KP ρ hc' s.H)) w':=by
  have hb:∀b ty cs,look s.H b=some (.box ty cs)→(∃cs',look (KP ρ hc' s.H) b=some (.box ty cs'))∧φ' b=φ b:=by
   intro b ty cs hb;by_cases Z:b∈(hc.map (·.1)).map ρ
   ·obtain⟨c,G,rfl⟩:=List.mem_map.1 Z;obtain⟨k,hk⟩:=AP.1 (Vz.2 G);obtain⟨k0,e0,e1⟩:=O c k hk;rw[hb] at e0;cases e0;cases k with
   |box EX b9 =>
     simp only[leB,Ky,Blk.box.injEq] at e1;obtain⟨cm,⟨e2,_⟩,_⟩:=e1;obtain⟨⟨b8,e3⟩,e4⟩:=E.kb c EX b9 (av c G) hk;refine⟨⟨Ja ρ b8,by rw[ab c _ e3,e2];rfl⟩,by rw[U c (hd1 c G),e4]⟩
   |_=>simp[leB,Ky] at e1
   ·have aj:=ba b _ hb Z;exact⟨⟨cs,by rw[ah b aj];exact hb⟩,(ac b aj).trans (FQ r.hp KK hb (fun _ _ e=>by cases e))⟩
  have ht:∀t ty S n,look s.H t=some (.arr ty S n)→∃n',look (KP ρ hc' s.H) t=some (.arr ty S n')∧n≤n' ∧
    (n'=n→AKept w w' (φ t) (φ' t) ty):=by
   intro t ty S n af;by_cases Z:t∈(hc.map (·.1)).map ρ
   ·obtain⟨c,G,rfl⟩:=List.mem_map.1 Z;obtain⟨k,hk⟩:=AP.1 (Vz.2 G);obtain⟨k0,e0,e1⟩:=O c k hk;rw[af] at e0;cases e0;cases k with
   |arr EX S1 n1 =>
     simp only[leB,Ky,Blk.arr.injEq] at e1;obtain⟨rfl,rfl,rfl⟩:=e1;obtain⟨n',e3,e4,e5⟩:=E.kt c EX S1 n1 (av c G) hk;refine⟨n',by rw[ab c _ e3];rfl,e4,fun e6=>?_⟩;obtain⟨e9,ca⟩:=e5 e6;refine⟨fun h0=>by rw[U c (hd1 c G)];exact e9 h0,?_⟩;rcases ca with e7|⟨e7,e8⟩
     ·exact .inl e7
     exact .inr ⟨by rw[U c (hd1 c G),e7],e8⟩
   |_=>simp[leB,Ky] at e1
   ·have aj:=ba t _ af Z;refine⟨n,by rw[ah t aj];exact af,Yf _,fun _=>?_⟩;by_cases hlt:φ t<w.heap.size;rotate_left
    ·exact MH (Kz zo) (by rw[ac t aj,aa t hlt];exact Kz zo)
    refine VN ((ac t aj).trans (Y t hlt)) (E.same (φ t) hlt (fun d ak he=>?_))
    ·obtain⟨kd,ao⟩:=AP.1 ak;obtain⟨k0,e0,_⟩:=O d kd ao;have:=r.hp.inj (ρ d) t (by rw[e0];simp) (by rw[af];simp) he;exact Z (by rw[←this];exact List.mem_map_of_mem (ai d ak))
  have hv:∀t ty S n,look s.H t=some (.vec ty S n)→∃n',look (KP ρ hc' s.H) t=some (.vec ty S n')∧n.length≤n'.length ∧
    (n'.length=n.length→φ' t=φ t∧∀c,w.heap[φ t]?=some (.cells c ty (0,0))→∃c',w'.heap[φ t]?=some (.cells c' ty (0,0))∧c'.size=c.size):=by
   intro t ty S n af;by_cases Z:t∈(hc.map (·.1)).map ρ
   ·obtain⟨c,G,rfl⟩:=List.mem_map.1 Z;obtain⟨k,hk⟩:=AP.1 (Vz.2 G);obtain⟨k0,e0,e1⟩:=O c k hk;rw[af] at e0;cases e0;cases k with
   |vec EX S1 n1 =>
     simp only[leB,Ky,Blk.vec.injEq] at e1;obtain⟨rfl,rfl,rfl⟩:=e1;obtain⟨n',e3,e4,e5⟩:=E.kv c EX S1 n1 (av c G) hk;refine⟨n',by rw[ab c _ e3];rfl,e4,fun e6=>?_⟩;obtain⟨e7,e8⟩:=e5 e6;exact⟨by rw[U c (hd1 c G),e7],e8⟩
   |_=>simp[leB,Ky] at e1
   ·have aj:=ba t _ af Z;refine⟨n,by rw[ah t aj];exact af,Yf _,fun _=>⟨(ac t aj).trans (Y t (vD r.hp af)),fun c ad=>⟨c,?_,rfl⟩⟩⟩;rw[E.same (φ t) (vD r.hp af) (fun d ak he=>?_)]
    ·exact ad
    ·obtain⟨kd,ao⟩:=AP.1 ak;obtain⟨k0,e0,_⟩:=O d kd ao;have:=r.hp.inj (ρ d) t (by rw[e0];simp) (by rw[af];simp) he;exact Z (by rw[←this];exact List.mem_map_of_mem (ai d ak))
  have bo:∀b k x,look s.H b=some k→k.ob=some x→(∃k',look (KP ρ hc' s.H) b=some k'∧k'.ob=some x)∧φ' b=φ b:=by
   intro b k x hb ho;by_cases Z:b∈(hc.map (·.1)).map ρ
   ·obtain⟨c,G,rfl⟩:=List.mem_map.1 Z;obtain⟨k2,hk⟩:=AP.1 (Vz.2 G);obtain⟨k0,e0,e1⟩:=O c k2 hk;rw[hb] at e0;cases e0;have e2:=UL e1 ho;rw[Uh] at e2;cases ho2:k2.ob with
   |none=>rw[ho2] at e2;cases e2
   |some x2 =>
     rw[ho2] at e2;obtain⟨⟨k',e3,e4⟩,e5⟩:=E.ko c k2 x2 (av c G) hk ho2;exact⟨⟨Ky ρ k',ab c _ e3,by rw[Uh,e4];exact e2⟩,by rw[U c (hd1 c G),e5]⟩
   ·have aj:=ba b _ hb Z;exact⟨⟨k,by rw[ah b aj];exact hb,ho⟩,(ac b aj).trans (FQ r.hp KK hb (fun ty S e=>by rw[e] at ho;cases ho))⟩
  refine⟨⟨E.os,E.tape,E.output,E.size,fun x hx b5=>E.same x hx (fun c ad he=>?_),fun x o hx Z=>E.cell x o hx (fun h1=>Z (au x o h1)),fun x o hx Z=>?_,fun b ty cs _ bc=>hb b ty cs bc,fun t ty S n _ af=>ht t ty S n af,fun t ty S n _ af=>hv t ty S n af,fun b k x _=>bo b k x⟩,
   fun b ty cs bc=>⟨(hb b ty cs bc).1.elim fun cs' h=>⟨ty,cs',h⟩,(hb b ty cs bc).2⟩,ht,hv,bo⟩
  ·obtain⟨kc,a6⟩:=AP.1 ad;obtain⟨k0,e0,_⟩:=O c kc a6;exact b5 (ρ c) (by rw[e0];simp) he
  ·rcases a8 x o Z with h1|h1|h1
   ·exact au x o (E.mu x o hx h1)
   ·exact az x o h1.1
   ·have:=E.size;omega
 obtain⟨E1,X1⟩:=b3
 have bz:Z9 φ' (look (KP ρ hc' s.H)) w' M0:=by
  refine⟨fun b d hb ce he=>?_,fun b k hb=>?_,fun b hb o Z=>?_,fun x o Z=>Nat.lt_of_lt_of_le (r.hp.lt x o Z) E.size,r.hp.gm.evol E1⟩
  ·obtain⟨kb,bg⟩:=AP.1 hb;obtain⟨kd,ao⟩:=AP.1 ce
   have mixed:∀c k' b k,look hc' c=some k'→b∉(hc'.map (·.1)).map ρ→look s.H b=some k→ae c≠YM φ w.heap.size KK b:=by
    intro c k' b k g1 g2 g3 g4;by_cases hlt:φ b<w.heap.size;rotate_left
    ·have:=br b c (an _ _ g1) hlt;omega
    rw[Y b hlt] at g4;have b6:hr b=some k:=by simp only[hr];rw[if_neg (ar b g2)];exact g3
    obtain⟨o,ho⟩:=Nz (φ:=φ) b6;exact aw.fr c (by rw[g1];simp) o (by rw[g4];exact⟨.inl ho,hlt⟩)
   rcases al b kb bg with⟨c,k',g1,rfl,_⟩|⟨g1,g2⟩<;>rcases al d kd ao with⟨c2,k2,g3,rfl,_⟩|⟨g3,g4⟩
   ·rw[U c (an _ _ g1),U c2 (an _ _ g3)] at he;rw[aw.inj c c2 (by rw[g1];simp) (by rw[g3];simp) he]
   ·rw[U c (an _ _ g1),ac d g3] at he;exact absurd he (mixed c k' d kd g1 g3 g4)
   ·rw[U c2 (an _ _ g3),ac b g1] at he;exact absurd he.symm (mixed c2 k2 b kb g3 g1 g2)
   ·rw[ac b g1,ac d g3] at he;exact r.hp.inj b d (by rw[g2];simp) (by rw[g4];simp) (bb b d he)
  ·rcases al b k hb with⟨c,k',g1,rfl,rfl⟩|⟨g1,g2⟩
   ·rw[U c (an _ _ g1)];have:=aw.blk c k' g1;cases k' with
   |box ty cs=>obtain⟨c0,h1,J⟩:=this;exact⟨c0,h1,ay _ _ J⟩
   |arr ty S n=>exact this
   |vec ty S es=>obtain⟨c0,cap,q1,q2,q3,q4,q5,q6,q7⟩:=this;exact⟨c0,cap,q1,q2,q3,q4,q5,q6,EE bl _ _ q7⟩
   |lp T nf st pd =>
     obtain⟨tmps,d,q1,q2,q3⟩:=this;refine⟨tmps,d,q1,q2,fun t x ht=>?_⟩;rw[Bw] at ht;cases hl:look T t with
    |none=>rw[hl] at ht;cases ht
    |some y =>
      rw[hl] at ht;cases ht;exact⟨(q3 t y hl).1,ax _ _ (q3 t y hl).2⟩
   |mp es =>
     obtain⟨en,cl,q1,q2,q3⟩:=this;refine⟨en,cl,q1,q2,?_⟩;have:=ay _ _ q3;rw[kW] at this;exact this
   |mf es =>
     obtain⟨en,cl,q1,q2,q3,q4⟩:=this;exact⟨en,cl,q1,by rw[LY];exact q2,by rw[LX];exact ay _ _ q3,q4⟩
   |mg en cl es =>
     obtain⟨q1,q2,q3,q4⟩:=this;exact⟨q1,by rw[LY];exact q2,by rw[LX];exact ay _ _ q3,q4⟩
   |it m cl sn =>
     obtain⟨q1,k2,q2,q3⟩:=this;exact⟨by rw[U m (an _ _ q2)];exact q1,Ky ρ k2,ab m _ q2,by rw[Uh,q3];rfl⟩
   ·rw[ac b g1];by_cases hlt:φ b<w.heap.size;rotate_left
    ·refine Ku (E1.keeps M0) X1 ?_ (r.hp.blk b k g2);rw[Kz (by omega:w.heap.size≤φ b),Kz (by rw[aa b hlt];omega)]
    rw[Y b hlt];refine Ku (E1.keeps M0) X1 (E.same (φ b) hlt (fun d ak he=>?_)) (r.hp.blk b k g2);obtain⟨kd,ao⟩:=AP.1 ak;obtain⟨k0,e0,_⟩:=O d kd ao;have:=r.hp.inj (ρ d) b (by rw[e0];simp) (by rw[g2];simp) he;exact ar b g1 (by rw[←this];exact List.mem_map_of_mem (ai d ak))
  ·obtain⟨kb,bg⟩:=AP.1 hb;rcases al b kb bg with⟨c,k',g1,rfl,_⟩|⟨g1,g2⟩
   ·rw[U c (an _ _ g1)] at Z;exact aw.fr c (by rw[g1];simp) o ⟨.inr Z,r.hp.lt _ _ Z⟩
   ·rw[ac b g1] at Z;by_cases hlt:φ b<w.heap.size
    ·rw[Y b hlt] at Z;exact r.hp.fr b (by rw[g2];simp) o Z
    ·have:=r.hp.lt _ _ Z;rw[aa b hlt] at this;omega
 have r1:ZG φ' M0 N D (look s.T) (look H2) a w':=by rw[bd];exact r.keep E1 X1 bz
 rw[←bd] at E1 ax;cases bp with
|ret x =>
  obtain⟨v,rfl,hv⟩:=hE;refine⟨φ',_,be,ZG.put (s:=⟨s.T,H2⟩) r1 hd (ax _ _ hv),?_⟩;cases dst<;>exact E1
|panic x =>
  obtain⟨v,rfl,hv⟩:=hE;exact⟨φ',.panic (JH ρ x),_,be,r1,E1,v,rfl,ax _ _ hv⟩
theorem MQ(ρ:Nat→Nat)(G:V7 P f args' (look hc) R)(J:NS args (Ja ρ args'))(hok:KR (look hc) args'=true)(Y:∀c∈hc.map (·.1),1000≤c)(O:∀c k,look hc c=some k→okRefB (look hc) k=true)(Z:∀c k,look hc c=some k→∃k0,look s.H (ρ c)=some k0∧leB k0 (Ky ρ k))(aa:∀c∈hc.map (·.1),∀d∈hc.map (·.1),ρ c=ρ d→c=d)(hd:∀t,dst=some t→t<N)(U:∀r h',R r h'→∃hc' H2,h'=look hc'∧F4 ρ hc hc' s.H∧(∀b,look H2 b=look (KP ρ hc' s.H) b) ∧
   (match r with|.ret x=>K (St.put ⟨s.T,H2⟩ dst (JH ρ x))|.panic x=>Q (.panic (JH ρ x)) ⟨s.T,H2⟩)):TF P N f args dst s K Q :=
 fun φ M0 D a w vs r ha=>MP (C:=fun _ vs w R=>Calls P f vs w R) (fun _ _ _ _ _ h hq=>h.mono hq) ρ G J hok Y O Z aa hd U φ M0 D a w vs r ha
theorem YAt.mono{l:Nat}{args:Array Value}{R G:Ending→World→Prop}(h:YAt P l args w R)(J:∀e w',R e w'→G e w'):YAt P l args w G:=by
 obtain⟨fn,tmps,assign,body,U,O⟩:=h;exact⟨fn,tmps,assign,body,U,O.mono J⟩
theorem wI(ρ:Nat→Nat)(G:dH P b args' (look hc) R)(J:NS args (Ja ρ args'))(hok:KR (look hc) args'=true)(Y:∀c∈hc.map (·.1),1000≤c)(O:∀c k,look hc c=some k→okRefB (look hc) k=true)(Z:∀c k,look hc c=some k→∃k0,look s.H (ρ c)=some k0∧leB k0 (Ky ρ k))(aa:∀c∈hc.map (·.1),∀d∈hc.map (·.1),ρ c=ρ d→c=d)(hd:∀t,dst=some t→t<N)(U:∀r h',R r h'→∃hc' H2,h'=look hc'∧F4 ρ hc hc' s.H∧(∀b,look H2 b=look (KP ρ hc' s.H) b) ∧
   (match r with|.ret x=>K (St.put ⟨s.T,H2⟩ dst (JH ρ x))|.panic x=>Q (.panic (JH ρ x)) ⟨s.T,H2⟩)):YEx P N (ρ b) args dst s K Q :=
 fun φ M0 D a w vs r ha=>MP (C:=fun φ vs w R=>YAt P (φ b) vs w R) (fun _ _ _ _ _ h hq=>h.mono hq) ρ G J hok Y O Z aa hd U φ M0 D a w vs r ha
def Al(P:Program)(fn:Func)(hc:List (Nat×Blk))(R:KN→QY→Prop)(s:St):Prop :=∃x y hc',Cf P fn (look s.T) (look s.H)=some x∧le x y∧Kv (look hc') y=true∧BL (look s.H) (look hc') hc'∧YR (look hc') hc=true∧R (.ret y) (look hc')
def gp(P:Program)(fn:Func)(hc:List (Nat×Blk))(R:KN→QY→Prop):AX→St→Prop|.ret,s=>Al P fn hc R s|.normal,s=>Al P fn hc R s|.panic x,s=>∃y hc',le x y∧Kv (look hc') y=true∧BL (look s.H) (look hc') hc'∧YR (look hc') hc=true∧R (.panic y) (look hc')|.exit _,_=>False
theorem N9(r:ZG φ M0 N D (look s.T) (look s.H) a w)(E:Zl φ0 (look hc) w0 φ (look s.H) w)(h1:BL (look s.H) (look hc') hc')(h2:YR (look hc') hc=true) :
  Z9 φ (look hc') w M0∧Zl φ0 (look hc) w0 φ (look hc') w∧∀x v,Kv (look hc') x=true→Qg φ (look s.H) w (MM φ (look s.H) M0) x v→Qg φ (look hc') w (MM φ (look hc') M0) x v:=by
 have hh:∀b k',look hc' b=some k'→∃k,look s.H b=some k∧leB k k':=fun b k' hb=>(Xx h1 b k' hb).1
 have aa:∀r o,DD φ (look hc') r o→DD φ (look s.H) r o:=by
  rintro x o ⟨b,k',g1,g2,g3⟩;obtain⟨k,g4,g5⟩:=hh b k' g1;refine⟨b,k,g4,g2,?_⟩;cases k with
 |arr ty S n=>simp only[leB] at g5;subst g5;exact g3
 |_=>trivial
 have hM:∀r o,MM φ (look hc') M0 r o→MM φ (look s.H) M0 r o:=fun x o hx=>hx.elim (fun h=>.inl (aa x o h)) .inr
 have Z:∀b,look hc' b≠none→look s.H b≠none:=fun b hb=>by
  cases hq:look hc' b with
 |none=>exact absurd hq hb
 |some k'=>obtain⟨k,h1,_⟩:=hh b k' hq;rw[h1];simp
 obtain⟨c1,c2⟩:=N7 (φ:=φ) (w:=w) hM hh;refine⟨⟨fun b c hb hc=>r.hp.inj b c (Z b hb) (Z c hc),fun b k' hb=>?_,fun b hb=>r.hp.fr b (Z b hb),r.hp.lt,r.hp.gm.sub hM⟩,?_,fun x v hx hv=>c1 x v hx hv⟩
 ·obtain⟨⟨k,g1,g2⟩,g3⟩:=Xx h1 b k' hb;have g4:=r.hp.blk b k g1;cases k with
 |box ty cs =>
   simp only[leB] at g2;obtain⟨cs',rfl,g5⟩:=g2;obtain⟨c,g6,g7⟩:=g4;exact⟨c,g6,c2 _ _ g3 (XM.2 _ _ _ g5 g7)⟩
 |arr ty S n=>simp only[leB] at g2;subst g2;exact g4
 |vec ty S es=>simp only[leB] at g2;subst g2;obtain⟨c,cap,Y,J,G,q4,q5,q6,q7⟩:=g4;exact⟨c,cap,Y,J,G,q4,q5,q6,c2 _ _ (NZ _ _) q7⟩
 |lp T nf st pd=>simp only[leB] at g2;subst g2;obtain⟨tmps,d,Y,J,G⟩:=g4;exact⟨tmps,d,Y,J,fun t x ht=>⟨(G t x ht).1,c1 _ _ (Gy g3 ht) (G t x ht).2⟩⟩
 |mp es=>simp only[leB] at g2;subst g2;obtain⟨en,cl,Y,J,G⟩:=g4;exact⟨en,cl,Y,J,c2 _ _ (R3 _ _) G⟩
 |mf es=>simp only[leB] at g2;subst g2;obtain⟨en,cl,Y,J,G,q4⟩:=g4;exact⟨en,cl,Y,J,c2 _ _ (JS g3) G,q4⟩
 |mg en cl es=>simp only[leB] at g2;subst g2;obtain⟨Y,J,G,q4⟩:=g4;exact⟨Y,J,c2 _ _ (JS g3) G,q4⟩
 |it m cl sn =>
   simp only[leB] at g2;subst g2;obtain⟨Y,k0,J,G⟩:=g4;obtain⟨km,ab⟩:=RU.1 g3;obtain⟨k1,q5,q6⟩:=hh m km ab;rw[J] at q5;cases q5;exact⟨Y,km,ab,UL q6 G⟩
 ·refine⟨E.os,E.tape,E.output,E.size,E.same,E.cell,fun x o hx hm=>E.mu x o hx (aa x o hm),?_,?_,?_,?_⟩
  ·intro b ty cs hb O;obtain⟨⟨ac,g1⟩,g2⟩:=E.kb b ty cs hb O;obtain⟨k',g3⟩:=Yq h2 b _ hb O;obtain⟨k,g4,g5⟩:=hh b k' g3;rw[g1] at g4;cases g4;simp only[leB] at g5;obtain⟨cs',g6,_⟩:=g5;exact⟨⟨cs',by rw[g3,g6]⟩,g2⟩
  ·intro t ty S n ht U;obtain⟨n',g1,g2,g3⟩:=E.kt t ty S n ht U;obtain⟨k',g4⟩:=Yq h2 t _ ht U;obtain⟨k,g5,g6⟩:=hh t k' g4;rw[g1] at g5;cases g5;simp only[leB] at g6;exact⟨n',by rw[g4,g6],g2,g3⟩
  ·intro t ty S n ht U;obtain⟨n',g1,g2,g3⟩:=E.kv t ty S n ht U;obtain⟨k',g4⟩:=Yq h2 t _ ht U;obtain⟨k,g5,g6⟩:=hh t k' g4;rw[g1] at g5;cases g5;simp only[leB] at g6;exact⟨n',by rw[g4,g6],g2,g3⟩
  ·intro b k x hb O ho;obtain⟨⟨k1,g1,g2⟩,g3⟩:=E.ko b k x hb O ho;obtain⟨k',g4⟩:=Yq h2 b _ hb O;obtain⟨k2,g5,g6⟩:=hh b k' g4;rw[g1] at g5;cases g5;exact⟨⟨k',g4,UL g6 g2⟩,g3⟩
theorem I9(r:ZG φ M0 N D (look s.T) (look s.H) a w)(E:Zl φ0 (look hc) w0 φ (look s.H) w)(h:Al P fn hc R s):∃v,(results fn a.tmps).run P w=.ok v w∧Out R φ0 (look hc) w0 M0 (.returned v) w:=by
 obtain⟨x,y,hc',Y,O,G,h4,h5,U⟩:=h;obtain⟨v,g1,g2⟩:=u7 r Y;obtain⟨k1,J,Z⟩:=N9 r E h4 h5;exact⟨v,g1,φ,.ret y,look hc',U,k1,J,v,rfl,Z _ _ G (XM.1 _ _ _ O g2)⟩
theorem SX(hf:P.funcs[f]?=some fn)(hb:fn.body=some c)(O:args.length≤fn.ntmps)(h:Ex P fn.ntmps none c ⟨Xg 0 args,hc⟩ (gp P fn hc R)):V7 P f args (look hc) R:=by
 intro φ M0 w vs hH J;refine SV hf hb O hH J h ?_ ?_ ?_
 ·intro x s φ' a w' G hx r E;exact I9 r E (by rcases hx with rfl|rfl<;>exact G)
 ·intro x s φ' a w' v G r E Y;obtain⟨y,hc',g1,g2,g3,g4,g5⟩:=G;obtain⟨k1,Z,U⟩:=N9 r E g3 g4;exact⟨φ',.panic y,look hc',g5,k1,Z,v,rfl,U _ _ g2 (XM.1 _ _ _ g1 Y)⟩
 ·intro i s G;exact G
def xK:AV:=.p (.val .nilIface)
theorem EF:∀{a b:List Nat},(a.map fun r=>({ target:=.collected r,args:=#[] }:Deferred))=(b.map fun r=>({ target:=.collected r,args:=#[] }:Deferred))→a=b
|[],[],_=>rfl
|[],_::_,h=>by cases h
|_::_,[],h=>by cases h
|x::a,y::b,h=>by
  simp only[U8,List.cons.injEq,Deferred.mk.injEq,Target.collected.injEq,and_true] at h;rw[h.1,EF h.2]
theorem eZ{T:List (Nat×AV)}{st':LoopState}{pd':Option Code}{o:Obj}(hb:h b=some (.lp T nf st pd))(ac:∀c t f,w.heap[φ b]?≠some (.cells c t f))(r:Z9 φ h w M0)(ho:∀(φ':Nat→Nat) (h':QY) (w':World) (M:ZQ),True) :
  Zl φ h w φ (upd h b (.lp T nf st' pd')) (w.putObj (φ b) o)∧VQ φ h w φ (upd h b (.lp T nf st' pd')) (w.putObj (φ b) o):=by
 have hlt:=Bf r hb (fun _ _ e=>by cases e);have G:∀x,x≠φ b→(w.putObj (φ b) o).heap[x]?=w.heap[x]?:=fun x hx=>World.putObj_heap_other hx
 have hne:∀c k,h c=some k→k.ob=none→¬b=c:=fun c k hc hk e=>by rw[←e,hb] at hc;cases hc;cases hk
 have U:∀c k,h c=some k→¬b=c→φ c≠φ b:=fun c k hc e h2=>e (r.inj c b (by rw[hc];simp) (by rw[hb];simp) h2).symm
 have Z:∀c ty cs,h c=some (.box ty cs)→upd h b (.lp T nf st' pd') c=some (.box ty cs):=fun c ty cs hc=>by simp[upd,hne c _ hc rfl,hc]
 have aa:∀t ty S n,h t=some (.arr ty S n)→∃n',upd h b (.lp T nf st' pd') t=some (.arr ty S n')∧n≤n'∧(n'=n→AKept w (w.putObj (φ b) o) (φ t) (φ t) ty):=by
  intro t ty S n J;have e:=hne t _ J rfl;exact⟨n,by simp[upd,e,J],Yf _,fun _=>VN (rfl) (by rw[G _ (U t _ J e)])⟩
 have O:∀t ty S es,h t=some (.vec ty S es)→∃es',upd h b (.lp T nf st' pd') t=some (.vec ty S es')∧es.length≤es'.length∧(es'.length=es.length→φ t=φ t∧∀c,w.heap[φ t]?=some (.cells c ty (0,0))→∃c',(w.putObj (φ b) o).heap[φ t]?=some (.cells c' ty (0,0))∧c'.size=c.size):=by
  intro t ty S n J;have e:=hne t _ J rfl;exact⟨n,by simp[upd,e,J],Yf _,fun _=>⟨rfl,fun c hc=>⟨c,by rw[G _ (U t _ J e)];exact hc,rfl⟩⟩⟩
 have Y:∀c k x,h c=some k→k.ob=some x→(∃k',upd h b (.lp T nf st' pd') c=some k'∧k'.ob=some x)∧φ c=φ c:=by
  intro c k x hc ho;by_cases e:b=c
  ·subst e;rw[hb] at hc;cases hc;exact⟨⟨.lp T nf st' pd',by simp[upd],ho⟩,rfl⟩
  ·exact⟨⟨k,by simp[upd,e,hc],ho⟩,rfl⟩
 refine⟨⟨rfl,rfl,rfl,by simp,?_,?_,?_,fun c ty cs _ hc=>⟨⟨cs,Z c ty cs hc⟩,rfl⟩,fun t ty S n _=>aa t ty S n,fun t ty S es _=>O t ty S es,fun c k x _=>Y c k x⟩,fun c ty cs hc=>⟨⟨ty,cs,Z c ty cs hc⟩,rfl⟩,aa,O,Y⟩
 ·intro x _ ab;exact G x (fun e=>ab b (by rw[hb];simp) e.symm)
 ·intro x y _ hm;have:x≠φ b:=fun e=>hm ⟨b,_,hb,e.symm,trivial⟩
  simp[World.cell?,G x this]
 ·rintro x y _ ⟨d,q,h1,h2,h3⟩;by_cases e:b=d
  ·exact⟨b,_,hb,by rw[e];exact h2,trivial⟩
  ·exact⟨d,q,by simpa [upd,e] using h1,h2,h3⟩
theorem xL{G:List (Nat×AV)}(r:ZG φ M0 N D T h a w)(hb:h b=some (.lp G nf st pd)) :
  ∃rec:Loop,w.heap[φ b]?=some (.loop rec)∧rec.state=st∧rec.pending=pd∧rec.fn=nf.fn∧rec.params=nf.ps∧rec.assign=nf.assign∧rec.body=nf.body∧rec.tmps.size=nf.N ∧
   (∀t x,look G t=some x→t<nf.N∧Qg φ h w (MM φ h M0) x (rec.tmps.getD t undef)) ∧
   ∀st' pd',ZG φ M0 N D T (upd h b (.lp G nf st' pd')) a (w.putObj (φ b) (.loop { rec with state:=st',pending:=pd' }))∧Zl φ h w φ (upd h b (.lp G nf st' pd')) (w.putObj (φ b) (.loop { rec with state:=st',pending:=pd' })):=by
 obtain⟨tmps,d,Z,J,U⟩:=r.hp.blk b _ hb;refine⟨_,Z,rfl,rfl,rfl,rfl,rfl,rfl,J,U,fun st' pd'=>?_⟩;obtain⟨E,X⟩:=eZ (st':=st') (pd':=pd') (o:=.loop { state:=st',pending:=pd',fn:=nf.fn,tmps:=tmps,params:=nf.ps,assign:=nf.assign,body:=nf.body,defers:=d }) hb (by rw[Z];simp) r.hp (fun _ _ _ _=>trivial);refine⟨r.keep E X ?_,E⟩;have hlt:=Bf r.hp hb (fun _ _ e=>by cases e)
 have g:∀d,upd h b (.lp G nf st' pd') d≠none→h d≠none:=fun d O=>by
  by_cases e:b=d
  ·rw[←e,hb];simp
  ·simpa [upd,e] using O
 refine⟨fun c d hc O he=>r.hp.inj c d (g c hc) (g d O) he,fun c k hc=>?_,fun c hc=>r.hp.fr c (g c hc),fun x o hx=>by simpa using r.hp.lt x o hx,r.hp.gm.evol E⟩;by_cases e:b=c
 ·subst e;have:k=.lp G nf st' pd':=by simpa [upd] using hc.symm
  subst this;exact⟨tmps,d,World.putObj_heap_same hlt,J,fun t x Y=>⟨(U t x Y).1,(QZ (E.keeps M0) X).1 _ _ (U t x Y).2⟩⟩
 ·have hc':h c=some k:=by simpa [upd,e] using hc
  refine Ku (E.keeps M0) X (World.putObj_heap_other fun J=>e (r.hp.inj c b (by rw[hc'];simp) (by rw[hb];simp) J).symm) (r.hp.blk c k hc')
def psT:List Tmp→List AV→List (Nat×AV)→List (Nat×AV)|p::ps,x::xs,T=>psT ps xs ((p,x)::T)|_,_,T=>T
theorem gq{φ:Nat→Nat}{h:QY}{w:World}{M:ZQ}{N:Nat}:∀(ps:List Tmp) (xs:List AV) (J:List Value) (T:List (Nat×AV)) (tmps:Array Value),(∀p∈ps,p<N)→ps.length=xs.length→Ql φ h w M xs J→tmps.size=N →
  (∀t x,look T t=some x→t<N∧Qg φ h w M x (tmps.getD t undef)) →
  ((ps.zip J).foldl (fun tmps (p:Tmp×Value)=>tmps.setIfInBounds p.1 p.2) tmps).size=N∧∀t x,look (psT ps xs T) t=some x→t<N∧Qg φ h w M x (((ps.zip J).foldl (fun tmps (p:Tmp×Value)=>tmps.setIfInBounds p.1 p.2) tmps).getD t undef)
|[],xs,J,T,tmps,_,U,Z,hs,Y=>by
  have:xs=[]:=List.eq_nil_of_length_eq_zero (by simpa using U.symm);subst this;simp only[List.zip_nil_left,List.foldl_nil,psT];exact⟨hs,Y⟩
|p::ps,[],J,T,tmps,_,U,Z,hs,Y=>by simp at U
|p::ps,x::xs,J,T,tmps,hp,U,Z,hs,Y=>by
  simp only[Ql] at Z;obtain⟨v,aa,rfl,h1,h2⟩:=Z;simp only[List.zip_cons_cons,List.foldl_cons,psT];refine gq ps xs aa _ _ (fun q hq=>hp q (by simp[hq])) (by simpa using U) h2 (by simpa using hs) ?_;intro t y G;simp only[look] at G;have O:=hp p zq;by_cases e:p=t
  ·simp only[e,if_true,Zf] at G;subst G;refine⟨e▸O,?_⟩;have:(tmps.setIfInBounds p v).getD t undef=v:=by subst e;simp[hs,O]
   rw[this];exact h1
  ·simp only[e,if_false] at G;refine⟨(Y t y G).1,?_⟩;have:(tmps.setIfInBounds p v).getD t undef=tmps.getD t undef:=by simp[Array.getElem?_setIfInBounds_ne e]
   rw[this];exact(Y t y G).2
def Cm(H:List (Nat×Blk))(b:Nat)(T:List (Nat×AV))(nf:Dj)(R:KN→QY→Prop)(G:Bool)(st:LoopState)(pd:Option Code)(s:St):Prop :=∃hc' O J,BL (look s.H) (look hc') hc'∧YR (look hc') H=true∧look hc' b=some (.lp T nf O J)∧R (.ret (.p (.val (.bool G)))) (look ((b,.lp T nf st pd)::hc'))
def dR(H:List (Nat×Blk))(b:Nat)(T:List (Nat×AV))(nf:Dj)(R:KN→QY→Prop):AX→St→Prop|.normal,s=>Cm H b T nf R true .ready none s|.ret,s=>Cm H b T nf R false .done (some .ret) s|.exit i,s=>Cm H b T nf R false .done (some (.exit i)) s|.panic _,_=>False
theorem aA(r:ZG φ M0 N D (look s.T) (look s.H) a w)(E:Zl φ0 (look hc) w0 φ (look s.H) w)(J:BL (look s.H) (look hc') hc')(Z:YR (look hc') hc=true):ZG φ M0 N D (look []) (look hc') a w∧Zl φ0 (look hc) w0 φ (look hc') w:=by
 obtain⟨k1,Y,_⟩:=N9 r E J Z;refine⟨⟨?_,r.siz,k1,fun t x O=>by cases O⟩,Y⟩;obtain⟨h0,U,g1,g2,g3⟩:=r.dfs;refine⟨h0,U,g1,g2,fun x G=>⟨(g3 x G).1,(g3 x G).2.1,fun b hb=>(g3 x G).2.2 b ?_⟩⟩;cases hq:look hc' b with
|none=>exact absurd hq hb
|some k'=>obtain⟨⟨k,e1,_⟩,_⟩:=Xx J b k' hq;rw[e1];simp
theorem wJ{T:List (Nat×AV)}(ah:1000≤b)(hb:look H b=some (.lp T nf .ready pd))(ai:nf.ps.size=args.length)(al:∀p∈nf.ps.toList,p<nf.N)(h:∀l,Ex P nf.N (some l) nf.assign ⟨psT nf.ps.toList args T,H⟩ (fun x s1=>x=.normal∧∃U,look s1.H b=some (.lp T nf .ready U) ∧
   Ex P nf.N (some l) nf.body ⟨s1.T,(b,.lp T nf .busy U)::s1.H⟩ (dR H b T nf R))):dH P b args (look H) R:=by
 intro φ M0 w vs hH ha;obtain⟨tmps,d,ae,ak,hT⟩:=hH.blk b _ hb;have aq:=Z5 ha;have ad:=run_yield (P:=P) (args:=vs.toArray) ae (by simp;omega);refine⟨_,_,_,_,ad,?_⟩;refine roundIn_of_wpIn trivial ?_
 have aa:(nf.ps.zip vs.toArray).foldl (fun tmps (x:Tmp×Value)=>match x with|(t,a)=>tmps.setIfInBounds t a) tmps=(nf.ps.toList.zip vs).foldl (fun tmps (p:Tmp×Value)=>tmps.setIfInBounds p.1 p.2) tmps:=by
  rw[←Array.foldl_toList];simp
 obtain⟨p1,p2⟩:=gq (φ:=φ) (h:=look H) (w:=w) (M:=MM φ (look H) M0) (N:=nf.N) nf.ps.toList args vs T tmps al (by simpa using ai) ha ak hT
 have r:ZG φ M0 nf.N ⟨[],w.heap.size⟩ (look (psT nf.ps.toList args T)) (look H) { tmps:=(nf.ps.zip vs.toArray).foldl (fun tmps (x:Tmp×Value)=>match x with|(t,a)=>tmps.setIfInBounds t a) tmps,defers:=[] } w:=by
  refine⟨⟨Yf _,[],rfl,List.nodup_nil,fun r hr=>by cases hr⟩,?_,hH,?_⟩
  ·show Array.size _=_;rw[aa];exact p1
  ·intro t x ht;show _∧Qg _ _ _ _ x (Array.getD _ t undef);rw[aa];exact p2 t x ht
 refine wpIn_mono (h (φ b) φ M0 _ _ w r) ?_;rintro e a1 w1 ⟨J,k,s1,⟨rfl,U,an,O⟩,r1,E1,Z⟩;simp only[UH] at Z;subst Z;have G:J b=φ b:=(E1.ko b _ _ ah hb rfl).2;obtain⟨rec,g1,g2,g3,g4,g5,g6,g7,g8,g9,g10⟩:=xL r1 an;obtain⟨r2,E2⟩:=g10 .busy U;refine⟨_,by rw[←G];exact run_beginRound g1 g2,?_⟩;have aj:(w1.putObj (J b) (.loop { rec with state:=.busy }))=w1.putObj (J b) (.loop { rec with state:=.busy,pending:=U }):=by rw[←g3]
 rw[←G,aj];rw[←G] at O;refine wpIn_mono (O J M0 _ a1 _ r2) ?_;rintro e a3 w3 ⟨ac,k,s3,hq,r3,E3,Z⟩;have ab:=(E1.trans E2).trans E3
 have fin:∀(Y:Bool) (jump:Option Code),jump.isNone=Y→Cm H b T nf R Y (if jump.isNone then .ready else .done) jump s3 →
   ∃v w',(Instr.endRound (J b) jump).run P w3=.ok v w'∧∃φ' r h',R r h'∧Z9 φ' h' w' M0∧Zl φ (look H) w φ' h' w'∧dF φ' h' w' (MM φ' h' M0) r (.returned v):=by
  rintro Y jump hj ⟨hc',au,ar,q1,q2,q3,q4⟩;obtain⟨r4,E4⟩:=aA r3 ab q1 q2;obtain⟨ao,f1,f2,f3,f4,f5,f6,f7,f8,f9,f10⟩:=xL r4 q3;obtain⟨r5,E5⟩:=f10 (if jump.isNone then .ready else .done) jump
  have af:ac b=J b:=by
   have e1:ac b=φ b:=by
    have:=ab.ko b _ _ ah hb rfl;exact this.2
   rw[e1,G]
  refine⟨.bool jump.isNone,_,by rw[←af];exact run_endRound jump f1,ac,.ret (.p (.val (.bool Y))),_,q4,r5.hp,E4.trans E5,.bool jump.isNone,rfl,by simp[Qg,Q6,hj]⟩
 cases k with
|normal =>
  simp only[UH] at Z;subst Z;exact fin true none rfl hq
|ret =>
  simp only[UH] at Z;subst Z;exact fin false (some .ret) rfl hq
|exit i =>
  simp only[UH] at Z;subst Z;exact fin false (some (.exit i)) rfl hq
|panic x=>exact hq.elim
def dS(G:Nat)(T:List (Nat×AV))(nf:Dj)(Q:AX→St→Prop)(s:St):Prop :=
  ∃st pd,look s.H G=some (.lp T nf st pd)∧st≠.busy ∧
    (match pd with
    |none=>Q .normal ⟨s.T,(G,.lp T nf .exhausted none)::s.H⟩
    |some .ret=>Q .ret ⟨s.T,(G,.lp T nf .exhausted (some .ret))::s.H⟩
    |some (.exit i)=>Q (.exit i) ⟨s.T,(G,.lp T nf .exhausted (some (.exit i)))::s.H⟩
    |some _=>False)
theorem kX{f:Operand}{ps:Array Tmp}{assign:Code}{l m:List AV}(G:Nat)(aq:1000≤G)(hf:Zo (look s.T) f=some (.fn (.func g) l m))(hok:We P g=true)(hD:look s.H G=none)(af:∀fn,TF P N g (l++[.yv G]++m) none ⟨s.T,(G,.lp s.T ⟨N,fn,ps,assign,body⟩ .ready none)::s.H⟩ (dS G s.T ⟨N,fn,ps,assign,body⟩ Q) Q):Ex P N none (.rangeFunc f ps assign body) s Q:=by
 intro φ0 M0 D a w r0;obtain⟨r,ak,ba,hC⟩:=r0.lift 2;refine wpIn_mono ?_ (fun _ _ _ p=>Post.trans ak p);generalize YM φ0 w.heap.size 2=φ at r ak ba hC;refine wpIn_rangeFunc fun fn _=>?_
 have ao:=r.ev hf;simp only[Qg] at ao;obtain⟨l',m',ax,a7,ar⟩:=ao
 let U:Loop:={ state:=.ready,pending:=none,fn:=fn,tmps:=a.tmps,params:=ps,assign:=assign,body:=body,defers:=w.heap.size }
 let O:World:=w.alloc (.deferred (some []))
 let w1:World:=O.alloc (.loop U)
 have ac:O.heap=w.heap.push (.deferred (some [])):=rfl;have a8:O.heap.size=w.heap.size+1:=by rw[ac];simp
 obtain⟨Ea,Xa,Ha⟩:=FI (w:=w) (w':=O) (φ:=φ) (h:=look s.H) (M0:=M0) rfl rfl rfl zo (fun x hx=>by rw[ac,Array.getElem?_push,if_neg zo]) r.hp (fun b hb=>(hC b hb).imp (fun h=>h) (fun h=>by omega));have al:Clear φ (look s.H) O 1:=fun b hb=>(hC b hb).imp (fun h=>by omega) (fun h=>by omega)
 have ra:ZG φ M0 N D (look s.T) (look s.H) a O:=r.keep Ea Xa Ha;have hh:w1.heap=O.heap.push (.loop U):=rfl;obtain⟨E1,X1⟩:=XX (k:=.lp s.T ⟨N,fn,ps,assign,body⟩ .ready none) hh rfl rfl rfl hD Ha al
 have H1:Z9 (QM φ G O.heap.size) (upd (look s.H) G (.lp s.T ⟨N,fn,ps,assign,body⟩ .ready none)) w1 M0:=by
  refine XY hh hD Ha al E1 X1 ⟨a.tmps,w.heap.size,?_,r.siz,fun t x ht=>⟨(ra.tm t x ht).1,(QZ (E1.keeps M0) X1).1 _ _ (ra.tm t x ht).2⟩⟩;rw[hh];simp[U]
 let a':Act:={ a with defers:=[{ target:=.collected w.heap.size,args:=#[] }]++a.defers }
 have r1:ZG (QM φ G O.heap.size) M0 N D (look s.T) (look ((G,.lp s.T ⟨N,fn,ps,assign,body⟩ .ready none)::s.H)) a' w1:=by
  have ae:=ra.keep E1 X1 H1;refine⟨?_,ae.siz,H1,ae.tm⟩;obtain⟨h0,ms,g1,g2,g3⟩:=ae.dfs;obtain⟨az,aw,ah,bb,a6⟩:=r.dfs
  have au:ms=aw:=by
   rw[g1] at ah;exact EF (List.append_cancel_right ah)
  refine⟨h0,w.heap.size::ms,by simp[a',g1],List.nodup_cons.2 ⟨fun hx=>?_,g2⟩,fun x hx=>?_⟩
  ·rw[au] at hx;have:=(RQ.1 (a6 _ hx).2.1).1;omega
  ·rcases List.mem_cons.1 hx with rfl|hx
   ·refine⟨az,?_,fun b hb he=>?_⟩
    ·rw[hh,Array.getElem?_push,if_neg zo,ac];simp
    ·by_cases e:G=b
     ·simp only[QM,e,if_true] at he;omega
     ·have an:look s.H b≠none:=by simpa [look,e] using hb
      simp only[QM,e,if_false] at he;obtain⟨k,hk⟩:=AP.1 an;rcases hC b an with h7|h7<;>omega
   ·exact g3 x hx
 have ab:QM φ G O.heap.size G=w.heap.size+1:=by simp[QM,a8]
 have aa:Zl φ (look s.H) w (QM φ G O.heap.size) (look ((G,.lp s.T ⟨N,fn,ps,assign,body⟩ .ready none)::s.H)) w1:=Ea.trans E1
 have ad:Ql (QM φ G O.heap.size) (look ((G,.lp s.T ⟨N,fn,ps,assign,body⟩ .ready none)::s.H)) w1 (MM (QM φ G O.heap.size) (look ((G,.lp s.T ⟨N,fn,ps,assign,body⟩ .ready none)::s.H)) M0) (l++[.yv G]++m) (l'++[Value.func (.yield (w.heap.size+1)) #[] #[]]++m'):=by
  have k1:=(QZ (E1.keeps M0) X1).2 _ _ ((QZ (Ea.keeps M0) Xa).2 _ _ a7);have k2:=(QZ (E1.keeps M0) X1).2 _ _ ((QZ (Ea.keeps M0) Xa).2 _ _ ar);refine ZI (ZI k1 ?_) k2;simp only[Ql,Qg];exact⟨_,[],rfl,⟨by rw[ab],_,s.T,⟨N,fn,ps,assign,body⟩,by simp[look];rfl,rfl⟩,rfl⟩
 refine⟨w.heap.size+1,_,_,{ target:=.fn (.func g) m'.toArray,args:=l'.toArray++#[Value.func (.yield (w.heap.size+1)) #[] #[]] },w1,g,(l'++[Value.func (.yield (w.heap.size+1)) #[] #[]]++m').toArray,w1,run_enterLoop_outer fn a.tmps ps assign body,?_,fun _ _=>trivial,?_,(fun h=>by cases h),?_⟩
 ·have e1:Array.map a.eval #[Operand.const (Value.func (Fn.yield (w.heap.size+1)) #[] #[])]=#[Value.func (.yield (w.heap.size+1)) #[] #[]]:=by simp[Act.eval]
  simp only[resolve,ax,Deferred.ofValue,Sem.run_pure,e1];rfl
 ·simp only[invoke];rw[UJ hok];congr 2;apply Array.ext';simp
 ·refine callsIn_wide.2 ((af fn _ M0 D a' w1 _ r1 ad).mono ?_);intro e w3 he;cases e with
 |returned v =>
   obtain⟨J,s3,⟨st,pd,q1,q2,q3⟩,r3,E3⟩:=he;have ay:ZG J M0 N D (look s3.T) (look s3.H) a' w3:=r3
   have ai:J G=w.heap.size+1:=by
    have:=(E3.ko G _ _ aq (by simp[look];rfl) rfl).2;rw[this,ab]
   obtain⟨Y,f1,f2,f3,f4,f5,f6,f7,f8,f9,f10⟩:=xL ay q1;obtain⟨r4,E4⟩:=f10 .exhausted pd;have av:w3.putObj (J G) (.loop { Y with state:=.exhausted })=w3.putObj (J G) (.loop { Y with state:=.exhausted,pending:=pd }):=by rw[←f3]
   have aj:(Instr.endLoop (w.heap.size+1)).run P w3=.ok pd (w3.putObj (J G) (.loop { Y with state:=.exhausted,pending:=pd })):=by
    rw[←ai,run_endLoop f1 (by rw[f2];exact q2),av,f3]
   have Z:=(aa.trans E3).trans E4;refine⟨pd,_,aj,?_⟩;cases pd with
  |none=>exact⟨J,.normal,⟨s3.T,(G,.lp s.T ⟨N,fn,ps,assign,body⟩ .exhausted none)::s3.H⟩,q3,r4,Z,rfl⟩
  |some c =>
    cases c with
   |ret=>exact wpIn_ret ⟨J,.ret,⟨s3.T,(G,.lp s.T ⟨N,fn,ps,assign,body⟩ .exhausted (some .ret))::s3.H⟩,q3,r4,Z,rfl⟩
   |exit i=>exact wpIn_exit ⟨J,.exit i,⟨s3.T,(G,.lp s.T ⟨N,fn,ps,assign,body⟩ .exhausted (some (.exit i)))::s3.H⟩,q3,r4,Z,rfl⟩
   |_=>exact q3.elim
 |panicked chain=>exact Post.trans aa he
 |outgrown=>exact he.elim
theorem TI{φ:Nat→Nat}{h:QY}{w:World}{M:ZQ}:∀{cs:List PV} {l:List Value},Ql φ h w M (cs.map .p) l→∀(j:Nat) (c:PV),cs[j]?=some c→∃v:Value,l[j]?=some v∧Q6 w M c v
|[],l,_,j,c,G=>by simp at G
|x::cs,l,J,j,c,G=>by
  simp only[U8,Ql,Qg] at J;obtain⟨y,ys,rfl,U,Z⟩:=J;cases j with
 |zero=>simp at G;subst G;exact⟨y,by simp,U⟩
 |succ j =>
   obtain⟨v,Y,O⟩:=TI Z j c (by simpa using G);exact⟨v,by simpa using Y,O⟩
theorem dU{ι:Type}(S:ι→St)(μ:ι→Nat)(i0:ι)(hw:Weak N s (S i0))(round:∀i (K:St→Prop),(∀s',(∃j,μ j<μ i∧Weak N s' (S j))→K s')→Ex P N ro c (S i) (andThen K Q)):Ex P N ro (.loop c) s Q :=
 LJ hw (uP S μ i0 fun i=>round i _ fun _ h=>h)
attribute [go_sem] YN VG JH Ja QbB leB le NS Kv KR
mutual
def flat:AV→Bool|.p (.val _)=>true|.agg l=>Oa l|.tup l=>Oa l|.ifc _ x=>flat x|_=>false
def Oa:List AV→Bool|[]=>true|x::xs=>flat x&&Oa xs
end
theorem zm:(∀(x:AV) (v:Value),flat x=true→Qg φ h w M x v→Qg φ' h' w' M' x v)∧(∀(xs:List AV) (l:List Value),Oa xs=true→Ql φ h w M xs l→Ql φ' h' w' M' xs l):=by
 have key:∀n:Nat,(∀(x:AV),SizeOf.sizeOf x≤n→∀v,flat x=true→Qg φ h w M x v→Qg φ' h' w' M' x v)∧(∀(xs:List AV),SizeOf.sizeOf xs≤n→∀l,Oa xs=true→Ql φ h w M xs l→Ql φ' h' w' M' xs l):=by
  intro n
  induction n with
 |zero =>
   refine⟨fun x J=>?_,fun es J=>?_⟩
   ·cases x<;>simp at J
   ·cases es<;>simp at J
 |succ n Z =>
   obtain⟨Y,i2⟩:=Z;refine⟨fun x J v hf G=>?_,fun xs J l hf G=>?_⟩
   ·cases x with
   |p x=>cases x with
    |val u=>simp only[Qg,Q6] at G ⊢;exact G
    |sl S es=>simp[flat] at hf
   |agg l=>simp only[flat,Qg] at hf G ⊢;obtain⟨m,O,U⟩:=G;exact⟨m,O,i2 l (by simp at J;omega) m hf U⟩
   |tup l=>simp only[flat,Qg] at hf G ⊢;obtain⟨m,O,U⟩:=G;exact⟨m,O,i2 l (by simp at J;omega) m hf U⟩
   |ifc t x=>simp only[flat,Qg] at hf G ⊢;obtain⟨y,O,U⟩:=G;exact⟨y,O,Y x (by simp at J;omega) y hf U⟩
   |_=>simp[flat] at hf
   ·cases xs with
   |nil=>simpa [Ql] using G
   |cons x xs =>
     simp only[Oa,KL,Ql] at hf G ⊢;simp at J;obtain⟨y,ys,O,U,h3⟩:=G;exact⟨y,ys,O,Y x zo y hf.1 U,i2 xs zo ys hf.2 h3⟩
 exact⟨fun x v=>(key (SizeOf.sizeOf x)).1 x (Yf _) v,fun xs l=>(key (SizeOf.sizeOf xs)).2 xs (Yf _) l⟩
def leR(H:QY)(x y:AV):Prop :=le x y∨∃(b off:Nat) (ty:TypeId) (l:List AV) (cs:List PV),x=.ptr b off∧y=.eptr (cs.drop off)∧H b=some (.box ty l)∧NS l (cs.map .p)∧Hg (cs.map .p)=true
def xM(H:QY):List AV→List AV→Prop|[],ys=>ys=[]|x::xs,ys=>∃z G,ys=z::G∧leR H x z∧xM H xs G
def roK(K:St→Prop)(Q:AX→St→Prop)(s:St)(dst:Option Tmp):KN→Prop|.ret x=>flat x=true∧K (s.put dst x)|.panic x=>flat x=true∧Q (.panic x) s
theorem kY{X:KN}(hc:QV P f args' X)(ac:xM (look s.H) args args')(hn:VG args'=true)(hd:∀t,dst=some t→t<N)(J:roK K Q s dst X):TF P N f args dst s K Q:=by
 intro φ M0 D a w O r ha
 let Y:ZQ:=fun x o=>MB φ (look s.H) w M0 x o∧¬∃b ty l,look s.H b=some (.box ty l)∧φ b=x
 have hH:Z9 φ LU w Y:=Gw (fun x o hm=>vZ hm.1) r.hp.gm.w (fun g hg o h=>r.hp.gm.m g hg o h.1.1);have hM:∀r o v,w.cell? ⟨r,o,none⟩=some v→¬MM φ (look s.H) M0 r o→w.cell? ⟨r,o,none⟩=some v∧¬MM φ LU Y r o:=fun r o v G U=>⟨G,fun h3=>h3.elim Jo (fun h4=>U h4.1.1)⟩
 have hP:=(Yg (w:=w) (w':=w) (M:=MM φ (look s.H) M0) (M':=MM φ LU Y) hM)
 have conv:∀(xs ys:List AV) (O:List Value),xM (look s.H) xs ys→VG ys=true→Ql φ (look s.H) w (MM φ (look s.H) M0) xs O→Ql φ LU w (MM φ LU Y) ys O:=by
  intro xs
  induction xs with
 |nil=>intro ys O G _ U;simp only[xM] at G;subst G;simpa [Ql] using U
 |cons x xs ih =>
   intro ys O G h0 U;simp only[xM] at G;obtain⟨z,zs,rfl,h3,h4⟩:=G;simp only[VG,KL] at h0;simp only[Ql] at U ⊢;obtain⟨v,Z,rfl,h5,h6⟩:=U;refine⟨v,Z,rfl,?_,ih zs Z h4 h0.2 h6⟩;rcases h3 with h3|⟨b,off,ty,l,cs,rfl,rfl,hb,hl,G⟩
   ·exact(JR hM).1 _ _ h0.1 (XM.1 _ _ _ h3 h5)
   ·simp only[Qg] at h5 ⊢;obtain⟨rfl,_⟩:=h5;refine⟨φ b,off,rfl,?_⟩;obtain⟨c0,ab,ad⟩:=r.hp.blk b _ hb;have aa:=XM.2 _ _ _ hl ad;rw[FH];intro j c hj;rw[List.getElem?_drop] at hj;obtain⟨u,g1,g2⟩:=TI aa (off+j) c hj;refine⟨u,?_,?_,Tz G aa u (List.mem_of_getElem? g1),hP.1 _ _ g2⟩
    ·rw[Yt ab];simpa using g1
    ·rintro(h7|h7)
     ·exact Jo h7
     ·exact h7.2 ⟨b,ty,l,hb,rfl⟩
 refine(hc φ Y w O hH (conv _ _ _ ac hn ha)).mono ?_;rintro e w' ⟨φ',r',h',⟨rfl,rfl⟩,ae,E,he⟩;obtain⟨r,E1,X1,hC⟩:=r.lift (w'.heap.size-w.heap.size);obtain⟨E2,X2,H2⟩:=FI E.os E.tape E.output E.size (fun x J=>E.same x J (fun b hb=>absurd rfl hb)) r.hp hC;have r2:ZG _ M0 N D (look s.T) (look s.H) a w':=r.keep E2 X2 H2;cases r' with
|ret x =>
  obtain⟨v,rfl,hv⟩:=he;exact⟨_,s.put dst x,J.2,r2.put hd (zm.1 _ _ J.1 hv),by cases dst<;>exact E1.trans E2⟩
|panic x =>
  obtain⟨v,rfl,hv⟩:=he;exact⟨_,.panic x,s,J.2,r2,E1.trans E2,v,rfl,zm.1 _ _ J.1 hv⟩
theorem aB{H:QY}{l:List AV}{cs G:List PV}(hb:H b=some (.box ty l))(U:NS l (cs.map .p))(J:Hg (cs.map .p)=true)(O:G=cs.drop off):leR H (.ptr b off) (.eptr G) :=
 .inr ⟨b,off,ty,l,cs,rfl,by rw[O],hb,U,J⟩
theorem aC{op:Op}{rest:List Oper}{acc:List Vf}{s0:St}{x:AV}(hc:QV P f args' (.ret x))(G:KC (look s.T) op=some (f,args))(hb:We P f=true)(O:K5 N o.dst=true)(J:NS args args')(U:VG args'=true)(Y:YN x=true)(h:K (s.put o.dst x)):xH P N ops Q o op rest acc s0 s K :=
 .inl ⟨f,args,args',x,G,hb,O,J,U,Y,hc,h⟩
attribute [go_sem] flat Oa
mutual
def A7(t S:Nat)(es:List (List PV)):AV→AV|.vsl J G n=>if G=t then .p (.sl S es) else .vsl J G n|.agg l=>.agg (Pd t S es l)|.tup l=>.tup (Pd t S es l)|.fn f l m=>.fn f (Pd t S es l) (Pd t S es m)|.ifc ty x=>.ifc ty (A7 t S es x)|x=>x
def Pd(t S:Nat)(es:List (List PV)):List AV→List AV|[]=>[]|x::xs=>A7 t S es x::Pd t S es xs
end
mutual
def bG(t:Nat):AV→Option (List Nat)
|.vsl _ G n=>if G=t then some [n] else some []
|.vptr G _ _ _=>if G=t then none else some []
|.vtl _ G _ _ _=>if G=t then none else some []
|.agg l=>Am t l
|.tup l=>Am t l
|.fn _ l m=>match Am t l,Am t m with|some a,some b=>some (a++b)|_,_=>none
|.ifc _ x=>bG t x
|_=>some []
def Am(t:Nat):List AV→Option (List Nat)
|[]=>some []
|x::xs=>match bG t x,Am t xs with|some a,some b=>some (a++b)|_,_=>none
end
def aD(t S:Nat)(es:List (List PV)):Blk→Blk|.box ty l=>.box ty (Pd t S es l)|k=>k
def Qdo(t:Nat):Blk→Option (List Nat)|.box _ l=>Am t l|_=>some []
def EG(t S:Nat)(es:List (List PV)):List (Nat×Blk)→List (Nat×Blk)|[]=>[]|(c,k)::l=>if c=t then EG t S es l else(c,aD t S es k)::EG t S es l
def aF(t:Nat):List (Nat×Blk)→Option (List Nat)
|[]=>some []
|(c,k)::l=>match Qdo t k,aF t l with|some a,some b=>some (a++b)|_,_=>none
def Qdp(t:Nat)(s:St):Option (List Nat):=match Am t (s.T.map (·.2)),aF t s.H with|some a,some b=>some (a++b)|_,_=>none
theorem UB(t S:Nat)(es:List (List PV)):∀(H:List (Nat×Blk)) (c:Nat),look (EG t S es H) c=if c=t then none else(look H c).map (aD t S es)
|[],c=>by simp[EG,look]
|(d,k)::H,c=>by
  simp only[EG];by_cases e:d=t
  ·simp only[e,if_true,UB t S es H c,look];by_cases G:c=t
   ·simp[G]
   ·have:¬t=c:=fun h=>G h.symm
    simp[G,this]
  ·simp only[e,if_false,look,UB t S es H c];by_cases G:d=c
   ·subst G;simp[e]
   ·simp[G]
theorem zn(t S:Nat)(es:List (List PV)):∀(T:List (Nat×AV)) (x:Nat),look (T.map fun p=>(p.1,A7 t S es p.2)) x=(look T x).map (A7 t S es)
|[],x=>rfl
|(k,v)::T,x=>by
  simp only[U8,look];by_cases e:k=x
  ·simp[e]
  ·simp only[e,if_false];exact zn t S es T x
theorem dV(t S:Nat)(es:List (List PV))(n0:Nat)(hM:∀r o,M' r o→M r o)(hh:∀c k,c≠t→h c=some k→h' c=some (aD t S es k))(hb:∃ty,h t=some (.vec ty S es))(ab:∀v,(∃cap c ty,v=.slice (some ⟨φ t,0,none⟩) es.length cap∧w.heap[φ t]?=some (.cells c ty (0,0))∧es.length≤cap)→Q6 w M' (.sl S es) v)(Z:∀c k,h c=some k→k.ob=none∨∃es,k=.mp es) :
  (∀(x:AV) (v:Value) (L:List Nat),bG t x=some L→(∀n∈L,n=es.length)→Qg φ h w M x v→Qg φ h' w M' (A7 t S es x) v)∧(∀(xs:List AV) (l:List Value) (L:List Nat),Am t xs=some L→(∀n∈L,n=es.length)→Ql φ h w M xs l→Ql φ h' w M' (Pd t S es xs) l):=by
 obtain⟨kp,ke,kc⟩:=Yg (w:=w) (w':=w) (M:=M) (M':=M') (fun r o v O G=>⟨O,fun U=>G (hM r o U)⟩);obtain⟨vo,hb⟩:=hb
 have key:∀n:Nat,(∀(x:AV),SizeOf.sizeOf x≤n→∀v L,bG t x=some L→(∀n∈L,n=es.length)→Qg φ h w M x v→Qg φ h' w M' (A7 t S es x) v)∧(∀(xs:List AV),SizeOf.sizeOf xs≤n→∀l L,Am t xs=some L→(∀n∈L,n=es.length)→Ql φ h w M xs l→Ql φ h' w M' (Pd t S es xs) l):=by
  intro n
  induction n with
 |zero =>
   refine⟨fun x hx=>?_,fun es hx=>?_⟩
   ·cases x<;>simp at hx
   ·cases es<;>simp at hx
 |succ n ih =>
   obtain⟨i1,i2⟩:=ih;refine⟨fun x hx v L Y hn J=>?_,fun xs hx l L Y hn J=>?_⟩
   ·cases x with
   |p x=>simp only[A7,Qg] at J ⊢;exact kp x v J
   |tsl S' es' t' =>
     simp only[A7,Qg] at J ⊢;obtain⟨O,ty,m,G,U⟩:=J;have hne:t'≠t:=fun e=>by rw[e,hb] at G;cases G
     exact⟨kp _ _ O,ty,m,by rw[hh t' _ hne G];rfl,U⟩
   |ptr c off =>
     simp only[A7,Qg] at J ⊢;obtain⟨O,ty,l,G⟩:=J;have hne:c≠t:=fun e=>by rw[e,hb] at G;cases G
     exact⟨O,ty,Pd t S es l,by rw[hh c _ hne G];rfl⟩
   |bsl c off =>
     simp only[A7,Qg] at J ⊢;obtain⟨O,ty,l,G⟩:=J;have hne:c≠t:=fun e=>by rw[e,hb] at G;cases G
     exact⟨O,ty,Pd t S es l,by rw[hh c _ hne G];rfl⟩
   |sfp c =>
     simp only[A7,Qg] at J ⊢;obtain⟨O,ty,l,G⟩:=J;have hne:c≠t:=fun e=>by rw[e,hb] at G;cases G
     exact⟨O,ty,Pd t S es l,by rw[hh c _ hne G];rfl⟩
   |vnil=>simp only[A7,Qg] at J ⊢;exact J
   |vsl S' t' m =>
     by_cases e:t'=t
     ·subst e;simp only[bG,if_true,Zf] at Y;subst Y;have hm:=hn m zq;simp only[A7,if_true,Qg] at J ⊢;obtain⟨O,ty,es',G,U,h4⟩:=J;rw[hb] at G;cases G;obtain⟨cap,c,g1,g2,g3,g4,g5⟩:=h4 hm;exact ab v ⟨cap,c,_,by rw[←hm];exact g1,g2,by rw[←hm];exact g4⟩
     ·simp only[A7,e,if_false,Qg] at J ⊢;obtain⟨O,ty,m',G,U⟩:=J;exact⟨O,ty,m',by rw[hh t' _ e G];rfl,U⟩
   |vtl S' t' m k m0 =>
     by_cases e:t'=t
     ·simp[bG,e] at Y
     ·simp only[A7,Qg] at J ⊢;obtain⟨O,ty,m',G,U⟩:=J;exact⟨O,ty,m',by rw[hh t' _ e G];rfl,U⟩
   |vptr t' m k f =>
     by_cases e:t'=t
     ·simp[bG,e] at Y
     ·simp only[A7,Qg] at J ⊢;obtain⟨O,ty,S',m',G,U⟩:=J;exact⟨O,ty,S',m',by rw[hh t' _ e G];rfl,U⟩
   |eptr l =>
     simp only[A7,Qg] at J ⊢;obtain⟨r,o,O,G⟩:=J;exact⟨r,o,O,kc l r o G⟩
   |yv c =>
     simp only[Qg] at J;obtain⟨_,k,T,nf,G,U⟩:=J;rcases Z c k G with h4|⟨_,rfl⟩
     ·rw[h4] at U;cases U
     ·cases U
   |mv c =>
     simp only[A7,Qg] at J ⊢;obtain⟨O,k,G,U⟩:=J;rcases Z c k G with h4|⟨es',rfl⟩
     ·rw[h4] at U;cases U
     ·have hne:c≠t:=fun e=>by rw[e,hb] at G;cases G
      exact⟨O,.mp es',by rw[hh c _ hne G];rfl,rfl⟩
   |iv c =>
     simp only[A7,Qg] at J ⊢;obtain⟨O,k,G,U⟩:=J;rcases Z c k G with h4|⟨es',rfl⟩
     ·rw[h4] at U;cases U
     ·have hne:c≠t:=fun e=>by rw[e,hb] at G;cases G
      exact⟨O,.mp es',by rw[hh c _ hne G];rfl,rfl⟩
   |agg l =>
     simp only[A7,bG,Qg] at J Y ⊢;obtain⟨m,O,G⟩:=J;exact⟨m,O,i2 l (by simp at hx;omega) m L Y hn G⟩
   |tup l =>
     simp only[A7,bG,Qg] at J Y ⊢;obtain⟨m,O,G⟩:=J;exact⟨m,O,i2 l (by simp at hx;omega) m L Y hn G⟩
   |fn f p q =>
     simp only[A7,bG,Qg] at J Y ⊢;obtain⟨l,m,O,G,U⟩:=J;simp at hx;split at Y
     ·rename_i La Lb ha aa;simp only[Zf] at Y;subst Y;exact⟨l,m,O,i2 p zo l La ha (fun n h=>hn n (by simp[h])) G,i2 q zo m Lb aa (fun n h=>hn n (by simp[h])) U⟩
     ·cases Y
   |ifc ty x =>
     simp only[A7,bG,Qg] at J Y ⊢;obtain⟨y,O,G⟩:=J;exact⟨y,O,i1 x (by simp at hx;omega) y L Y hn G⟩
   ·cases xs with
   |nil=>simpa [Pd,Ql] using J
   |cons x xs =>
     simp only[Pd,Am,Ql] at J Y ⊢;simp at hx;obtain⟨y,ys,O,G,U⟩:=J;split at Y
     ·rename_i La Lb ha aa;simp only[Zf] at Y;subst Y;exact⟨y,ys,O,i1 x zo y La ha (fun n h=>hn n (by simp[h])) G,i2 xs zo ys Lb aa (fun n h=>hn n (by simp[h])) U⟩
     ·cases Y
 exact⟨fun x v=>(key (SizeOf.sizeOf x)).1 x (Yf _) v,fun xs l=>(key (SizeOf.sizeOf xs)).2 xs (Yf _) l⟩
theorem zt{t:Nat}:∀{T:List (Nat×AV)} {L:List Nat} {x:Nat} {v:AV},Am t (T.map (·.2))=some L→look T x=some v→∃J,bG t v=some J∧∀n∈J,n∈L
|[],L,x,v,_,h=>by simp[look] at h
|(k,y)::T,L,x,v,G,h=>by
  simp only[U8,Am] at G;split at G
  ·rename_i Y Lb U hb;simp only[Zf] at G;subst G;simp only[look] at h;by_cases e:k=x
   ·simp only[e,if_true,Zf] at h;subst h;exact⟨Y,U,fun n O=>by simp[O]⟩
   ·simp only[e,if_false] at h;obtain⟨J,Z,h2⟩:=zt hb h;exact⟨J,Z,fun n O=>by simp[h2 n O]⟩
  ·cases G
theorem zu{t:Nat}:∀{H:List (Nat×Blk)} {L:List Nat} {c:Nat} {k:Blk},aF t H=some L→look H c=some k→∃J,Qdo t k=some J∧∀n∈J,n∈L
|[],L,x,v,_,h=>by simp[look] at h
|(b,y)::H,L,c,k,G,h=>by
  simp only[aF] at G;split at G
  ·rename_i Y Lb U hb;simp only[Zf] at G;subst G;simp only[look] at h;by_cases e:b=c
   ·simp only[e,if_true,Zf] at h;subst h;exact⟨Y,U,fun n O=>by simp[O]⟩
   ·simp only[e,if_false] at h;obtain⟨J,Z,h2⟩:=zu hb h;exact⟨J,Z,fun n O=>by simp[h2 n O]⟩
  ·cases G
def gu:List (Nat×Blk)→Bool
|[]=>true
|(_,k)::l=>(match k with|.mp _=>true|k=>k.ob.isNone)&&gu l
theorem Us:∀{H:List (Nat×Blk)},gu H=true→∀c k,look H c=some k→k.ob=none∨∃es,k=.mp es
|[],_,c,k,h=>by cases h
|(b,q)::H,G,c,k,h=>by
  simp only[gu,KL] at G;simp only[look] at h;split at h
  ·cases h;have:=G.1;split at this
   ·exact .inr ⟨_,rfl⟩
   ·exact .inl (by simpa using this)
  ·exact Us G.2 c k h
theorem Pe(t:Nat)(ty:TypeId)(S:Nat)(es:List (List PV))(L:List Nat)(hb:look s.H t=some (.vec ty S es))(hL:Qdp t s=some L)(hn:∀n∈L,n=es.length)(hlt:Nat.blt t 1000=true)(Y:gu s.H=true) :
  Weak N s ⟨s.T.map fun p=>(p.1,A7 t S es p.2),EG t S es s.H⟩:=by
 have al:t<1000:=by simpa [Nat.blt_eq] using hlt
 unfold Qdp at hL;split at hL;rotate_left
 ·cases hL
 rename_i L1 L2 ac ai;simp only[Zf] at hL;subst hL;intro φ M0 D a w r;refine⟨φ,?_⟩
 have G:∀c k',look (EG t S es s.H) c=some k'→c≠t∧∃k,look s.H c=some k∧k'=aD t S es k:=by
  intro c k' hc;rw[UB] at hc;by_cases e:c=t
  ·simp[e] at hc
  ·simp only[e,if_false] at hc;cases hk:look s.H c with
  |none=>rw[hk] at hc;cases hc
  |some k=>rw[hk] at hc;cases hc;exact⟨e,k,rfl,rfl⟩
 have Z:∀x o,DD φ (look (EG t S es s.H)) x o→DD φ (look s.H) x o∧x≠φ t:=by
  rintro x o ⟨c,k',g1,g2,g3⟩;obtain⟨e,k,g4,rfl⟩:=G c k' g1;refine⟨⟨c,k,g4,g2,by cases k<;>exact g3⟩,fun hx=>e ?_⟩;exact r.hp.inj c t (by rw[g4];simp) (by rw[hb];simp) (by rw[g2,hx])
 have hM:∀x o,MM φ (look (EG t S es s.H)) M0 x o→MM φ (look s.H) M0 x o:=fun x o hx=>hx.elim (fun h=>.inl (Z x o h).1) .inr
 have ad:∀o,¬MM φ (look (EG t S es s.H)) M0 (φ t) o:=by
  rintro o (hx|hx)
  ·exact(Z _ _ hx).2 rfl
  ·exact r.hp.fr t (by rw[hb];simp) o hx
 obtain⟨c0,an,af,aq,ar,ao,hS,h1,ak⟩:=r.hp.blk t _ hb
 have ae:∀v,(∃cap c ty,v=.slice (some ⟨φ t,0,none⟩) es.length cap∧w.heap[φ t]?=some (.cells c ty (0,0))∧es.length≤cap)→Q6 w (MM φ (look (EG t S es s.H)) M0) (.sl S es) v:=by
  rintro v ⟨cap,c,O,rfl,hc,ab⟩;simp only[Q6];refine .inl ⟨φ t,0,cap,rfl,ab,?_⟩;rw[WX];refine⟨hS,?_⟩;rw[FH];intro j q hj;obtain⟨u,g1,g2⟩:=TI ak j q hj
  have g3:c0.toList[j]?=some u:=by
   rw[List.getElem?_take] at g1;split at g1
   ·exact g1
   ·cases g1
  refine⟨u,?_,ad _,h1 u (List.mem_of_getElem? g3),(Yg (w:=w) (w':=w) (fun r o v h1 h2=>⟨h1,fun h3=>h2 (hM r o h3)⟩)).1 _ _ g2⟩;rw[Yt af];simpa using g3
 obtain⟨k1,k2⟩:=dV (φ:=φ) (h:=look s.H) (h':=look (EG t S es s.H)) (w:=w) (M:=MM φ (look s.H) M0) t S es es.length hM
  (fun c k hne hk=>by rw[UB,if_neg hne,hk];rfl) ⟨ty,hb⟩ ae (Us Y)
 have E:Zl φ (look s.H) w φ (look (EG t S es s.H)) w:=by
  refine⟨rfl,rfl,rfl,Yf _,fun _ _ _=>rfl,fun _ _ _ _=>rfl,fun x o _ hx=>(Z x o hx).1,?_,?_,?_,?_⟩
  ·intro c O l hc J;have hne:c≠t:=by omega
   exact⟨⟨Pd t S es l,by rw[UB,if_neg hne,J];rfl⟩,rfl⟩
  ·intro c O S' n hc J;have hne:c≠t:=by omega
   exact⟨n,by rw[UB,if_neg hne,J];rfl,Yf _,fun _=>VN (rfl) rfl⟩
  ·intro c O S' n hc J;have hne:c≠t:=by omega
   exact⟨n,by rw[UB,if_neg hne,J];rfl,Yf _,fun _=>⟨rfl,fun c hc=>⟨c,hc,rfl⟩⟩⟩
  ·intro c k x hc J ho;rcases Us Y c k J with U|⟨es',rfl⟩
   ·rw[U] at ho;cases ho
   ·have hne:c≠t:=by omega
    exact⟨⟨.mp es',by rw[UB,if_neg hne,J];rfl,ho⟩,rfl⟩
 refine⟨⟨r.dfs.keep E,r.siz,⟨?_,?_,?_,r.hp.lt,r.hp.gm.evol E⟩,?_⟩,E⟩
 ·intro c d hc hd he;obtain⟨kc,aa⟩:=AP.1 hc;obtain⟨kd,aj⟩:=AP.1 hd;obtain⟨_,k1,e1,_⟩:=G c kc aa;obtain⟨_,k2,e2,_⟩:=G d kd aj;exact r.hp.inj c d (by rw[e1];simp) (by rw[e2];simp) he
 ·intro c k' ah;obtain⟨_,k,e1,rfl⟩:=G c k' ah;have:=r.hp.blk c k e1;cases k with
 |box O l =>
   obtain⟨c1,q1,q2⟩:=this;obtain⟨L',g1,g2⟩:=zu ai e1;exact⟨c1,q1,k2 _ _ L' g1 (fun n h=>hn n (by simp[g2 n h])) q2⟩
 |arr O S n=>exact this
 |vec O S es=>obtain⟨c1,cap,q1,q2,q3,q4,q5,q6,q7⟩:=this;exact⟨c1,cap,q1,q2,q3,q4,q5,q6,N8 hM _ _ q7⟩
 |lp T nf st pd=>rcases Us Y c _ e1 with U|⟨_,U⟩<;>cases U
 |mp es =>
   obtain⟨en,cl,q1,q2,q3⟩:=this;have e:es.map (fun p=>AV.p p.2)=(es.map (·.2)).map .p:=by simp
   refine⟨en,cl,q1,q2,?_⟩;rw[e] at q3 ⊢;exact N8 hM _ _ q3
 |mf es=>rcases Us Y c _ e1 with U|⟨_,U⟩<;>cases U
 |mg en cl es=>rcases Us Y c _ e1 with U|⟨_,U⟩<;>cases U
 |it m cl sn=>rcases Us Y c _ e1 with U|⟨_,U⟩<;>cases U
 ·intro c hc o hm;obtain⟨kc,aa⟩:=AP.1 hc;obtain⟨_,k1,e1,_⟩:=G c kc aa;exact r.hp.fr c (by rw[e1];simp) o hm
 ·intro x y hy;rw[zn] at hy;cases hq:look s.T x with
 |none=>rw[hq] at hy;cases hy
 |some z =>
   rw[hq] at hy;cases hy;obtain⟨L',g1,g2⟩:=zt ac hq;exact⟨(r.tm x z hq).1,k1 _ _ L' g1 (fun n h=>hn n (by simp[g2 n h])) (r.tm x z hq).2⟩
theorem Ob{P:Program}{cs:List Frame}:∀(O:List Nat) (fr:Frame) (w:World),fr.mode≠.run→O.Nodup→(∀r∈O,w.heap[r]?=some (.deferred (some []))) →
  fr.defers=(O.map fun r=>({ target:=.collected r,args:=#[] }:Deferred))→∃w',G7 O w w'∧Steps P (lone fr cs w) (lone { fr with defers:=[] } cs w')
|[],fr,w,_,_,_,U=>by
  refine⟨w,⟨rfl,rfl,rfl,rfl,fun _ _=>rfl,fun k G=>by cases G⟩,?_⟩;have:{ fr with defers:=[] }=fr:=by cases fr;simp only at U;subst U;rfl
  rw[this];exact Steps.refl _ _
|r::O,fr,w,Z,Y,hb,U=>by
  have h0:=hb r zq;have hlt:r<w.heap.size:=(RQ.1 h0).1;have J:∀k:Nat,(w.putObj r (.deferred none)).heap[k]?=(w.heap.setIfInBounds r (.deferred none))[k]?:=fun k=>rfl
  have h1:=step_collected (cs:=cs) Z U rfl (run_takeDeferred (P:=P) h0)
  obtain⟨w',t,hs⟩:=Ob (P:=P) (cs:=cs) O { fr with defers:=[]++(O.map fun r=>({ target:=.collected r,args:=#[] }:Deferred)) } (w.putObj r (.deferred none)) Z (List.nodup_cons.1 Y).2 (fun k G=>by
   have:r≠k:=fun e=>(List.nodup_cons.1 Y).1 (e▸G)
   rw[J,Array.getElem?_setIfInBounds_ne this];exact hb k (by simp[G])) rfl
  refine⟨w',⟨t.os,t.tape,t.output,by rw[t.size];simp[World.putObj],fun k G=>?_,fun k G=>?_⟩,.head h1 hs⟩
  ·simp only[List.mem_cons,not_or] at G;rw[t.same k G.2,J,Array.getElem?_setIfInBounds_ne (Ne.symm G.1)]
  ·rcases List.mem_cons.1 G with e|e
   ·subst e;rw[t.same k (List.nodup_cons.1 Y).1,J];simp[hlt]
   ·exact t.turn k e
theorem kZ{args:Array Value}{u:FrameMode}{R:Ending→FrameMode→World→Prop}(hf:P.funcs[f]?=some fn)(hb:fn.body=some c)(h:∀(G:Frame) (cs:List Frame),G.mode=u→c.wpS P (fun e a cs' w'=>(e=.normal∨e=.ret)∧∃U Y,a.defers=(U.map fun r=>({ target:=.collected r,args:=#[] }:Deferred))∧U.Nodup∧(∀r∈U,w'.heap[r]?=some (.deferred (some []))) ∧
   cs'={ G with mode:=Y }::cs∧∀w'',G7 U w' w''→∃v,(results fn a.tmps).run P w''=.ok v w''∧R (.returned v) Y w'') { tmps:=args++Array.replicate (fn.ntmps-args.size) undef,defers:=[] } (G::cs) w):CallsD P f args u w R:=by
 intro G cs hu
 let b:Frame:={ (default:Frame) with fn:=f,kind:=.deferred }
 have O:Frame.enter P f args .deferred=b.at { tmps:=args++Array.replicate (fn.ntmps-args.size) undef,defers:=[] } [.code c]:=by
  simp[Frame.enter,Frame.at,hf,hb,b]
 obtain⟨e,a',cs',w',⟨he,U,Y,hd,hn,aa,rfl,hq⟩,J⟩:=h G cs hu b [] rfl rfl;rw[←O] at J
 have fin:∀todo,Steps P (lone (Frame.enter P f args .deferred) (G::cs) w) (lone { b.at a' todo with mode:=.returning } ({ G with mode:=Y }::cs) w') →
   ∃e Z w'' fr,R e Z w''∧Comes P (lone (Frame.enter P f args .deferred) (G::cs) w) (lone fr ({ G with mode:=Z }::cs) w'') e∧fr.kind=.deferred∧fr.going P w'' e:=by
  intro todo hs;obtain⟨w'',t,ab⟩:=Ob (P:=P) (cs:={ G with mode:=Y }::cs) U { b.at a' todo with mode:=.returning } w' zq hn aa hd;obtain⟨v,hr,hR⟩:=hq w'' t;exact⟨.returned v,Y,w'',_,hR,Steps.trans hs ab,rfl,rfl,rfl,fn,hf,hr⟩
 rcases he with rfl|rfl
 ·exact fin [] (Steps.trans J (.one step_end))
 ·obtain⟨todo,hs⟩:=J;exact fin todo hs
structure KY(P:Program)(g:FuncId) where
 fn:Func
 id:Nat
 o1:Oper
 o2:Oper
 d1:Tmp
 d2:Tmp
 ts:Array TypeId
 rest:Code
 hf:P.funcs[g]?=some fn
 hb:fn.body=some (.seq (.region id #[o1,o2] false) rest)
 hop1:o1.op=.call ⟨.builtin .recover,#[],ts⟩
 hop2:o2.op=.assign (.tmp d1)
 hg1:o1.guard=none
 hg2:o2.guard=none
 hd1:o1.dst=some d1
 hd2:o2.dst=some d2
 hlt1:d1<fn.ntmps
 hlt2:d2<fn.ntmps
def QaW(u G:FrameMode)(v:Value):Prop:=∀(c0:Frame) (cs:List Frame),c0.mode=u→(recoverD (c0::cs)=some (v,{ c0 with mode:=G }::cs))∨(recoverD (c0::cs)=none∧v=.nilIface∧G=u)
def CD(P:Program)(g:FuncId)(U:Array Value)(w:World)(R:Ending→World→Prop):Prop:=∀u J v O,U=(v::O).toArray→QaW u J v→CallsD P g O.toArray u w fun e G w'=>G=J∧R e w'
def QaX(P:Program)(fn:Func)(hc:List (Nat×Blk))(R:KN→QY→Prop):AX→St→Prop|.panic _,_=>False|x,s=>gp P fn hc R x s
theorem gy{T:List (Nat×AV)}{d:Tmp}{x:AV}(r:ZG φ M0 N D (look T) h a w)(J:d<N)(O:Qg φ h w (MM φ h M0) x v):ZG φ M0 N D (look ((d,x)::T)) h (a.put (some d) v) w:=by
 refine⟨r.dfs,by simp[Act.put,r.siz],r.hp,fun t y G=>?_⟩;simp only[look] at G;by_cases e:d=t
 ·simp only[e,if_true,Zf] at G;subst G;subst e;refine⟨J,?_⟩;have h0:d<a.tmps.size:=by rw[r.siz];exact J
  have:(a.put (some d) v).tmps.getD d undef=v:=by simp[Act.put,h0]
  rw[this];exact O
 ·simp only[e,if_false] at G;obtain⟨g1,g2⟩:=r.tm t y G;refine⟨g1,?_⟩;have:(a.put (some d) v).tmps.getD t undef=a.tmps.getD t undef:=by simp[Act.put,Array.getElem?_setIfInBounds_ne e]
  rw[this];exact g2
theorem wK(C:KY P g){rv:AV}{caps:List AV}(hl:caps.length≤C.fn.ntmps)(h:Ex P C.fn.ntmps none C.rest ⟨(C.d2,rv)::(C.d1,rv)::Xg 0 caps,hc⟩ (QaX P C.fn hc R)) :
  ∀φ M0 w vs,Z9 φ (look hc) w M0→Ql φ (look hc) w (MM φ (look hc) M0) (rv::caps) vs→CD P g vs.toArray w (Out R φ (look hc) w M0):=by
 intro φ M0 w vs hH ha u u' v vl aq ad;simp only[Ql] at ha;obtain⟨y,ys,rfl,ai,hcaps⟩:=ha
 have ah:y=v∧ys=vl:=by
  have:=congrArg Array.toList aq;simpa using this
 obtain⟨rfl,rfl⟩:=ah;refine kZ C.hf C.hb fun c0 cs hm=>wpS_seq (wpS_region ?_)
 have Z:List.range (#[C.o1,C.o2]:Array Oper).size=[0,1]:=rfl;rw[Z];have ae:∀y,Region.wanted C.o1 y=true:=fun y=>by simp[Region.wanted,C.hg1]
 have ao:∀y,Region.wanted C.o2 y=true:=fun y=>by simp[Region.wanted,C.hg2]
 have U:∀(a:Act) (w:World),(execOp a.eval C.o1).run P w=.ok .recover w:=fun a w=>by simp[execOp,C.hop1,resolve,invoke,builtin]
 have r0:=ED hH hcaps hl;generalize au:({ tmps:=ys.toArray++Array.replicate (C.fn.ntmps-ys.toArray.size) undef,defers:=[] }:Act)=a0 at r0;have r1:=gy (d:=C.d1) r0 C.hlt1 ai
 have aj:(a0.put C.o1.dst y).eval (.tmp C.d1)=y:=by
  have h0:C.d1<a0.tmps.size:=by rw[r0.siz];exact C.hlt1
  simp[Act.put,C.hd1,Act.eval,h0]
 have r2:=gy (d:=C.d2) r1 C.hlt2 ai
 have rest:∀(Y:List Frame),Y={ c0 with mode:=u' }::cs→wpOpsS P #[C.o1,C.o2] (Exit.thenS (C.rest.wpS P (fun e a cs' w'=>(e=.normal∨e=.ret)∧∃G J,a.defers=(G.map fun r=>({ target:=.collected r,args:=#[] }:Deferred))∧G.Nodup∧(∀r∈G,w'.heap[r]?=some (.deferred (some []))) ∧
   cs'={ c0 with mode:=J }::cs∧∀w'',G7 G w' w''→∃v,(results C.fn a.tmps).run P w''=.ok v w''∧(J=u'∧Out R φ (look hc) w M0 (.returned v) w''))) (fun e a cs' w'=>(e=.normal∨e=.ret)∧∃G J,a.defers=(G.map fun r=>({ target:=.collected r,args:=#[] }:Deferred))∧G.Nodup∧(∀r∈G,w'.heap[r]?=some (.deferred (some []))) ∧
   cs'={ c0 with mode:=J }::cs∧∀w'',G7 G w' w''→∃v,(results C.fn a.tmps).run P w''=.ok v w''∧(J=u'∧Out R φ (look hc) w M0 (.returned v) w''))) [1] (a0.put C.o1.dst y) Y w:=by
  intro Y ak;have O:(#[C.o1,C.o2]:Array Oper)[1]?=some C.o2:=rfl
  have ab:(execOp (a0.put C.o1.dst y).eval C.o2).run P w=.ok (.value y) w:=by
   generalize a0.put C.o1.dst y=A at aj;simp[execOp,C.hop2,aj]
  simp only[wpOpsS,O,ao,if_true,ab,Oper.upon];show C.rest.wpS P _ ((a0.put C.o1.dst y).put C.o2.dst y) Y w;rw[C.hd1,C.hd2];refine wpS_of_wp (wpIn_wide.1 (wpIn_mono (h φ M0 _ _ w r2) ?_));rintro e a' w' ⟨φ',k,s',h1,h2,h3,h4⟩;obtain⟨al,G,hd,an,ac⟩:=h2.dfs;have ar:a'.defers=G.map fun r=>({ target:=.collected r,args:=#[] }:Deferred):=by rw[hd];simp
  have aa:∀r∈G,w'.heap[r]?=some (.deferred (some []))∧∀b,look s'.H b≠none→φ' b≠r:=fun r hr=>(ac r hr).2
  have go:Al P C.fn hc R s'→∃G J,a'.defers=(G.map fun r=>({ target:=.collected r,args:=#[] }:Deferred))∧G.Nodup∧(∀r∈G,w'.heap[r]?=some (.deferred (some []))) ∧
    Y={ c0 with mode:=J }::cs∧∀w'',G7 G w' w''→∃v,(results C.fn a'.tmps).run P w''=.ok v w''∧(J=u'∧Out R φ (look hc) w M0 (.returned v) w''):=by
   intro af;refine⟨G,u',ar,an,fun r hr=>(aa r hr).1,ak,fun w'' t=>?_⟩;obtain⟨v,g1,g2⟩:=I9 (h2.turned t aa) (h3.turned t (fun r hr=>(ac r hr).1) aa) af;exact⟨v,g1,rfl,g2⟩
  cases k with
 |normal =>
   simp only[UH] at h4;subst h4;exact⟨.inl rfl,go h1⟩
 |ret =>
   simp only[UH] at h4;subst h4;exact⟨.inr rfl,go h1⟩
 |exit i=>exact h1.elim
 |panic x=>exact h1.elim
 have O:(#[C.o1,C.o2]:Array Oper)[0]?=some C.o1:=rfl;rcases ad c0 cs hm with h1|⟨h1,rfl,rfl⟩
 ·rw[wpOpsS];simp only[O,ae,if_true,U,h1];exact rest _ rfl
 ·rw[wpOpsS];simp only[O,ae,if_true,U,h1];exact rest _ (by subst hm;rfl)
def DEx(P:Program)(N:Nat)(g:FuncId)(args:List AV)(s:St)(K:St→Prop):Prop :=
 ∀φ M0 D a w G,ZG φ M0 N D (look s.T) (look s.H) a w→Ql φ (look s.H) w (MM φ (look s.H) M0) args G→CD P g G.toArray w fun e w' =>
  match e with
 |.returned v=>∃φ' s',K s'∧ZG φ' M0 N D (look s'.T) (look s'.H) a w'∧Zl φ (look s.H) w φ' (look s'.H) w'
 |_=>False
theorem nM(ρ:Nat→Nat)(O:∀φ M0 w J,Z9 φ (look hc) w M0→Ql φ (look hc) w (MM φ (look hc) M0) args' J→CD P g J.toArray w (Out R φ (look hc) w M0))(G:NS args (Ja ρ args'))(hok:KR (look hc) args'=true)(Y:∀c∈hc.map (·.1),1000≤c)(ab:∀c k,look hc c=some k→okRefB (look hc) k=true)(Z:∀c k,look hc c=some k→∃k0,look s.H (ρ c)=some k0∧leB k0 (Ky ρ k))(aa:∀c∈hc.map (·.1),∀d∈hc.map (·.1),ρ c=ρ d→c=d)(U:∀r h',R r h'→∃hc' H2,h'=look hc'∧F4 ρ hc hc' s.H∧(∀b,look H2 b=look (KP ρ hc' s.H) b) ∧
   (match r with|.ret x=>K (St.put ⟨s.T,H2⟩ none (JH ρ x))|.panic x=>False)):DEx P N g args s K:=by
 intro φ M0 D a w J r ha;have:=MP (C:=fun _ J w R=>CD P g J w R) (fun _ J w R R' h hq u u' v vl e hr=>(h u u' v vl e hr).mono (fun e ac w' p=>⟨p.1,hq _ _ p.2⟩)) (N:=N) (dst:=none) (K:=K) (Q:=fun _ _=>False) ρ O G hok Y ab Z aa (fun t ht=>by cases ht) U φ M0 D a w J r ha;intro u u' v vl e hr;refine(this u u' v vl e hr).mono ?_;rintro e ac w' ⟨rfl,he⟩;refine⟨rfl,?_⟩;cases e with
|returned v=>exact he
|panicked c=>obtain⟨_,x,_,hF,_,_,hx⟩:=he;exact hF
|outgrown=>exact he
def sg(L:List (Nat×Nat))(x:Nat):Nat:=(look L x).getD x
def sgI(L:List (Nat×Nat))(x:Nat):Nat:=sg (L.map fun p=>(p.2,p.1)) x
def sgT(L:List (Nat×Nat))(T:List (Nat×AV)):List (Nat×AV):=T.map fun p=>(p.1,JH (sg L) p.2)
def wL(L:List (Nat×Nat))(H:List (Nat×Blk)):List (Nat×Blk):=H.map fun p=>(sg L p.1,Ky (sg L) p.2)
def QbF(L:List (Nat×Nat))(H:List (Nat×Blk)):Bool:=H.all (fun p=>sgI L (sg L p.1)==p.1)&&L.all (fun p=>Nat.blt p.1 1000&&Nat.ble 1000 p.2&&sg L p.1==p.2&&(match look H p.1 with|some (.box _ _)=>true|_=>false))
def R4(L:List (Nat×Nat)):List AV:=L.map fun p=>.ptr p.2 0
theorem wM(L:List (Nat×Nat)):∀(T:List (Nat×AV)) (t:Nat),look (sgT L T) t=(look T t).map (JH (sg L))
|[],t=>rfl
|(k,v)::T,t=>by
  simp only[sgT,U8,look];by_cases e:k=t
  ·simp[e]
  ·simp only[e,if_false];exact wM L T t
structure R5(fn:Func)(g:FuncId) where
 r1:Code
 rest:Code
 id:Nat
 o1:Oper
 o2:Oper
 caps:Array Operand
 tbs:List Tmp
 tc:Tmp
 ts:Array TypeId
 hb:fn.body=some (.seq r1 (.seq (.region id #[o1,o2] false) rest))
 hop1:o1.op=.makeFunc (.func g) #[] caps
 hcaps:caps.toList=tbs.map .tmp
 hop2:o2.op=.defer ⟨.value (.tmp tc),#[],ts⟩
 hg1:o1.guard=none
 hg2:o2.guard=none
 hd1:o1.dst=some tc
 hd2:o2.dst=none
 hlt:tc<fn.ntmps
def gz(P:Program)(fn:Func)(hc:List (Nat×Blk))(N:Nat)(g:FuncId)(caps:List AV)(R:KN→QY→Prop):AX→St→Prop|.ret,s=>DEx P N g (xK::caps) s (Al P fn hc R)|.normal,s=>DEx P N g (xK::caps) s (Al P fn hc R)|.panic v,s=>DEx P N g (v::caps) s (Al P fn hc R)|.exit _,_=>False
theorem yc(F:R5 fn g)(L:List (Nat×Nat))(hf:P.funcs[f]?=some fn)(hl:args.length≤fn.ntmps)(cm:We P g=true)(h:Ex P fn.ntmps none F.r1 ⟨Xg 0 args,hc⟩ (fun x s=>x=.normal∧F.tbs.map (look s.T)=L.map (fun p=>some (.ptr p.1 0))∧QbF L s.H=true∧(∀c k x,look s.H c=some k→k.ob=some x→(some x).map (xJ (sg L))=some x) ∧
   Ex P fn.ntmps none F.rest ⟨(F.tc,.fn (.func g) [] (R4 L))::sgT L s.T,wL L s.H⟩ (gz P fn hc fn.ntmps g (R4 L) R))):V7 P f args (look hc) R:=by
 intro φ M0 w vs hH ha;refine NW hf F.hb ?_;refine wpIn_seq (wpIn_mono (h φ M0 _ _ w (ED hH ha hl)) ?_);rintro e a1 w1 ⟨aa,k,s,⟨rfl,bi,bw,bv,ay⟩,r1,E1,U⟩;simp only[UH] at U;subst U;show Code.wpIn (wd none) 0 P (.seq (.region F.id #[F.o1,F.o2] false) F.rest) _ a1 w1;simp only[QbF,KL,Gp,beq_iff_eq] at bw;obtain⟨bk,ae⟩:=bw
 have hL:∀p∈L,p.1<1000∧1000≤p.2∧∃ty cs,look s.H p.1=some (.box ty cs):=by
  intro p hp;have:=ae p hp;obtain⟨⟨⟨g1,g2⟩,_⟩,g3⟩:=this;refine⟨by simpa [Nat.blt_eq] using g1,Nat.le_of_ble_eq_true g2,?_⟩;split at g3
  ·rename_i ty cs he;exact⟨ty,cs,he⟩
  ·cases g3
 let ps:Array Value:=F.caps.map a1.eval
 have co:ps.toList=F.tbs.map fun t=>a1.eval (.tmp t):=by simp[ps,F.hcaps,Function.comp_def]
 have bt:ps.toList=L.map fun p=>.pointer (some ⟨aa p.1,0,none⟩):=by
  rw[co]
  have:∀(ts:List Tmp) (L:List (Nat×Nat)),ts.map (look s.T)=L.map (fun p=>some (.ptr p.1 0))→ts.map (fun t=>a1.eval (.tmp t))=L.map fun p=>.pointer (some ⟨aa p.1,0,none⟩):=by
   intro ts
   induction ts with
  |nil=>intro L hh;cases L with
   |nil=>rfl
   |cons p L=>cases hh
  |cons t ts ih=>intro L hh;cases L with
   |nil=>cases hh
   |cons p L =>
     simp only[U8,List.cons.injEq] at hh ⊢;refine⟨?_,ih L hh.2⟩;have:=(r1.tm t _ hh.1).2;simp only[Qg] at this;exact this.1
  exact this _ _ bi
 let d:Deferred:={ target:=.fn (.func g) ps,args:=#[] }
 let a2:Act:={ tmps:=a1.tmps.setIfInBounds F.tc (.func (.func g) #[] ps),defers:=d::a1.defers }
 have cf:∀Q,Code.wpIn (wd none) 0 P F.rest Q a2 w1→Code.wpIn (wd none) 0 P (.seq (.region F.id #[F.o1,F.o2] false) F.rest) Q a1 w1:=by
  intro Q hq;refine wpIn_seq (wpIn_region ?_);have al:List.range (#[F.o1,F.o2]:Array Oper).size=[0,1]:=rfl;rw[al];have av:(#[F.o1,F.o2]:Array Oper)[0]?=some F.o1:=rfl;have bb:(#[F.o1,F.o2]:Array Oper)[1]?=some F.o2:=rfl;have ca:∀y,Region.wanted F.o1 y=true:=fun y=>by simp[Region.wanted,F.hg1]
  have b5:∀y,Region.wanted F.o2 y=true:=fun y=>by simp[Region.wanted,F.hg2]
  have ar:(execOp a1.eval F.o1).run P w1=.ok (.value (.func (.func g) #[] ps)) w1:=by simp[execOp,F.hop1,Instr.makeFunc,ps]
  have b4:(a1.put F.o1.dst (.func (.func g) #[] ps)).eval (.tmp F.tc)=.func (.func g) #[] ps:=by
   have h0:F.tc<a1.tmps.size:=by rw[r1.siz];exact F.hlt
   simp[Act.put,F.hd1,Act.eval,h0]
  have bc:(execOp (a1.put F.o1.dst (.func (.func g) #[] ps)).eval F.o2).run P w1=.ok (.defer d) w1:=by
   simp[execOp,F.hop2,resolve,b4,Deferred.ofValue,d]
  simp only[wpOpsIn,av,bb,ca,b5,if_true];refine⟨fun _ _=>trivial,?_⟩;show Oper.uponIn _ _ _ _ _ _ _ (Sem.run P (execOp a1.eval F.o1) w1);rw[ar];refine⟨fun _ _=>trivial,?_⟩;show Oper.uponIn _ _ _ _ _ _ _ (Sem.run P (execOp (a1.put F.o1.dst (.func (.func g) #[] ps)).eval F.o2) w1);rw[bc];show Code.wpIn (wd none) 0 P F.rest Q _ w1
  have:({ (a1.put F.o1.dst (.func (.func g) #[] ps)) with defers:=d::(a1.put F.o1.dst (.func (.func g) #[] ps)).defers }:Act).put F.o2.dst undef=a2:=by
   simp[Act.put,F.hd1,F.hd2,a2]
  rw[this];exact hq
 refine cf _ ?_
 have ai:∀c∈s.H.map (·.1),sgI L (sg L c)=c:=by
  intro c hc;obtain⟨p,hp,rfl⟩:=List.mem_map.1 hc;exact bk p hp
 have bd:∀c,1000≤c→sg L c=c:=by
  intro c hc;unfold sg;cases hq:look L c with
 |none=>rfl
 |some d =>
   have:c∈L.map (·.1):=Vz.1 (by rw[hq];simp);obtain⟨p,hp,rfl⟩:=List.mem_map.1 this;have:=(hL p hp).1;omega
 let O:Nat→Nat:=fun x=>aa (sgI L x)
 have G:∀c,look s.H c≠none→O (sg L c)=aa c:=fun c hc=>by simp only[O];rw[ai c (Vz.1 hc)]
 have ba:∀c d,c∈s.H.map (·.1)→d∈s.H.map (·.1)→sg L c=sg L d→c=d:=fun c d hc hd he=>by rw[←ai c hc,he,ai d hd]
 have Y:∀c k,look s.H c=some k→look (wL L s.H) (sg L c)=some (Ky (sg L) k):=by
  intro c k hk;have cn:c∈s.H.map (·.1):=Vz.1 (by rw[hk];simp);unfold wL;rw[I8 (fun x y U hy bz=>ba x y U (by rcases List.mem_cons.1 hy with rfl|hy;exact cn;exact hy) bz),hk];rfl
 have Z:∀x k,look (wL L s.H) x=some k→∃c k',look s.H c=some k'∧sg L c=x∧k=Ky (sg L) k':=by
  intro x k U;have:x∈(wL L s.H).map (·.1):=Vz.1 (by rw[U];simp);simp only[wL,List.map_map,List.mem_map,Function.comp] at this;obtain⟨q,hq,rfl⟩:=this;have cg:q.1∈s.H.map (·.1):=List.mem_map_of_mem hq;obtain⟨k',br⟩:=AP.1 (Vz.2 cg);rw[Y q.1 k' br] at U;exact⟨q.1,k',br,rfl,(Option.some.inj U).symm⟩
 have ao:∀x o,DD O (look (wL L s.H)) x o→DD aa (look s.H) x o:=by
  rintro x o ⟨y,k,g1,g2,g3⟩;obtain⟨c,k',g4,rfl,rfl⟩:=Z y k g1;refine⟨c,k',g4,?_,?_⟩
  ·rw[←G c (by rw[g4];simp)];exact g2
  ·cases k'<;>exact g3
 have hM:∀x o,MM O (look (wL L s.H)) M0 x o→MM aa (look s.H) M0 x o:=fun x o U=>U.elim (fun h=>.inl (ao x o h)) .inr
 obtain⟨o1,o2⟩:=eY (w:=w1) (ρ:=sg L) (φ:=O) (φc:=aa) (h:=look (wL L s.H)) (hc:=look s.H) G hM Y
 have cd:Z9 O (look (wL L s.H)) w1 M0:=by
  refine⟨fun x y U hy he=>?_,fun x k U=>?_,fun x U o hm=>?_,r1.hp.lt,r1.hp.gm.sub hM⟩
  ·obtain⟨kx,a6⟩:=AP.1 U;obtain⟨ky,b7⟩:=AP.1 hy;obtain⟨c,k1,g1,rfl,_⟩:=Z x kx a6;obtain⟨c',k2,g2,rfl,_⟩:=Z y ky b7;rw[G c (by rw[g1];simp),G c' (by rw[g2];simp)] at he;rw[r1.hp.inj c c' (by rw[g1];simp) (by rw[g2];simp) he]
  ·obtain⟨c,k',g1,rfl,rfl⟩:=Z x k U;rw[G c (by rw[g1];simp)];have:=r1.hp.blk c k' g1;cases k' with
  |box ty cs=>obtain⟨c0,q1,q2⟩:=this;exact⟨c0,q1,o2 _ _ q2⟩
  |arr ty S n=>exact this
  |vec ty S es=>obtain⟨c0,cap,q1,q2,q3,q4,q5,q6,q7⟩:=this;exact⟨c0,cap,q1,q2,q3,q4,q5,q6,N8 hM _ _ q7⟩
  |lp T nf st pd =>
    obtain⟨tmps,d,q1,q2,q3⟩:=this;refine⟨tmps,d,q1,q2,fun t x ht=>?_⟩;rw[Bw] at ht;cases hl:look T t with
   |none=>rw[hl] at ht;cases ht
   |some y =>
     rw[hl] at ht;cases ht;exact⟨(q3 t y hl).1,o1 _ _ (q3 t y hl).2⟩
  |mp es =>
    obtain⟨en,cl,q1,q2,q3⟩:=this;refine⟨en,cl,q1,q2,?_⟩;have:=o2 _ _ q3;rw[kW] at this;exact this
  |mf es =>
    obtain⟨en,cl,q1,q2,q3,q4⟩:=this;exact⟨en,cl,q1,by rw[LY];exact q2,by rw[LX];exact o2 _ _ q3,q4⟩
  |mg en cl es =>
    obtain⟨q1,q2,q3,q4⟩:=this;exact⟨q1,by rw[LY];exact q2,by rw[LX];exact o2 _ _ q3,q4⟩
  |it m cl sn =>
    obtain⟨q1,k2,q2,q3⟩:=this;exact⟨by rw[G m (by rw[q2];simp)];exact q1,_,Y m _ q2,by rw[Uh,q3];rfl⟩
  ·obtain⟨kx,a6⟩:=AP.1 U;obtain⟨c,k1,g1,rfl,_⟩:=Z x kx a6;rw[G c (by rw[g1];simp)] at hm;exact r1.hp.fr c (by rw[g1];simp) o hm
 have bf:Zl aa (look s.H) w1 O (look (wL L s.H)) w1:=by
  have ab:∀c k,1000≤c→look s.H c=some k→look (wL L s.H) c=some (Ky (sg L) k)∧O c=aa c:=by
   intro c k hc ad;have h1:=Y c _ ad;have h2:=G c (by rw[ad];simp);rw[bd c hc] at h1 h2;exact⟨h1,h2⟩
  refine⟨rfl,rfl,rfl,Yf _,fun _ _ _=>rfl,fun _ _ _ _=>rfl,fun x o _ hm=>ao x o hm,?_,?_,?_,?_⟩
  ·intro c ty cs hc ad;obtain⟨h1,h2⟩:=ab c _ hc ad;exact⟨⟨Ja (sg L) cs,h1⟩,h2⟩
  ·intro t ty S n ht aw;obtain⟨h1,h2⟩:=ab t _ ht aw;exact⟨n,h1,Yf _,fun _=>VN (h2) rfl⟩
  ·intro t ty S n ht aw;obtain⟨h1,h2⟩:=ab t _ ht aw;exact⟨n,h1,Yf _,fun _=>⟨h2,fun c hc=>⟨c,hc,rfl⟩⟩⟩
  ·intro c k x hc ad ho;obtain⟨h1,h2⟩:=ab c _ hc ad;exact⟨⟨_,h1,by rw[Uh,ho];exact bv c k x ad ho⟩,h2⟩
 have an:(L.map fun p=>AV.ptr (sg L p.1) 0)=R4 L:=List.map_congr_left fun p hp=>by rw[(ae p hp).1.2]
 have af:∀p∈L,∃ty cs,look (wL L s.H) (sg L p.1)=some (.box ty cs):=by
  intro p hp;obtain⟨_,_,ty,cs,hb⟩:=hL p hp;exact⟨ty,Ja (sg L) cs,Y _ _ hb⟩
 have r2:ZG O M0 fn.ntmps ⟨d::a1.defers,w1.heap.size⟩ (look ((F.tc,.fn (.func g) [] (L.map fun p=>.ptr (sg L p.1) 0))::sgT L s.T)) (look (wL L s.H)) a2 w1:=by
  refine⟨⟨Yf _,[],rfl,List.nodup_nil,fun r hr=>by cases hr⟩,by simp[a2,r1.siz],cd,fun t x ht=>?_⟩;simp only[look] at ht;by_cases e:F.tc=t
  ·simp only[e,if_true,Zf] at ht;subst ht;refine⟨e▸F.hlt,?_⟩;have h0:t<a1.tmps.size:=by rw[r1.siz];exact e▸F.hlt
   have:a2.tmps.getD t undef=.func (.func g) #[] ps:=by simp[a2,e,h0]
   rw[this];simp only[Qg,Ql];refine⟨[],ps.toList,by simp,rfl,?_⟩;rw[bt]
   have:∀l:List (Nat×Nat),(∀p∈l,p∈L)→Ql O (look (wL L s.H)) w1 (MM O (look (wL L s.H)) M0) (l.map fun p=>.ptr (sg L p.1) 0) (l.map fun p=>.pointer (some ⟨aa p.1,0,none⟩)):=by
    intro l
    induction l with
   |nil=>intro _;simp[Ql]
   |cons p l ih =>
     intro hh;simp only[U8,Ql];refine⟨_,_,rfl,?_,ih fun q hq=>hh q (by simp[hq])⟩;simp only[Qg];obtain⟨_,_,ty,cs,hb⟩:=hL p (hh p zq);exact⟨by rw[G p.1 (by rw[hb];simp)],af p (hh p zq)⟩
   exact this L fun p hp=>hp
  ·simp only[e,if_false] at ht;rw[wM] at ht;cases hq:look s.T t with
  |none=>rw[hq] at ht;cases ht
  |some y =>
    rw[hq] at ht;simp only[Option.map_some,Zf] at ht;subst ht;obtain⟨g1,g2⟩:=r1.tm t y hq;refine⟨g1,?_⟩;have:a2.tmps.getD t undef=a1.tmps.getD t undef:=by simp[a2,Array.getElem?_setIfInBounds_ne e]
    rw[this];exact o1 _ _ g2
 rw[an] at r2;refine wpIn_mono (ay O M0 _ a2 w1 r2) ?_;rintro e a3 w3 ⟨J,k,s3,hq,r3,E3,U⟩;have bu:=(E1.trans bf).trans E3
 have a7:∀w,(invoke (.fn (.func g) ps) #[]).run P w=.ok (.enter g ps) w:=fun w=>by
  simp only[invoke];rw[UJ cm];simp
 obtain⟨bx,ms,hd,b3,ak⟩:=r3.dfs;have aj:∀r∈ms,w3.heap[r]?=some (.deferred (some []))∧∀b,look s3.H b≠none→J b≠r:=fun r hr=>(ak r hr).2
 have az:∀ac:List Nat,a1.defers=(ac.map fun r=>({ target:=.collected r,args:=#[] }:Deferred))→∀r∈ac,r<w1.heap.size:=by
  intro ac h1 r hr;obtain⟨_,cj,h2,_,h3⟩:=r1.dfs
  have e:ac=cj:=by
   rw[h1] at h2;simp only[List.append_nil] at h2;exact EF h2
  rw[e] at hr;exact(RQ.1 (h3 r hr).2.1).1
 have cc:Marks J ⟨[],w.heap.size⟩ (look s3.H) a1 w3:=(r1.dfs.keep bf).keep E3
 have a8:Ql J (look s3.H) w3 (MM J (look s3.H) M0) (R4 L) ps.toList:=by
  rw[bt]
  have:∀l:List (Nat×Nat),(∀p∈l,p∈L)→Ql J (look s3.H) w3 (MM J (look s3.H) M0) (R4 l) (l.map fun p=>.pointer (some ⟨aa p.1,0,none⟩)):=by
   intro l
   induction l with
  |nil=>intro _;simp[R4,Ql]
  |cons p l ih =>
    intro hh;have hp:=hh p zq;simp only[R4,U8,Ql];refine⟨_,_,rfl,?_,ih fun q hq=>hh q (by simp[hq])⟩;simp only[Qg];obtain⟨_,au,ty,cs,hb⟩:=hL p hp;obtain⟨Wj,cp,bn⟩:=af p hp;rw[(ae p hp).1.2] at bn;obtain⟨⟨b8,b6⟩,bh⟩:=E3.kb p.2 Wj _ au bn;refine⟨?_,Wj,b8,b6⟩;rw[bh,←(ae p hp).1.2,G p.1 (by rw[hb];simp)]
  exact this L fun p hp=>hp
 have go:∀(u u':FrameMode) (rv:AV),u≠.run→settle u'=.returning→DEx P fn.ntmps g (rv::R4 L) s3 (Al P fn hc R) →
   (∀w',G7 ms w3 w'→∃v,Qg J (look s3.H) w' (MM J (look s3.H) M0) rv v∧QaW u u' v) →
   Ug P fn a3.tmps (Out R φ (look hc) w M0) a3.defers u w3:=by
  intro u u' rv hu bm be bg;rw[hd];refine NY hu _ ms w3 b3 (fun r hr=>(ak r hr).2.1) fun w4 t=>?_
  have r4:=r3.turned t aj;have E4:=bu.turned t (fun r hr=>Nat.le_trans E1.size (ak r hr).1) aj;obtain⟨v,hv,hm⟩:=bg w4 t
  have ax:Ql J (look s3.H) w4 (MM J (look s3.H) M0) (rv::R4 L) (v::ps.toList):=by
   simp only[Ql];refine⟨v,ps.toList,rfl,hv,?_⟩
   have:∀(xs:List AV) (l:List Value),Ql J (look s3.H) w3 (MM J (look s3.H) M0) xs l→Ql J (look s3.H) w4 (MM J (look s3.H) M0) xs l:=by
    intro xs
    induction xs with
   |nil=>intro l hl;simpa [Ql] using hl
   |cons x xs ih =>
     intro l hl;simp only[Ql] at hl ⊢;obtain⟨y,ys,rfl,h1,h2⟩:=hl;exact⟨y,ys,rfl,Ci t aj _ _ h1,ih _ h2⟩
   exact this _ _ a8
  have bq:=be J M0 _ _ w4 (v::ps.toList) r4 ax u u' v ps.toList rfl hm;rw[Array.toArray_toList] at bq;refine⟨hu,.inr ⟨.func g,ps,g,ps,rfl,a7 w4,bq.mono ?_⟩⟩;rintro e ce w5 ⟨rfl,he⟩;cases e with
 |panicked c=>exact he.elim
 |outgrown=>exact he.elim
 |returned x =>
  obtain⟨bp,s5,g1,g2,g3⟩:=he;show Ug P fn a3.tmps (Out R φ (look hc) w M0) a1.defers (settle ce) w5;rw[bm];obtain⟨_,ac,hd1,bo,aq⟩:=cc;have bl:a1.defers=(ac.map fun r=>({ target:=.collected r,args:=#[] }:Deferred))++[]:=hd1
  have ah:∀r∈ac,w5.heap[r]?=some (.deferred (some []))∧∀b,look s5.H b≠none→bp b≠r:=by
   intro r hr;have h3:=aq r hr
   have bj:r∉ms:=fun U=>by
    have h6:w1.heap.size≤r:=(ak r U).1;have h7:=az ac (by simpa using hd1) r hr;omega
   have h4:w4.heap[r]?=some (.deferred (some [])):=by rw[t.same r bj];exact h3.2.1
   have hlt:r<w4.heap.size:=(RQ.1 h4).1;refine⟨(g3.same r hlt h3.2.2).trans h4,fun b hb e=>?_⟩;cases hk:look s5.H b with
  |none=>exact hb hk
  |some k =>
    obtain⟨o,ho⟩:=Nz (φ:=bp) hk;rw[e] at ho;obtain⟨b0,k0,b9,ch,_⟩:=g3.mu r o hlt ho;exact h3.2.2 b0 (by rw[b9];simp) ch
  rw[bl];refine NY zq _ ac w5 bo (fun r hr=>(ah r hr).1) fun w6 t6=>?_
  have r6:=g2.turned t6 ah;have E6:=(E4.trans g3).turned t6 (fun r hr=>(aq r hr).1) ah;obtain⟨y,q1,q2⟩:=I9 r6 E6 g1;exact⟨y,q1,q2⟩
 cases k with
|normal =>
  simp only[UH] at U;subst U;exact go .returning .returning xK zq rfl hq fun w' t=>⟨.nilIface,by simp[xK,Qg,Q6],fun c0 cs hm=>.inr ⟨by simp[recoverD,hm],rfl,rfl⟩⟩
|ret =>
  simp only[UH] at U;subst U;exact go .returning .returning xK zq rfl hq fun w' t=>⟨.nilIface,by simp[xK,Qg,Q6],fun c0 cs hm=>.inr ⟨by simp[recoverD,hm],rfl,rfl⟩⟩
|exit i=>exact hq.elim
|panic x =>
  obtain⟨v,rfl,hv⟩:=U;refine go (.panicking [{ v:=v,recovered:=false }]) (.panicking [{ v:=v,recovered:=true }]) x zq rfl hq fun w' t=>⟨v,?_,fun c0 cs hm=>.inl (by simp[recoverD,hm])⟩
  exact Ci t aj _ _ hv
theorem Qa{a b:α}(h:a=b:=by kernel_rfl):a=b:=h
theorem QL{f g:α→β}(h:∀x,f x=g x:=by intro _;kernel_rfl):∀x,f x=g x:=h
def KS(cs:List PV):List AV:=cs.map .p
def ag(cs:List PV):AV:=.agg (cs.map .p)
inductive Conv where
|id
|sl (S:Nat)
|vn
|vt
|agg (l:List Conv)
mutual
def cv:Conv→AV→AV|.sl _,.tsl S es _=>.p (.sl S es)|.sl S,.p (.val (.slice none 0 0))=>.p (.sl S [])|.vn,.p (.val (.slice none 0 0))=>.vnil|.sl S,.vnil=>.p (.sl S [])|.vt,.vsl S t n=>.vtl S t n 0 n|.agg cs,.agg xs=>.agg (A8 cs xs)|.agg cs,.tup xs=>.tup (A8 cs xs)|_,x=>x
def A8:List Conv→List AV→List AV|_,[]=>[]|[],x::xs=>x::xs|c::cs,x::xs=>cv c x::A8 cs xs
end
theorem dW:∀n:Nat,(∀(x:AV),SizeOf.sizeOf x≤n→∀c,le x (cv c x))∧(∀(xs:List AV),SizeOf.sizeOf xs≤n→∀cs,NS xs (A8 cs xs)):=by
 intro n
 induction n with
|zero =>
  refine⟨fun x G=>?_,fun es G=>?_⟩
  ·cases x<;>simp at G
  ·cases es<;>simp at G
|succ n J =>
  obtain⟨O,i2⟩:=J;refine⟨fun x G c=>?_,fun xs G cs=>?_⟩
  ·unfold cv;split
   ·simp[le]
   ·simp[le]
   ·simp[le]
   ·simp[le]
   ·simp[le]
   ·rename_i cs xs;simp only[le];simp at G;exact⟨_,rfl,i2 xs zo cs⟩
   ·rename_i cs xs;simp only[le];simp at G;exact⟨_,rfl,i2 xs zo cs⟩
   ·exact le_refl x
  ·cases xs with
  |nil=>simp[A8,NS]
  |cons x xs =>
    simp at G;cases cs with
   |nil=>simp only[A8];exact wG _
   |cons c cs=>simp only[A8,NS];exact⟨_,_,rfl,O x zo c,i2 xs zo cs⟩
theorem wN(c:Conv)(x:AV):le x (cv c x):=(dW (SizeOf.sizeOf x)).1 x (Yf _) c
theorem UM(cs:List Conv)(xs:List AV):NS xs (A8 cs xs):=(dW (SizeOf.sizeOf xs)).2 xs (Yf _) cs
def QbG(C:List (Nat×Conv))(t:Nat):Conv:=(look C t).getD .id
def Oc(C:List (Nat×Conv))(T:List (Nat×AV)):List Nat→List (Nat×AV)
|[]=>[]
|t::L=>match look T t with|some x=>(t,cv (QbG C t) x)::Oc C T L|none=>Oc C T L
def cvB(cs:List Conv):Blk→Blk|.box ty xs=>.box ty (A8 cs xs)|k=>k
def Yo(C:List (Nat×List Conv))(H:List (Nat×Blk)):List Nat→List (Nat×Blk)
|[]=>[]
|b::L=>match look H b with|some k=>(b,cvB ((look C b).getD []) k)::Yo C H L|none=>Yo C H L
structure Ro where
 ts:List Nat
 bs:List Nat
 ct:List (Nat×Conv):=[]
 cb:List (Nat×List Conv):=[]
def shr(K:Ro)(s:St):St:=⟨Oc K.ct s.T K.ts,Yo K.cb s.H K.bs⟩
def okT(h:QY):List (Nat×AV)→Bool|[]=>true|(_,x)::l=>Kv h x&&okT h l
def bH(h:QY):List (Nat×Blk)→Bool|[]=>true|(_,k)::l=>okRefB h k&&bH h l
def QaY(s s':St):Bool:=okT (look s'.H) s'.T&&bH (look s'.H) s'.H&&YR (look s'.H) s.H
def Dv(K:Ro)(s:St):Option St:=if QaY s (shr K s) then some (shr K s) else none
theorem dX(cs:List Conv)(k:Blk):leB k (cvB cs k):=by
 cases k with
|box ty xs=>exact⟨_,rfl,UM cs xs⟩
|arr ty S n=>rfl
|vec ty S es=>rfl
|lp T nf st pd=>rfl
|mp es=>rfl
|mf es=>rfl
|mg en G es=>rfl
|it m G sn=>rfl
theorem R6{T:List (Nat×AV)}{h':QY}{C:List (Nat×Conv)}:∀{L:List Nat},okT h' (Oc C T L)=true→I7 (look T) h' (Oc C T L)
|[],_=>by simp[Oc,I7]
|t::L,h=>by
  simp only[Oc] at h ⊢;cases ht:look T t with
 |none=>simp only[ht] at h ⊢;exact R6 h
 |some x =>
   simp only[ht,okT,KL] at h ⊢;simp only[I7,ht,leO];exact⟨wN _ _,h.1,R6 h.2⟩
theorem Jb{H:List (Nat×Blk)}{h':QY}{C:List (Nat×List Conv)}:∀{L:List Nat},bH h' (Yo C H L)=true→BL (look H) h' (Yo C H L)
|[],_=>by simp[Yo,BL]
|b::L,h=>by
  simp only[Yo] at h ⊢;cases hb:look H b with
 |none=>simp only[hb] at h ⊢;exact Jb h
 |some k =>
   simp only[hb,bH,KL] at h ⊢;simp only[BL,hb,QbB];exact⟨dX _ _,h.1,Jb h.2⟩
theorem F5{K:Ro}(h:Dv K s=some s'):Weak N s s':=by
 unfold Dv at h;split at h
 ·rename_i hok;simp only[Zf] at h;subst h;simp only[QaY,KL] at hok;exact dQ (R6 hok.1.1) (Jb hok.1.2) hok.2
 ·cases h
structure QU{R:Type}(o:Option R)(P:Program)(N:Nat)(ro:Option Nat)(c:Code)(s:St)(Q:R→AX→St→Prop):Prop where
 intro ::
 h:∀r,o=some r→Ex P N ro c s (Q r)
structure ZL{R:Type}(o:Option R)(Q:R→AX→St→Prop)(x:AX)(s:St):Prop where
 intro ::
 h:∀r,o=some r→Q r x s
def qI{R:Type}(P:Program)(N:Nat)(ro:Option Nat)(y:Code)(Q:R→AX→St→Prop):R→AX→St→Prop:=fun r=>andThen (fun s'=>Ex P N ro y s' (Q r)) (Q r)
def wO{R:Type}(id:Nat)(Q:R→AX→St→Prop):R→AX→St→Prop:=fun r=>inBlock id (Q r)
def kQ{V R:Type}(N:Nat)(k:V→Option R)(S:V→St)(Q:R→AX→St→Prop):R→AX→St→Prop:=fun r=>andThen (fun s'=>∃v,k v=some r∧Weak N s' (S v)) (Q r)
def aG{V:Type}(N:Nat)(S:V→St):V→AX→St→Prop:=fun v x s'=>x=.normal∧Weak N s' (S v)
section
variable {R V:Type}{o o1 o2:Option R}{P:Program}{N:Nat}{ro:Option Nat}{x y c:Code}{s s':St}{Q:R→AX→St→Prop}
theorem sS(h:QU o P N ro x s (qI P N ro y Q)):QU o P N ro (.seq x y) s Q:=⟨fun r G=>kz (h.h r G)⟩
theorem sK(h:ZL o Q .normal s):QU o P N ro .skip s Q:=⟨fun r G=>lV (h.h r G)⟩
theorem nN{l:Nat}(h:ZL o Q .normal s):QU o P N ro (.label l) s Q:=⟨fun r G=>bO (h.h r G)⟩
theorem sT(h:ZL o Q .ret s):QU o P N ro .ret s Q:=⟨fun r G=>Qbt (h.h r G)⟩
theorem Qr(h:ZL o Q (.exit id) s):QU o P N ro (.exit id) s Q:=⟨fun r G=>lW (h.h r G)⟩
theorem sB(h:QU o P N ro c s (wO id Q)):QU o P N ro (.block id c) s Q:=⟨fun r G=>bP (h.h r G)⟩
theorem nO(h:QU o P N ro c s Q):QU o P N ro (.scope c) s Q:=⟨fun r G=>bQ (h.h r G)⟩
theorem ZB(hw:Weak N s s')(h:QU o P N ro c s' Q):QU o P N ro c s Q:=⟨fun r G=>LJ hw (h.h r G)⟩
theorem sP(K:Ro)(s':St)(hw:Dv K s=some s')(h:QU o P N ro c s' Q):QU o P N ro c s Q:=⟨fun r G=>LJ (F5 hw) (h.h r G)⟩
theorem sC{a:Operand}(b:Bool)(hb:Zo (look s.T) a=some (.p (.val (.bool b))))(O:QU o1 P N ro x s Q)(J:QU o2 P N ro y s Q):QU (cond b o1 o2) P N ro (.cond a x y) s Q:=by
 refine⟨fun r G=>?_⟩;refine kC b hb (fun e=>?_) (fun e=>?_)
 ·subst e;exact O.h r G
 ·subst e;exact J.h r G
theorem Q5{a:Operand}(J:QU o P N ro x s Q)(hb:Zo (look s.T) a=some (.p (.val (.bool true))):=by kernel_rfl):QU o P N ro (.cond a x y) s Q:=⟨fun r G=>kC true hb (fun _=>J.h r G) (fun e=>by cases e)⟩
theorem Q4{a:Operand}(J:QU o P N ro y s Q)(hb:Zo (look s.T) a=some (.p (.val (.bool false))):=by kernel_rfl):QU o P N ro (.cond a x y) s Q:=⟨fun r G=>kC false hb (fun e=>by cases e) (fun _=>J.h r G)⟩
theorem sN(K:Ro)(s':St)(hw:Dv K s=some s')(h:QU o P N ro y s' Q):ZL o (qI P N ro y Q) .normal s:=⟨fun r G=>(sP (Q:=Q) K s' hw h).h r G⟩
theorem QW(h:ZL o Q .ret s):ZL o (qI P N ro y Q) .ret s:=⟨fun r G=>h.h r G⟩
theorem ZF(h:ZL o Q (.exit i) s):ZL o (qI P N ro y Q) (.exit i) s:=⟨fun r G=>h.h r G⟩
theorem KT(h:ZL o Q (.panic p) s):ZL o (qI P N ro y Q) (.panic p) s:=⟨fun r G=>h.h r G⟩
theorem QP(h:ZL o Q .normal s):ZL o (wO id Q) .normal s:=⟨fun r G=>h.h r G⟩
theorem Ze(h:ZL o Q .ret s):ZL o (wO id Q) .ret s:=⟨fun r G=>h.h r G⟩
theorem Zm(h:ZL o Q (.panic p) s):ZL o (wO id Q) (.panic p) s:=⟨fun r G=>h.h r G⟩
theorem QI(h:ZL o Q .normal s):ZL o (wO id Q) (.exit id) s:=by
 refine⟨fun r G=>?_⟩;have:=h.h r G;simp only[wO,inBlock,if_true];exact this
theorem A9(hi:(i==id)=false)(h:ZL o Q (.exit i) s):ZL o (wO id Q) (.exit i) s:=by
 refine⟨fun r G=>?_⟩;have:=h.h r G;have hne:¬i=id:=by simpa using hi
 simp only[wO,inBlock,hne,if_false];exact this
theorem Qdr{k:V→Option R}{S:V→St}(v:V)(K:Ro)(hw:Dv K s=some (S v)):ZL (k v) (kQ N k S Q) .normal s:=⟨fun r G=>⟨v,G,F5 hw⟩⟩
theorem K8{k:V→Option R}{S:V→St}(h:ZL o Q .ret s):ZL o (kQ N k S Q) .ret s:=⟨fun r G=>h.h r G⟩
theorem Kg{k:V→Option R}{S:V→St}(h:ZL o Q (.exit i) s):ZL o (kQ N k S Q) (.exit i) s:=⟨fun r G=>h.h r G⟩
theorem Zz{k:V→Option R}{S:V→St}(h:ZL o Q (.panic p) s):ZL o (kQ N k S Q) (.panic p) s:=⟨fun r G=>h.h r G⟩
theorem dY{S:V→St}(v:V)(K:Ro)(hw:Dv K s=some (S v)):ZL (some v) (aG N S) .normal s:=⟨fun r G=>by cases G;exact⟨rfl,F5 hw⟩⟩
theorem Kc(S:V→St)(k:V→Option R)(O:∀v,QU (k v) P N ro y (S v) Q)(Y:QU o P N ro x s (kQ N k S Q)):QU o P N ro (.seq x y) s Q:=by
 refine⟨fun r J=>?_⟩;refine kz (AR (Y.h r J) ?_);intro e s' G;cases e with
|normal=>obtain⟨v,U,hw⟩:=G;exact LJ hw ((O v).h r U)
|exit i=>exact G
|ret=>exact G
|panic p=>exact G
theorem KG(S:V→St){m:Option V}{k:V→Option R}(Y:QU m P N ro x s (aG N S))(O:∀v,QU (k v) P N ro y (S v) Q):QU (m.bind k) P N ro (.seq x y) s Q:=by
 refine⟨fun r G=>?_⟩;obtain⟨v,U,J⟩:=Nw.1 G;refine kz (AR (Y.h v U) ?_);rintro e s' ⟨rfl,hw⟩;exact LJ hw ((O v).h r J)
end
def Q0{V R:Type}(B:(V→Option R)→V→Option R):Nat→V→Option R|0,_=>none|k+1,v=>B (Q0 B k) v
theorem QA{R V:Type}{Q:R→AX→St→Prop}(S:V→St){B:(V→Option R)→V→Option R}{v0:V}(hw:Weak N s (S v0))(Z:∀rec v,QU (B rec v) P N ro c (S v) (kQ N rec S Q)):QU (Q0 B n v0) P N ro (.loop c) s Q:=by
 refine⟨fun r Y=>?_⟩;refine LJ hw (uP (ι:={ p:Nat×V // Q0 B p.1 p.2=some r }) (fun p=>S p.1.2) (fun p=>p.1.1) ⟨(n,v0),Y⟩ ?_);rintro⟨⟨k,v⟩,U⟩;cases k with
|zero=>cases U
|succ k =>
  refine AR ((Z (Q0 B k) v).h r U) ?_;intro e s' G;cases e with
 |normal=>obtain⟨v',J,O⟩:=G;exact⟨⟨(k,v'),J⟩,by simp,O⟩
 |exit i=>exact G
 |ret=>exact G
 |panic p=>exact G
def plain:Op→Bool|.pick _ _ _=>false|.panic _=>false|.call ⟨.value _,_,_⟩=>false|_=>true
theorem Mh{op:Op}(h:plain op=true):yieldOf T op=none:=by
 unfold yieldOf;split
 ·simp[plain] at h
 ·rfl
def XR(P:Program)(N:Nat)(ops:Array Oper)(Q:AX→St→Prop)(d:Option (List Vf))(l:List Oper)(s:St):Prop :=
 match d with
|none=>Y2 P N ops Q l s
|some acc=>Yb P N ops Q l acc s
def Od(u:Kt):Vf:=(u.2.1.map (·.1),u.2.2)
def more(d:Option (List Vf))(f:Vf):Option (List Vf):=d.map (f::·)
def nxt(ops:Array Oper)(o:Oper)(s:St)(u:Kt):St:=XN ⟨ZH ops o s.T true,s.H⟩ o.dst u
def mk(ops:Array Oper)(o:Oper)(s:St)(b:Bool):St:=⟨ZH ops o s.T b,s.H⟩
section
variable {P:Program}{N:Nat}{ops:Array Oper}{o:Oper}{l:List Oper}{d:Option (List Vf)}{s:St}{Q:AX→St→Prop}
theorem Bz(hw:ZV ops o (look s.T)=some true)(hp:plain o.op=true){u:Kt}(hu:V6 P o (look (ZH ops o s.T true)) (look s.H)=some u)(J:K5 N o.dst=true)(h:XR P N ops Q (more d (Od u)) l (nxt ops o s u)):XR P N ops Q d (o::l) s:=by
 cases d with
|none =>
  show Y2 P N ops Q (o::l) s;simp only[Y2,hw,Km,Mh hp];show U7 P N o _ _ _;unfold U7;split
  ·rename_i G;rw[G] at hp;cases hp
  ·rename_i G;rw[G] at hp;cases hp
  ·rename_i G;rw[G] at hp;cases hp
  ·rw[hu];exact .inl ⟨J,h⟩
|some acc =>
  show Yb P N ops Q (o::l) acc s;simp only[Yb,hw,Km];split
  ·rename_i G;rw[G] at hp;cases hp
  ·rename_i G;rw[G] at hp;cases hp
  ·rename_i G;rw[G] at hp;cases hp
  ·rw[hu];exact .inl ⟨J,h⟩
theorem wP(hw:ZV ops o (look s.T)=some false)(G:K5 N o.dst=true)(h:XR P N ops Q (more d (none,[])) l (St.put (mk ops o s false) o.dst (.p (.val undef)))):XR P N ops Q d (o::l) s:=by
 cases d with
|none =>
  show Y2 P N ops Q (o::l) s;simp only[Y2,hw,Fw];exact⟨G,h⟩
|some acc =>
  show Yb P N ops Q (o::l) acc s;simp only[Yb,hw,Fw];exact⟨G,h⟩
theorem gB{c:Operand}(hw:ZV ops o (look s.T)=some true)(O:o.op=.pick c x y)(b:Bool)(hc:Zo (look (ZH ops o s.T true)) c=some (.p (.val (.bool b)))){v:AV}(Y:Zo (look (ZH ops o s.T true)) (cond b x y)=some v)(G:K5 N o.dst=true)(h:XR P N ops Q (more d (none,[])) l (St.put (mk ops o s true) o.dst v)):XR P N ops Q d (o::l) s:=by
 have J:∀z,cond b x y=z→WY (look (ZH ops o s.T true)) z=some (v,none,[]):=by
  rintro z rfl;simp[WY,Y]
 cases d with
|none =>
  show Y2 P N ops Q (o::l) s;have U:yieldOf (look (ZH ops o s.T true)) o.op=none:=by simp[yieldOf,O]
  simp only[Y2,hw,Km,U];show U7 P N o _ _ _;unfold U7;simp only[O,hc];have e:∀s:St,XN s o.dst (v,none,[])=St.put s o.dst v:=fun s=>by unfold XN St.put;cases o.dst<;>rfl
  cases b
  ·refine⟨(fun h=>by cases h),fun _=>?_⟩;rw[J y rfl];exact⟨G,by rw[e];exact h⟩
  ·refine⟨fun _=>?_,fun h=>by cases h⟩;rw[J x rfl];exact⟨G,by rw[e];exact h⟩
|some acc =>
  show Yb P N ops Q (o::l) acc s;simp only[Yb,hw,Km,O,hc];cases b
  ·refine⟨(fun h=>by cases h),fun _=>?_⟩;rw[J y rfl];exact⟨G,h⟩
  ·refine⟨fun _=>?_,fun h=>by cases h⟩;rw[J x rfl];exact⟨G,h⟩
end
def step1(P:Program)(N:Nat)(ops:Array Oper)(o:Oper)(s:St):Option (St×Vf) :=
 match ZV ops o (look s.T) with
|some true =>
  if K5 N o.dst then
   match o.op with
  |.pick c x y =>
    match Zo (look (ZH ops o s.T true)) c with
   |some (.p (.val (.bool true)))=>match Zo (look (ZH ops o s.T true)) x with|some v=>some (St.put (mk ops o s true) o.dst v,(none,[]))|none=>none
   |some (.p (.val (.bool false)))=>match Zo (look (ZH ops o s.T true)) y with|some v=>some (St.put (mk ops o s true) o.dst v,(none,[]))|none=>none
   |_=>none
  |op=>if plain op then(match V6 P o (look (ZH ops o s.T true)) (look s.H) with|some u=>some (nxt ops o s u,Od u)|none=>none) else none
  else none
|some false=>if K5 N o.dst then some (St.put (mk ops o s false) o.dst (.p (.val undef)),(none,[])) else none
|none=>none
def runs(P:Program)(N:Nat)(ops:Array Oper):Nat→List Oper→St→List Vf→Option (St×List Vf)
|0,_,s,acc=>some (s,acc)
|_+1,[],s,acc=>none
|k+1,o::l,s,acc=>match step1 P N ops o s with|some (s',f)=>runs P N ops k l s' (f::acc)|none=>none
def Oe(P:Program)(N:Nat)(ops:Array Oper):List Oper→St→List Vf→Option (St×List Vf)
|[],s,acc=>some (s,acc)
|o::l,s,acc=>match step1 P N ops o s with|some (s',f)=>Oe P N ops l s' (f::acc)|none=>none
def Cn(P:Program)(N:Nat)(ops:Array Oper)(draw:Bool)(s:St):Option St :=
 match Oe P N ops ops.toList s [] with
|some (s',acc)=>if draw then(if KO ops acc.reverse&&Gj ops then some s' else none) else some s'
|none=>none
section
variable {P:Program}{N:Nat}{ops:Array Oper}{s:St}{Q:AX→St→Prop}
theorem gD{l:List Oper}{d:Option (List Vf)}{f:Vf}(G:step1 P N ops o s=some (s',f))(h:XR P N ops Q (more d f) l s'):XR P N ops Q d (o::l) s:=by
 unfold step1 at G;split at G
 ·rename_i hw;split at G
  ·rename_i J;split at G
   ·rename_i c x y U;split at G
    ·rename_i hc;split at G
     ·rename_i v O;simp only[Zf,DC] at G;obtain⟨rfl,rfl⟩:=G;exact gB hw U true hc O J h
     ·cases G
    ·rename_i hc;split at G
     ·rename_i v O;simp only[Zf,DC] at G;obtain⟨rfl,rfl⟩:=G;exact gB hw U false hc O J h
     ·cases G
    ·cases G
   ·split at G
    ·rename_i hp;split at G
     ·rename_i u hu;simp only[Zf,DC] at G;obtain⟨rfl,rfl⟩:=G;exact Bz hw hp hu J h
     ·cases G
    ·cases G
  ·cases G
 ·rename_i hw;split at G
  ·rename_i J;simp only[Zf,DC] at G;obtain⟨rfl,rfl⟩:=G;exact wP hw J h
  ·cases G
 ·cases G
theorem EH:∀{l:List Oper} {s:St} {acc G:List Vf} {s':St} {b:Bool},Oe P N ops l s acc=some (s',G)→XR P N ops Q (if b then some G else none) [] s'→XR P N ops Q (if b then some acc else none) l s
|[],s,acc,G,s',b,J,h=>by
  simp only[Oe,Zf,DC] at J;obtain⟨rfl,rfl⟩:=J;exact h
|o::l,s,acc,G,s',b,J,h=>by
  simp only[Oe] at J;split at J
  ·rename_i s1 f hs;refine gD hs ?_;have:=EH (b:=b) J h;cases b
   ·exact this
   ·exact this
  ·cases J
theorem Ia{d:Option (List Vf)}:∀{k:Nat} {l:List Oper} {s:St} {acc G:List Vf} {s':St},runs P N ops k l s acc=some (s',G)→(d=none∨d=some acc)→XR P N ops Q (d.map fun _=>G) (l.drop k) s'→XR P N ops Q d l s
|0,l,s,acc,G,s',J,O,h=>by
  simp only[runs,Zf,DC] at J;obtain⟨rfl,rfl⟩:=J;rcases O with rfl|rfl
  ·exact h
  ·exact h
|k+1,[],s,acc,G,s',J,O,h=>by cases J
|k+1,o::l,s,acc,G,s',J,O,h=>by
  simp only[runs] at J;split at J
  ·rename_i s1 f hs;refine gD hs ?_;rcases O with rfl|rfl
   ·exact Ia (d:=none) J (.inl rfl) h
   ·exact Ia (d:=some (f::acc)) J (.inr rfl) h
  ·cases J
theorem EI{draw:Bool}(O:P.follows .mixedOrders=true)(G:Cn P N ops draw s=some s')(h:Q .normal s'):Ex P N ro (.region id ops draw) s Q:=by
 unfold Cn at G;split at G
 ·rename_i s1 acc J;cases draw with
 |false =>
   simp only[Bool.false_eq_true,if_false,Zf] at G;subst G;exact zh (EH (b:=false) J (show Y2 P N ops Q [] s1 from h))
 |true =>
   simp only[if_true] at G;split at G
   ·rename_i hc;simp only[KL] at hc;simp only[Zf] at G;subst G;exact u6 O hc.2 (EH (b:=true) J (show Yb P N ops Q [] acc s1 from⟨hc.1,h⟩))
   ·cases G
 ·cases G
end
def dOf(dr:Bool)(acc:List Vf):Option (List Vf):=cond dr (some acc) none
structure Yu{R:Type}(o:Option R)(P:Program)(N:Nat)(ops:Array Oper)(Q:R→AX→St→Prop)(dr:Bool)(acc:List Vf)(l:List Oper)(s:St):Prop where
 intro ::
 h:∀r,o=some r→XR P N ops (Q r) (dOf dr acc) l s
def QbJ(P:Program)(N:Nat)(ops:Array Oper)(k:Nat)(l:List Oper)(s:St):St:=match runs P N ops k l s [] with|some (s',_)=>s'|none=>s
def runF(P:Program)(N:Nat)(ops:Array Oper)(k:Nat)(l:List Oper)(s:St)(acc:List Vf):List Vf:=match runs P N ops k l s acc with|some (_,a)=>a|none=>[]
def Qds(P:Program)(N:Nat)(ops:Array Oper)(k:Nat)(l:List Oper)(s:St):Bool:=(runs P N ops k l s []).isSome
theorem Og{P:Program}{N:Nat}{ops:Array Oper}:∀(k:Nat) (l:List Oper) (s:St) (acc:List Vf),runs P N ops k l s acc=(runs P N ops k l s []).map fun p=>(p.1,p.2++acc)
|0,l,s,acc=>by simp[runs]
|k+1,[],s,acc=>by simp[runs]
|k+1,o::l,s,acc=>by
  simp only[runs];cases step1 P N ops o s with
 |none=>rfl
 |some p =>
   obtain⟨s',f⟩:=p;simp only;rw[Og k l s' (f::acc),Og k l s' [f]];simp[Option.map_map,Function.comp_def]
theorem R7(dr:Bool)(acc:List Vf)(f:Vf):more (dOf dr acc) f=dOf dr (f::acc):=by cases dr<;>rfl
section
variable {R V:Type}{a a1 a2:Option R}{P:Program}{N:Nat}{ro:Option Nat}{ops:Array Oper}{o:Oper}{l:List Oper}{dr:Bool}{acc:List Vf}{s s':St}{Q:R→AX→St→Prop}{y:Code}{id:Nat}{draw:Bool}
end
end Go.Abs
