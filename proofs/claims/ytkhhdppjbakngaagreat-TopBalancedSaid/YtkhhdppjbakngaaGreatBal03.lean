/-
  A part of the proof of a statement of the seat YtkhhdppjbakngaaGreat.
-/
import Derived.Test.YtkhhdppjbakngaaGreatBal02
set_option linter.unusedVariables false
namespace Go.Abs
open Go
section
variable {P:Program} {o:Oper} {T:Nat→Option AV} {h:Qv}
abbrev w8 (x:Int):Int:=IntKind.u8.wrap x
abbrev Qc {α:Type} (l:List α):Int:=(l.length:Int)
abbrev YY (x:UInt8):Int:=(x.toNat:Int)
def Fu (a b:Int):Int:=if b < a then b else a
theorem QC {α:Type} {t e:TypeId} {x ix:Operand} {S:Nat} {enc:α→List PV} {l:List α} {k:IntKind} {n:Int} {sv:AV} (ho:o.op=.indexAddr t x ix) (hn:Zr T ix=some (.p (.val (.int k n)))) (hx:Zr T x=some sv) (hs:elems sv=some (S,List.map enc l))
  (ht:P.underlying t=some (.slice e)) (hi:(P.info? e).map (·.size)=some S) (v:α) (hv:Zc l n=some v):VA P o T h=some (.eptr (enc v),none,[]):=by
 unfold Zc at hv
 split at hv
 ·cases hv
 ·rename_i hneg
  obtain ⟨i,hi1,hi2⟩:=FQ.1 hi
  have hsv:Ia (some sv)=false:=by
   cases sv with
   | p x=>rfl
   | tsl S es t=>rfl
   | _=>cases hs
  have h0:0≤n:=by omega
  simp [VA,ho,RA,hx,hsv,XY,hn,ht,hs,hi1,hi2,h0,hv]
def YC (x:List PV):List PV:=x
theorem w9 (l:List (List PV)):List.map YC l=l:=List.map_id l
theorem Vh {α:Type} {t e:TypeId} {x ix:Operand} {S:Nat} {enc:α→List PV} {dec:List PV→Option α} {l:List (List PV)} {k:IntKind} {n:Int} {sv:AV} (hd:∀ r v,dec r=some v→enc v=r) (ho:o.op=.indexAddr t x ix) (hn:Zr T ix=some (.p (.val (.int k n)))) (hx:Zr T x=some sv) (hs:elems sv=some (S,List.map YC l))
  (ht:P.underlying t=some (.slice e)) (hi:(P.info? e).map (·.size)=some S) (v:α) (hv:(Zc l n).bind dec=some v):VA P o T h=some (.eptr (enc v),none,[]):=by
 obtain ⟨r,h1,h2⟩:=Option.bind_eq_some_iff.1 hv
 rw [hd r v h2]
 exact QC ho hn hx hs ht hi r h1
theorem WR {t:TypeId} {x ix:Operand} {l:List UInt8} {k:IntKind} {n:Int} (ho:o.op=.index t x ix) (hn:Zr T ix=some (.p (.val (.int k n)))) (hx:Zr T x=some (.p (.val (.string (RG l)))))
  (ht:P.underlying t=some .string) (v:UInt8) (hv:Zc l n=some v):VA P o T h=some (.p (.val (.int .u8 v.toNat)),none,[]):=by
 unfold Zc at hv
 split at hv
 ·cases hv
 ·rename_i hneg
  have h0:0≤n:=by omega
  simp [VA,ho,RA,Nc,TU,hx,hn,ht,h0,TS,hv]
def vk (P:Program):Nat→TypeId→Value→Value→Option Bool
 | 0,_,_,_=>none
 | d+1,t,x,y =>
  match P.underlying t with
  | some .bool=>match x,y with | .bool a, .bool b=>some (a == b) | _,_=>none
  | some (.int _)=>match x,y with | .int k a, .int k' b=>if k=k' then some (Qs a b) else none | _,_=>none
  | some .string=>match x,y with | .string a, .string b=>some (Q8 (JG a) (JG b)) | _,_=>none
  | some (.struct fields)=>match x,y with
   | .agg xs, .agg ys=>if P.stoodInHeld t then none else fields.toList.foldr (fun f r=>if f.name="_" then r else
     match RZ P f.type xs.toList f.offset,RZ P f.type ys.toList f.offset with
     | some a,some b=>match vk P d f.type a b,r with | some p,some q=>some (p&&q) | _,_=>none
     | _,_=>none) (some true)
   | _,_=>none
  | _=>none
theorem BH (P:Program):∀ (d:Nat) (t:TypeId) (x y:Value),vk P d t x y=eqV P d t x y
  | 0,t,x,y=>by simp [vk,eqV]
  | d+1,t,x,y=>by
    have hf:∀ (xs ys:List Value) (fs:List Field),fs.foldr (fun f r=>if f.name="_" then r else
          match RZ P f.type xs f.offset,RZ P f.type ys f.offset with
          | some a,some b=>match vk P d f.type a b,r with | some p,some q=>some (p&&q) | _,_=>none
          | _,_=>none) (some true)=eqV.eqFs P d xs ys fs:=by
      intro xs ys fs
      induction fs with
      | nil=>simp [eqV.eqFs]
      | cons f fs ih =>
        simp only [List.foldr_cons,eqV.eqFs,ih]
        split
        · rfl
        · split
          · rename_i a b h1 h2; simp only [h1,h2,BH P d f.type a b]; cases eqV P d f.type a b <;> cases eqV.eqFs P d xs ys fs <;> rfl
          · rename_i h1
            split
            · rename_i h2 h3; exact absurd h3 (by intro h4; exact h1 _ _ h2 h4)
            · rfl
    unfold vk eqV
    cases hu:P.underlying t with
    | none=>rfl
    | some td =>
      cases td with
      | bool=>cases x <;> cases y <;> rfl
      | int k=>cases x <;> cases y <;> rfl
      | string=>cases x <;> cases y <;> rfl
      | struct fields =>
        cases x <;> cases y <;> try rfl
        rename_i xs ys
        simp only
        split
        · rfl
        · exact hf _ _ _
      | _=>rfl
theorem Eg {tx ty:TypeId} {x y:Operand} {xs ys:List AV} {vx vy:List Value} {b:Bool} (ho:o.op=.binOp .eql tx x y ty) (hx:Zr T x=some (.agg xs)) (hy:Zr T y=some (.agg ys)) (hg:P.eqGuardType P.depth tx=false)
  (hvx:RN xs=some vx) (hvy:RN ys=some vy) (hb:vk P 4 tx (.agg vx.toArray) (.agg vy.toArray)=some b):VA P o T h=some (.p (.val (.bool (Dw b))),none,[]):=by
 rw [BH] at hb
 simp [VA,ho,EC,hx,hy,RA,nZ,zi,hg,hvx,hvy,hb]
theorem ja {tx ty:TypeId} {x y:Operand} {xs ys:List AV} {vx vy:List Value} {b:Bool} (ho:o.op=.binOp .neq tx x y ty) (hx:Zr T x=some (.agg xs)) (hy:Zr T y=some (.agg ys)) (hg:P.eqGuardType P.depth tx=false)
  (hvx:RN xs=some vx) (hvy:RN ys=some vy) (hb:vk P 4 tx (.agg vx.toArray) (.agg vy.toArray)=some b):VA P o T h=some (.p (.val (.bool (!Dw b))),none,[]):=by
 rw [BH] at hb
 simp [VA,ho,EC,hx,hy,RA,nZ,zi,hg,hvx,hvy,hb]
end
def Xw {V:Type} (X:V→Z0 × List (Nat × Blk)) (v:V):Z0→Qv→Prop:=fun r h'=>r=(X v).1∧h'=look (X v).2
def hQ {V:Type} (P:Program) (fn:Func) (hc:List (Nat × Blk)) (X:V→Z0 × List (Nat × Blk)):V→AX→St→Prop:=fun v=>wR P fn hc (Xw X v)
section
variable {R V E:Type} {a a1 a2:Option R} {P:Program} {N:Nat} {ro:Option Nat} {ops:Array Oper} {o:Oper} {l:List Oper} {dr:Bool} {acc:List Yw} {s s':St} {Q:R→AX→St→Prop} {K:R→St→Prop} {f:FuncId} {args args':List AV} {dst:Option Tmp}
theorem Y2 {fn:Func} {c:Code} {X:R→Z0 × List (Nat × Blk)} {n:Nat} (hc:List (Nat × Blk)) (hf:P.funcs[f]?=some fn) (hb:fn.body=some c) (hn:fn.ntmps=n) (hl:Nat.ble args.length n=true) (h:QU a P n none c ⟨WQ 0 args,hc⟩ (hQ P fn hc X)) (r:R) (hr:a=some r) :
  Wz P f args (look hc) (Xw X r):=by
 subst hn
 exact Px hf hb (Nat.le_of_ble_eq_true hl) (h.h r hr)
def DF (hc hc':List (Nat × Blk)) (y:AV):Bool:=Kb (look hc') y&&uK (look hc') hc'&&Ya (look hc') hc
theorem fQ {X:V→Z0 × List (Nat × Blk)} {v:V} {fn:Func} {hc:List (Nat × Blk)} (C:Conv) (bs:List Nat) (cb:List (Nat × List Conv)) (h:(Td P fn (look s.T) (look s.H)).map (cv C)=some (VR (X v).1)) (hX:(X v).1=.ret (VR (X v).1))
  (hH:KO cb s.H bs=(X v).2) (hok:DF hc (X v).2 (VR (X v).1)=true):PQ P fn hc (Xw X v) s:=by
 obtain ⟨x,h1,h2⟩:=FQ.1 h
 simp only [DF,Ki] at hok
 refine ⟨x,VR (X v).1,(X v).2,h1,h2 ▸ zN C x,hok.1.1,?_,hok.2,hX.symm,rfl⟩
 have h3:=hok.1.2
 rw [← hH] at h3 ⊢
 exact VE h3
theorem YQ {X:V→Z0 × List (Nat × Blk)} {v:V} {fn:Func} {hc:List (Nat × Blk)} (C:Conv) (bs:List Nat) (cb:List (Nat × List Conv)) (h:(Td P fn (look s.T) (look s.H)).map (cv C)=some (VR (X v).1)) (hX:(X v).1=.ret (VR (X v).1))
  (hH:KO cb s.H bs=(X v).2) (hok:DF hc (X v).2 (VR (X v).1)=true):Zy (some v) (hQ P fn hc X) .ret s:=⟨fun r hr=>by cases hr; exact fQ C bs cb h hX hH hok⟩
theorem QaE {X:V→Z0 × List (Nat × Blk)} {v:V} {fn:Func} {hc:List (Nat × Blk)} (C:Conv) (bs:List Nat) (cb:List (Nat × List Conv)) (h:(Td P fn (look s.T) (look s.H)).map (cv C)=some (VR (X v).1)) (hX:(X v).1=.ret (VR (X v).1))
  (hH:KO cb s.H bs=(X v).2) (hok:DF hc (X v).2 (VR (X v).1)=true):Zy (some v) (hQ P fn hc X) .normal s:=⟨fun r hr=>by cases hr; exact fQ C bs cb h hX hH hok⟩
theorem Kv {X:V→Z0 × List (Nat × Blk)} {v:V} {fn:Func} {hc:List (Nat × Blk)} {p:AV} (bs:List Nat) (cb:List (Nat × List Conv)) (hX:(X v).1=.panic p)
  (hH:KO cb s.H bs=(X v).2) (hok:DF hc (X v).2 p=true):Zy (some v) (hQ P fn hc X) (.panic p) s:=by
 refine ⟨fun r hr=>?_⟩
 cases hr
 simp only [DF,Ki] at hok
 refine ⟨p,(X v).2,le_refl p,hok.1.1,?_,hok.2,hX.symm,rfl⟩
 have h3:=hok.1.2
 rw [← hH] at h3 ⊢
 exact VE h3
def Vs (L:List (Nat × Nat)) (c:Nat):Nat:=(look L c).getD c
def fT (ρ:Nat→Nat):List Nat→Bool
 | []=>true
 | c :: l=>l.all (fun d=>ρ c != ρ d||c == d)&&fT ρ l
theorem X9 {ρ:Nat→Nat}:∀ {l:List Nat},fT ρ l=true→∀ c ∈ l,∀ d ∈ l,ρ c=ρ d→c=d
 | [],_,c,hc,_,_,_=>by cases hc
 | x :: l,h,c,hc,d,hd,he=>by
  simp only [fT,Ki,List.all_eq_true] at h
  rcases List.mem_cons.1 hc with rfl | hc' <;> rcases List.mem_cons.1 hd with rfl | hd'
  ·rfl
  ·have:=h.1 d hd'; simp [he] at this; exact this
  ·have:=h.1 c hc'; simp [he] at this; exact this.symm
  ·exact X9 h.2 c hc' d hd' he
def Jg (ρ:Nat→Nat) (hc hc' H:List (Nat × Blk)):Bool :=
 (hc.map (·.1)).all (fun c=>(hc'.map (·.1)).contains c)&&(hc'.map (·.1)).all (fun c=>(hc.map (·.1)).contains c||(look H (ρ c)).isNone)&&fT ρ (hc'.map (·.1))
theorem Xx {ρ:Nat→Nat} {hc hc' H:List (Nat × Blk)} (h:Jg ρ hc hc' H=true):H9 ρ hc hc' H:=by
 simp only [Jg,Ki] at h
 refine ⟨fun c hc=>?_,fun c hc=>?_,X9 h.2⟩
 ·have:=List.all_eq_true.1 h.1.1 c hc; simpa using this
 ·have:=List.all_eq_true.1 h.1.2 c hc
  simp only [Bool.or_eq_true,Option.isNone_iff_eq_none] at this
  rcases this with h1 | h1
  ·exact .inl (by simpa using h1)
  ·exact .inr h1
theorem F8 {h:Qv}:∀ {l:List (Nat × Blk)},uK h l=true→∀ c k,look l c=some k→okRefB h k=true
 | [],_,c,k,hk=>by simp [look] at hk
 | (b,x) :: l,h1,c,k,hk=>by
  simp only [uK,Ki] at h1
  simp only [look] at hk
  by_cases e:b=c
  ·simp only [e,if_true,Zd] at hk; subst hk; exact h1.1
  ·simp only [e,if_false] at hk; exact F8 h1.2 c k hk
def F9 (H:List (Nat × Blk)) (ρ:Nat→Nat) (cb:List (Nat × List Conv)) (hc:List (Nat × Blk)):List (Option Blk):=hc.map fun p=>(look H (ρ p.1)).map (cvB ((look cb p.1).getD []))
theorem Ua {H:List (Nat × Blk)} {ρ:Nat→Nat} {cb:List (Nat × List Conv)}:∀ {hc:List (Nat × Blk)},F9 H ρ cb hc=hc.map (fun p=>some (Z9 ρ p.2))→∀ c k,look hc c=some k→∃ k0,look H (ρ c)=some k0∧leB k0 (Z9 ρ k)
 | [],_,c,k,hk=>by simp [look] at hk
 | (b,x) :: l,h1,c,k,hk=>by
  simp only [F9,List.map_cons,List.cons.injEq] at h1
  simp only [look] at hk
  by_cases e:b=c
  ·simp only [e,if_true,Zd] at hk
   subst hk e
   obtain ⟨k0,h2,h3⟩:=FQ.1 h1.1
   exact ⟨k0,h2,h3 ▸ fO _ _⟩
  ·simp only [e,if_false] at hk; exact Ua (hc:=l) h1.2 c k hk
def Jv (N:Nat) (dst:Option Tmp) (ρ:Nat→Nat) (hc:List (Nat × Blk)) (args':List AV):Bool :=
 Ku N dst&&Kj (look hc) args'&&(hc.map (·.1)).all (fun c=>decide (1000≤c))&&uK (look hc) hc&&fT ρ (hc.map (·.1))
def fU (K:St→Prop) (Q:AX→St→Prop) (s:St) (dst:Option Tmp) (ρ:Nat→Nat) (hc':List (Nat × Blk)):Z0→Prop
 | .ret x=>K (St.put ⟨s.T,Kh ρ hc' s.H⟩ dst (Wv ρ x))
 | .panic x=>Q (.panic (Wv ρ x)) ⟨s.T,Kh ρ hc' s.H⟩
theorem Nz {P:Program} {N:Nat} {s:St} {K:St→Prop} {Q:AX→St→Prop} {hc:List (Nat × Blk)} {x:Z0} {hc':List (Nat × Blk)} (L:List (Nat × Nat)) (C:List Conv) (cb:List (Nat × List Conv))
  (hcall:Wz P f args' (look hc) (fun r h'=>r=x∧h'=look hc')) (hargs:Ed C args=VD (Vs L) args') (hok:Jv N dst (Vs L) hc args'=true) (hsub:F9 s.H (Vs L) cb hc=hc.map (fun p=>some (Z9 (Vs L) p.2)))
  (hfr:Jg (Vs L) hc hc' s.H=true) (hk:fU K Q s dst (Vs L) hc' x):LK P N f args dst s K Q:=by
 simp only [Jv,Ki] at hok
 obtain ⟨⟨⟨⟨h1,h2⟩,h3⟩,h4⟩,h5⟩:=hok
 refine D6 (Vs L) hcall (hargs ▸ Xt C args) h2 (fun c hc=>by simpa using List.all_eq_true.1 h3 c hc) (F8 h4) (Ua hsub) (X9 h5) (ZR h1) ?_
 rintro r h' ⟨rfl,rfl⟩
 refine ⟨hc',Kh (Vs L) hc' s.H,rfl,Xx hfr,fun _=>rfl,?_⟩
 cases r with
 | ret x=>exact hk
 | panic x=>exact hk
theorem BI {m:Option V} {k:V→Option R} {X:V→Z0 × List (Nat × Blk)} {hc:List (Nat × Blk)} (L:List (Nat × Nat)) (C:List Conv) (cb:List (Nat × List Conv)) (hcall:∀ v,m=some v→Wz P f args' (look hc) (Xw X v))
  (hargs:Ed C args=VD (Vs L) args') (hok:Jv N dst (Vs L) hc args'=true) (hsub:F9 s.H (Vs L) cb hc=hc.map (fun p=>some (Z9 (Vs L) p.2))) (hfr:∀ v,Jg (Vs L) hc (X v).2 s.H=true) (hX:∀ v,(X v).1=.ret (VR (X v).1))
  (h:∀ v,F7 (k v) K (St.put ⟨s.T,Kh (Vs L) (X v).2 s.H⟩ dst (Wv (Vs L) (VR (X v).1)))):Dr (m.bind k) P N f args dst s K Q:=by
 refine ⟨fun r hr=>?_⟩
 obtain ⟨v,hv,hk⟩:=Option.bind_eq_some_iff.1 hr
 have h1:=hX v
 refine Nz L C cb (hcall v hv) hargs hok hsub (hfr v) ?_
 rw [h1]
 exact (h v).h r hk
theorem zR {m:Option (Except E V)} {k:V→Option R} {ke:E→Option R} {X:Except E V→Z0 × List (Nat × Blk)} {hc:List (Nat × Blk)} (L:List (Nat × Nat)) (C:List Conv) (cb:List (Nat × List Conv)) (hcall:∀ v,m=some v→Wz P f args' (look hc) (Xw X v))
  (hargs:Ed C args=VD (Vs L) args') (hok:Jv N dst (Vs L) hc args'=true) (hsub:F9 s.H (Vs L) cb hc=hc.map (fun p=>some (Z9 (Vs L) p.2))) (hfr:∀ v,Jg (Vs L) hc (X (.ok v)).2 s.H=true) (hfe:∀ v,Jg (Vs L) hc (X (.error v)).2 s.H=true)
  (hX:∀ v,(X (.ok v)).1=.ret (VR (X (.ok v)).1)) (hY:∀ v,(X (.error v)).1=.panic (VR (X (.error v)).1))
  (h:∀ v,F7 (k v) K (St.put ⟨s.T,Kh (Vs L) (X (.ok v)).2 s.H⟩ dst (Wv (Vs L) (VR (X (.ok v)).1)))) (he:∀ e,Zy (ke e) Q (.panic (Wv (Vs L) (VR (X (.error e)).1))) ⟨s.T,Kh (Vs L) (X (.error e)).2 s.H⟩):Dr (m.bind (MZ k ke)) P N f args dst s K Q:=by
 refine ⟨fun r hr=>?_⟩
 obtain ⟨v,hv,hk⟩:=Option.bind_eq_some_iff.1 hr
 cases v with
 | ok v =>
  refine Nz L C cb (hcall _ hv) hargs hok hsub (hfr v) ?_
  rw [hX v]
  exact (h v).h r hk
 | error e =>
  refine Nz L C cb (hcall _ hv) hargs hok hsub (hfe e) ?_
  rw [hY e]
  exact (he e).h r hk
theorem OY {m:Option V} {k:V→Option R} {X:V→Z0 × List (Nat × Blk)} {hc:List (Nat × Blk)} (L:List (Nat × Nat)) (C:List Conv) (cb:List (Nat × List Conv)) (hw:ZF ops o (look s.T)=some true) (hcall:∀ v,m=some v→Wz P f args' (look hc) (Xw X v))
  (hf:(Z4 (look (Zv ops o s.T true)) o.op).map (fun p=>(p.1,Ed C p.2))=some (f,VD (Vs L) args')) (hok:(YZ P f&&Jv N o.dst (Vs L) hc args')=true) (hsub:F9 s.H (Vs L) cb hc=hc.map (fun p=>some (Z9 (Vs L) p.2)))
  (hfr:∀ v,Jg (Vs L) hc (X v).2 s.H=true) (hX:∀ v,(X v).1=.ret (VR (X v).1))
  (h:∀ v,KX (k v) P N ops Q false ((none,[]) :: acc) l (St.put ⟨(mk ops o s true).T,Kh (Vs L) (X v).2 s.H⟩ o.dst (Wv (Vs L) (VR (X v).1)))):KX (m.bind k) P N ops Q false acc (o :: l) s:=by
 obtain ⟨⟨f0,args⟩,hcall0,hp⟩:=FQ.1 hf
 simp only [Prod.mk.injEq] at hp
 obtain ⟨rfl,hp⟩:=hp
 simp only [Ki] at hok
 exact Yj hw hcall0 hok.1 (BI L C cb hcall hp hok.2 hsub hfr hX (fun v=>kr (h v)))
theorem Gg {m:Option (Except E V)} {k:V→Option R} {ke:E→Option R} {X:Except E V→Z0 × List (Nat × Blk)} {hc:List (Nat × Blk)} (L:List (Nat × Nat)) (C:List Conv) (cb:List (Nat × List Conv)) (hw:ZF ops o (look s.T)=some true) (hcall:∀ v,m=some v→Wz P f args' (look hc) (Xw X v))
  (hf:(Z4 (look (Zv ops o s.T true)) o.op).map (fun p=>(p.1,Ed C p.2))=some (f,VD (Vs L) args')) (hok:(YZ P f&&Jv N o.dst (Vs L) hc args')=true) (hsub:F9 s.H (Vs L) cb hc=hc.map (fun p=>some (Z9 (Vs L) p.2)))
  (hfr:∀ v,Jg (Vs L) hc (X (.ok v)).2 s.H=true) (hfe:∀ v,Jg (Vs L) hc (X (.error v)).2 s.H=true) (hX:∀ v,(X (.ok v)).1=.ret (VR (X (.ok v)).1)) (hY:∀ v,(X (.error v)).1=.panic (VR (X (.error v)).1))
  (h:∀ v,KX (k v) P N ops Q false ((none,[]) :: acc) l (St.put ⟨(mk ops o s true).T,Kh (Vs L) (X (.ok v)).2 s.H⟩ o.dst (Wv (Vs L) (VR (X (.ok v)).1))))
  (he:∀ e,Zy (ke e) Q (.panic (Wv (Vs L) (VR (X (.error e)).1))) ⟨(mk ops o s true).T,Kh (Vs L) (X (.error e)).2 s.H⟩):KX (m.bind (MZ k ke)) P N ops Q false acc (o :: l) s:=by
 obtain ⟨⟨f0,args⟩,hcall0,hp⟩:=FQ.1 hf
 simp only [Prod.mk.injEq] at hp
 obtain ⟨rfl,hp⟩:=hp
 simp only [Ki] at hok
 exact Yj hw hcall0 hok.1 (zR L C cb hcall hp hok.2 hsub hfr hfe hX hY (fun v=>kr (h v)) he)
def xL:List AV→Option (List PV)
 | []=>some []
 | .p x :: l=>(xL l).map (x :: ·)
 | _=>none
theorem I1:∀ {l:List AV} {ps:List PV},xL l=some ps→l=ps.map .p
 | [],ps,h=>by simp [xL] at h; subst h; rfl
 | x :: l,ps,h=>by
  cases x with
  | p x =>
   simp only [xL] at h
   obtain ⟨qs,h1,rfl⟩:=FQ.1 h
   simp [I1 h1]
  | _=>simp [xL] at h
def roV (H:Qv) (cs:List Conv):AV→Option AV
 | .ptr b off=>match H b with
  | some (.box _ l)=>match xL (Ed cs l) with
   | some ps=>if XW (ps.map .p) then some (.eptr (ps.drop off)) else none
   | none=>none
  | _=>none
 | _=>none
inductive eX where
 | cv (c:Conv)
 | ro (cs:List Conv)
def roA (H:Qv):eX→AV→Option AV
 | .cv c,x=>some (cv c x)
 | .ro cs,x=>roV H cs x
def OZ (H:Qv):List eX→List AV→Option (List AV)
 | [],[]=>some []
 | c :: cs,x :: xs=>match roA H c x,OZ H cs xs with | some y,some ys=>some (y :: ys) | _,_=>none
 | _,_=>none
theorem fV {H:Qv} {c:eX} {x y:AV} (h:roA H c x=some y):leR H x y:=by
 cases c with
 | cv c=>simp only [roA,Zd] at h; subst h; exact .inl (zN c x)
 | ro cs =>
  simp only [roA,roV] at h
  split at h
  ·rename_i b off
   split at h
   ·rename_i ty l hb
    split at h
    ·rename_i ps hps
     split at h
     ·rename_i h1
      simp only [Zd] at h
      subst h
      exact bJ hb (I1 hps ▸ Xt cs l) h1 rfl
     ·cases h
    ·cases h
   ·cases h
  ·cases h
theorem Df {H:Qv}:∀ {cs:List eX} {xs ys:List AV},OZ H cs xs=some ys→y9 H xs ys
 | [],[],ys,h=>by simp [OZ] at h; subst h; simp [y9]
 | [],_ :: _,ys,h=>by simp [OZ] at h
 | _ :: _,[],ys,h=>by simp [OZ] at h
 | c :: cs,x :: xs,ys,h=>by
  simp only [OZ] at h
  split at h
  ·rename_i y ys' h1 h2
   simp only [Zd] at h
   subst h
   exact ⟨y,ys',rfl,fV h1,Df h2⟩
  ·cases h
theorem Gh {m:Option V} {k:V→Option R} {X:V→AV} (C:List eX) (hw:ZF ops o (look s.T)=some true) (hc:∀ v,m=some v→Q0 P f args' (.ret (X v)))
  (hf:(Z4 (look (Zv ops o s.T true)) o.op).bind (fun p=>(OZ (look s.H) C p.2).map fun a=>(p.1,a))=some (f,args')) (hb:(YZ P f&&Ku N o.dst&&YH args')=true) (hx:∀ v,flat (X v)=true)
  (h:∀ v,KX (k v) P N ops Q false ((none,[]) :: acc) l (St.put (mk ops o s true) o.dst (X v))):KX (m.bind k) P N ops Q false acc (o :: l) s:=by
 refine ⟨fun r hr=>?_⟩
 obtain ⟨v,hv,hk⟩:=Option.bind_eq_some_iff.1 hr
 obtain ⟨⟨f0,args⟩,hcall,hp⟩:=Option.bind_eq_some_iff.1 hf
 obtain ⟨aas,hp1,hp2⟩:=FQ.1 hp
 simp only [Prod.mk.injEq] at hp2
 obtain ⟨rfl,rfl⟩:=hp2
 simp only [Ki] at hb
 show Yi P N ops (Q r) (o :: l) s
 simp only [Yi,hw,ZQ,Xv hcall]
 exact X7 hcall hb.1.1 (OV (hc v hv) (Df hp1) hb.2 (ZR hb.1.2) ⟨hx v,(h v).h r hk⟩)
theorem NA {m:Option (Except E V)} {k:V→Option R} {ke:E→Option R} {X:V→AV} {Y:E→AV} (C:List eX) (hw:ZF ops o (look s.T)=some true) (hc:∀ v,m=some v→Q0 P f args' (vg X Y v))
  (hf:(Z4 (look (Zv ops o s.T true)) o.op).bind (fun p=>(OZ (look s.H) C p.2).map fun a=>(p.1,a))=some (f,args')) (hb:(YZ P f&&Ku N o.dst&&YH args')=true) (hx:∀ v,flat (X v)=true) (hy:∀ v,flat (Y v)=true)
  (h:∀ v,KX (k v) P N ops Q false ((none,[]) :: acc) l (St.put (mk ops o s true) o.dst (X v))) (he:∀ e,Zy (ke e) Q (.panic (Y e)) (mk ops o s true)):KX (m.bind (MZ k ke)) P N ops Q false acc (o :: l) s:=by
 refine ⟨fun r hr=>?_⟩
 obtain ⟨v,hv,hk⟩:=Option.bind_eq_some_iff.1 hr
 obtain ⟨⟨f0,args⟩,hcall,hp⟩:=Option.bind_eq_some_iff.1 hf
 obtain ⟨aas,hp1,hp2⟩:=FQ.1 hp
 simp only [Prod.mk.injEq] at hp2
 obtain ⟨rfl,rfl⟩:=hp2
 simp only [Ki] at hb
 show Yi P N ops (Q r) (o :: l) s
 simp only [Yi,hw,ZQ,Xv hcall]
 refine X7 hcall hb.1.1 (OV (hc v hv) (Df hp1) hb.2 (ZR hb.1.2) ?_)
 cases v with
 | ok v=>exact ⟨hx v,(h v).h r hk⟩
 | error e=>exact ⟨hy e,(he e).h r hk⟩
end
def ZB (n bytes:Nat):Bool:=decide (n * bytes≤140737488355328∧n≤140737488355328)
section
variable {P:Program} {o:Oper} {T:Nat→Option AV} {h:Qv}
theorem ZM {α:Type} {t e:TypeId} {s x:Operand} {S by_ tk:Nat} {enc:α→List PV} {l l2:List α} {xv:AV} (ho:o.op=.call ⟨.builtin .append,#[s,x],#[t,t]⟩) (ht:P.underlying t=some (.slice e))
  (hi:(P.info? e).bind (fun i=>i.zero.map fun z=>(i.size,i.bytes,z.cells.size))=some (S,by_,S)) (hS:Nat.ble 1 S=true) (hs:Zr T s=some (.tsl S (List.map enc l) tk)) (hx:Zr T x=some xv) (he:RS S xv=some (List.map enc l2)) (hn:l2.isEmpty=false)
  (hb:h tk=some (.arr e S (List.map enc l).length)) (hc:ZB (l++l2).length by_=true):VA P o T h=some (.tsl S (List.map enc (l++l2)) tk,some (tk, .arr e S (List.map enc (l++l2)).length),[tk]):=by
 obtain ⟨i,hi1,hi2⟩:=Option.bind_eq_some_iff.1 hi
 obtain ⟨z,hz1,hz2⟩:=FQ.1 hi2
 simp only [Prod.mk.injEq] at hz2
 obtain ⟨rfl,rfl,hz⟩:=hz2
 have hn':¬ l2=[]:=by intro e; subst e; cases hn
 have hS':0 < i.size:=Nat.le_of_ble_eq_true hS
 simp only [ZB,decide_eq_true_eq,uJ] at hc
 simp [VA,ho,Ia,hs,hx,GL,ht,hi1,hz1,he,hz,hS',isNil,hb,hn',hc]
theorem WS {α:Type} {t e:TypeId} {s x:Operand} {S by_ tk:Nat} {enc:α→List PV} {l l2:List α} {xv:AV} (ho:o.op=.call ⟨.builtin .append,#[s,x],#[t,t]⟩) (ht:P.underlying t=some (.slice e))
  (hi:(P.info? e).bind (fun i=>i.zero.map fun z=>(i.size,i.bytes,z.cells.size))=some (S,by_,S)) (hS:Nat.ble 1 S=true) (hs:Zr T s=some (.tsl S (List.map enc l) tk)) (hx:Zr T x=some xv) (he:RS S xv=some (List.map enc l2))
  (hb:h tk=some (.arr e S (List.map enc l).length)) (hc:ZB (l++l2).length by_=true):VA P o T h=some (.tsl S (List.map enc (l++l2)) tk,some (tk, .arr e S (List.map enc (l++l2)).length),[tk]):=by
 obtain ⟨i,hi1,hi2⟩:=Option.bind_eq_some_iff.1 hi
 obtain ⟨z,hz1,hz2⟩:=FQ.1 hi2
 simp only [Prod.mk.injEq] at hz2
 obtain ⟨rfl,rfl,hz⟩:=hz2
 have hS':0 < i.size:=Nat.le_of_ble_eq_true hS
 simp only [ZB,decide_eq_true_eq,uJ] at hc
 by_cases hn':l2=[]
 ·subst hn'
  simp [VA,ho,Ia,hs,hx,GL,ht,hi1,hz1,he,hz,hS',isNil,hb]
 simp [VA,ho,Ia,hs,hx,GL,ht,hi1,hz1,he,hz,hS',isNil,hb,hn',hc]
end
inductive OL (α:Type) where
 | nil
 | own (l:List α)
def OL.toL {α:Type}:OL α→List α
 | .nil=>[]
 | .own l=>l
@[simp] theorem OL.toL_nil {α:Type}:(OL.nil:OL α).toL=[]:=rfl
@[simp] theorem OL.toL_own {α:Type} (l:List α):(OL.own l).toL=l:=rfl
section
variable {R V E:Type} {a a1 a2:Option R} {P:Program} {N:Nat} {ro:Option Nat} {ops:Array Oper} {o:Oper} {l:List Oper} {dr:Bool} {acc:List Yw} {s s' s1:St} {Q:R→AX→St→Prop} {K:R→St→Prop} {f:FuncId} {args args':List AV} {dst:Option Tmp}
theorem BJ {m:Option V} {k:V→Option R} {u:V→Kn} (hw:ZF ops o (look s.T)=some true) (hp:(plain o.op&&Ku N o.dst)=true) (hu:∀ v,m=some v→VA P o (look (Zv ops o s.T true)) (look s.H)=some (u v))
  (h:∀ v,m=some v→KX (k v) P N ops Q dr (Sq (u v) :: acc) l (eP ops o s (u v))):KX (m.bind k) P N ops Q dr acc (o :: l) s:=by
 simp only [Ki] at hp
 refine ⟨fun r hr=>?_⟩
 obtain ⟨v,hv,hk⟩:=Option.bind_eq_some_iff.1 hr
 exact Dc hw hp.1 (hu v hv) hp.2 (F6 dr acc _ ▸ (h v hv).h r hk)
theorem YX {α:Type} {l:List α} {i:Int} {v:α} (h:Zc l i=some v):l[i.toNat]?=some v:=by
 unfold Zc at h
 split at h
 ·cases h
 ·exact h
def zT (P:Program) (fn:Func) (hc:List (Nat × Blk)) (ρ:Nat→Nat) (s:St) (dst:Option Tmp) (K:R→St→Prop) (Q:R→AX→St→Prop):R→AX→St→Prop :=
 fun r=>wR P fn hc (fun x h'=>∃ hc',h'=look hc'∧H9 ρ hc hc' s.H∧fU (K r) (Q r) s dst ρ hc' x)
theorem Zn {fn:Func} {c:Code} {n:Nat} {hc:List (Nat × Blk)} (L:List (Nat × Nat)) (C:List Conv) (cb:List (Nat × List Conv)) (hf:P.funcs[f]?=some fn) (hb:fn.body=some c) (hn:fn.ntmps=n) (hl:Nat.ble args'.length n=true)
  (hargs:Ed C args=VD (Vs L) args') (hok:Jv N dst (Vs L) hc args'=true) (hsub:F9 s.H (Vs L) cb hc=hc.map (fun p=>some (Z9 (Vs L) p.2)))
  (h:QU a P n none c ⟨WQ 0 args',hc⟩ (zT P fn hc (Vs L) s dst K Q)):Dr a P N f args dst s K Q:=by
 subst hn
 refine ⟨fun r hr=>?_⟩
 simp only [Jv,Ki] at hok
 obtain ⟨⟨⟨⟨h1,h2⟩,h3⟩,h4⟩,h5⟩:=hok
 refine D6 (Vs L) (Px hf hb (Nat.le_of_ble_eq_true hl) (h.h r hr)) (hargs ▸ Xt C args) h2 (fun c hc=>by simpa using List.all_eq_true.1 h3 c hc) (F8 h4) (Ua hsub) (X9 h5) (ZR h1) ?_
 rintro x h' ⟨hc',rfl,hd,hk⟩
 refine ⟨hc',Kh (Vs L) hc' s.H,rfl,hd,fun _=>rfl,?_⟩
 cases x with
 | ret x=>exact hk
 | panic x=>exact hk
def DI (ρ:Nat→Nat) (hc hc':List (Nat × Blk)) (s:St) (y:AV):Bool:=DF hc hc' y&&Jg ρ hc hc' s.H
theorem fZ {fn:Func} {hc:List (Nat × Blk)} {ρ:Nat→Nat} {x:AX} (hx:x=.ret∨x=.normal) (C:Conv) (bs:List Nat) (cb:List (Nat × List Conv)) (y:AV) (h:(Td P fn (look s1.T) (look s1.H)).map (cv C)=some y)
  (hok:DI ρ hc (KO cb s1.H bs) s y=true) (hk:F7 a K (St.put ⟨s.T,Kh ρ (KO cb s1.H bs) s.H⟩ dst (Wv ρ y))):Zy a (zT P fn hc ρ s dst K Q) x s1:=by
 obtain ⟨z,h1,h2⟩:=FQ.1 h
 simp only [DI,DF,Ki] at hok
 refine ⟨fun r hr=>?_⟩
 have:PQ P fn hc (fun x h'=>∃ hc',h'=look hc'∧H9 ρ hc hc' s.H∧fU (K r) (Q r) s dst ρ hc' x) s1 :=
  ⟨z,y,KO cb s1.H bs,h1,h2 ▸ zN C z,hok.1.1.1,VE hok.1.1.2,hok.1.2,_,rfl,Xx hok.2,hk.h r hr⟩
 rcases hx with rfl | rfl <;> exact this
theorem QN {fn:Func} {hc:List (Nat × Blk)} {ρ:Nat→Nat} (C:Conv) (bs:List Nat) (cb:List (Nat × List Conv)) (y:AV) (h:(Td P fn (look s1.T) (look s1.H)).map (cv C)=some y)
  (hok:DI ρ hc (KO cb s1.H bs) s y=true) (hk:F7 a K (St.put ⟨s.T,Kh ρ (KO cb s1.H bs) s.H⟩ dst (Wv ρ y))):Zy a (zT P fn hc ρ s dst K Q) .ret s1:=fZ (.inl rfl) C bs cb y h hok hk
theorem Ww {fn:Func} {hc:List (Nat × Blk)} {ρ:Nat→Nat} (C:Conv) (bs:List Nat) (cb:List (Nat × List Conv)) (y:AV) (h:(Td P fn (look s1.T) (look s1.H)).map (cv C)=some y)
  (hok:DI ρ hc (KO cb s1.H bs) s y=true) (hk:F7 a K (St.put ⟨s.T,Kh ρ (KO cb s1.H bs) s.H⟩ dst (Wv ρ y))):Zy a (zT P fn hc ρ s dst K Q) .normal s1:=fZ (.inr rfl) C bs cb y h hok hk
theorem ZO {fn:Func} {hc:List (Nat × Blk)} {ρ:Nat→Nat} {p:AV} (bs:List Nat) (cb:List (Nat × List Conv)) (hok:DI ρ hc (KO cb s1.H bs) s p=true) (hk:Zy a Q (.panic (Wv ρ p)) ⟨s.T,Kh ρ (KO cb s1.H bs) s.H⟩):Zy a (zT P fn hc ρ s dst K Q) (.panic p) s1:=by
 simp only [DI,DF,Ki] at hok
 exact ⟨fun r hr=>⟨p,KO cb s1.H bs,le_refl p,hok.1.1.1,VE hok.1.1.2,hok.1.2,_,rfl,Xx hok.2,hk.h r hr⟩⟩
theorem Yr {fn:Func} {c:Code} {n:Nat} (hc:List (Nat × Blk)) (args':List AV) (L:List (Nat × Nat)) (C:List Conv) (cb:List (Nat × List Conv)) (hw:ZF ops o (look s.T)=some true) (hf:P.funcs[f]?=some fn) (hb:fn.body=some c) (hn:fn.ntmps=n) (hl:Nat.ble args'.length n=true)
  (hcall:(Z4 (look (Zv ops o s.T true)) o.op).map (fun p=>(p.1,Ed C p.2))=some (f,VD (Vs L) args')) (hok:(YZ P f&&Jv N o.dst (Vs L) hc args')=true) (hsub:F9 s.H (Vs L) cb hc=hc.map (fun p=>some (Z9 (Vs L) p.2)))
  (h:QU a P n none c ⟨WQ 0 args',hc⟩ (zT P fn hc (Vs L) (mk ops o s true) o.dst (iW P N ops Q l) Q)):KX a P N ops Q false acc (o :: l) s:=by
 obtain ⟨⟨f0,args⟩,hcall0,hp⟩:=FQ.1 hcall
 simp only [Prod.mk.injEq] at hp
 obtain ⟨rfl,hp⟩:=hp
 simp only [Ki] at hok
 exact Yj hw hcall0 hok.1 (Zn L C cb hf hb hn hl hp hok.2 hsub h)
theorem vo {fn:Func} {c:Code} {n:Nat} (hc:List (Nat × Blk)) (args':List AV) (L:List (Nat × Nat)) (C:List Conv) (cb:List (Nat × List Conv)) (hw:ZF ops o (look s.T)=some true) (hf:P.funcs[f]?=some fn) (hb:fn.body=some c) (hn:fn.ntmps=n) (hl:Nat.ble args'.length n=true)
  (hcall:(Z4 (look (Zv ops o s.T true)) o.op).map (fun p=>(p.1,Ed C p.2))=some (f,VD (Vs L) args')) (hok:(YZ P f&&Jv N o.dst (Vs L) hc args'&&JX ops acc.length&&Kg ops acc.reverse)=true) (hsub:F9 s.H (Vs L) cb hc=hc.map (fun p=>some (Z9 (Vs L) p.2)))
  (h:QU a P n none c ⟨WQ 0 args',hc⟩ (zT P fn hc (Vs L) (mk ops o s true) o.dst (fKq Q) Q)):KX a P N ops Q true acc [o] s:=by
 obtain ⟨⟨f0,args⟩,hcall0,hp⟩:=FQ.1 hcall
 simp only [Prod.mk.injEq] at hp
 obtain ⟨rfl,hp⟩:=hp
 simp only [Ki] at hok
 exact xK hw hcall0 (by simp [hok]) (Zn L C cb hf hb hn hl hp hok.1.1.2 hsub h)
end
section
variable {P:Program} {o:Oper} {T:Nat→Option AV} {h:Qv}
theorem mh {t:TypeId} {e:TypeId} {x:Operand} {S tk n:Nat} {ty:TypeId} {es:List (List PV)} (ho:o.op=.call ⟨.builtin .len,#[x],#[t]⟩) (hx:Zr T x=some (.vsl S tk n)) (hb:h tk=some (.vec ty S es)) (ht:P.underlying t=some (.slice e)) (hn:n=es.length) :
  VA P o T h=some (.p (.val (.int .i64 es.length)),none,[tk]):=by
 subst hn
 simp [VA,ho,Ia,hx,zb,ht,hb]
theorem Tp {α:Type} {t e:TypeId} {x ix:Operand} {S tk nn:Nat} {ty:TypeId} {enc:α→List PV} {l:List α} {k:IntKind} {n:Int} (ho:o.op=.indexAddr t x ix) (hn:Zr T ix=some (.p (.val (.int k n)))) (hx:Zr T x=some (.vsl S tk nn)) (hb:h tk=some (.vec ty S (List.map enc l)))
  (ht:P.underlying t=some (.slice e)) (hi:(P.info? e).map (·.size)=some S) (hnn:nn=(List.map enc l).length) (v:α) (hv:Zc l n=some v):VA P o T h=some (.vptr tk (List.map enc l).length n.toNat 0,none,[tk]):=by
 subst hnn
 unfold Zc at hv
 split at hv
 ·cases hv
 ·rename_i hneg
  obtain ⟨i,hi1,hi2⟩:=FQ.1 hi
  have h0:0≤n:=by omega
  have h1:n.toNat < l.length:=(List.getElem?_eq_some_iff.1 hv).1
  simp [VA,ho,Ia,hx,VV,hn,ht,hb,hi1,hi2,h0,h1]
theorem mi {s:TypeId} {x:Operand} {f off:Nat} {tk k g:Nat} {ty:TypeId} {S:Nat} {es:List (List PV)} (ho:o.op=.fieldAddr s x f) (hx:Zr T x=some (.vptr tk es.length k g)) (hb:h tk=some (.vec ty S es))
  (hs:(P.underlying s).bind (fun d=>match d with | .struct fields=>fields[f]?.map (fun fl=>(fl.offset,((P.info? fl.type).map fun i=>i.size == 0))) | _=>none)=some (off,some false)):VA P o T h=some (.vptr tk es.length k (g+off),none,[tk]):=by
 obtain ⟨d,h1,h2⟩:=Option.bind_eq_some_iff.1 hs
 split at h2
 ·rename_i fields
  obtain ⟨fl,h3,h4⟩:=FQ.1 h2
  simp only [Prod.mk.injEq] at h4
  obtain ⟨rfl,h4⟩:=h4
  obtain ⟨i,h5,h6⟩:=FQ.1 h4
  have h6':¬ i.size=0:=by simpa using h6
  simp [VA,ho,Ia,hx,WO,h1,h3,hb,h5,h6']
 ·cases h2
theorem LQ {x:Operand} {tk k f S:Nat} {ty:TypeId} {es:List (List PV)} (ho:o.op=.nilCheck x) (hx:Zr T x=some (.vptr tk es.length k f)) (hb:h tk=some (.vec ty S es)):VA P o T h=some (.vptr tk es.length k f,none,[tk]):=by
 simp [VA,ho,Ia,hx,yP,hb]
theorem G6 {α:Type} {ty:TypeId} {x:Operand} {tk n f S:Nat} {tb:TypeId} {enc:α→List PV} {l:List α} {v:α} {c:AV} (ho:o.op=.load ty x) (hx:Zr T x=some (.vptr tk (List.map enc l).length n f)) (hb:h tk=some (.vec tb S (List.map enc l))) (hv:l[n]?=some v)
  (hc:(match P.underlying ty,P.info? ty with
   | some d,some i=>if UM d then (if f+i.size≤(enc v).length then some (.agg ((((enc v).drop f).take i.size).map .p)) else none) else (match (enc v)[f]? with | some c=>some (.p c) | none=>none)
   | _,_=>none)=some c):VA P o T h=some (c,none,[tk]):=by
 split at hc
 ·rename_i d i hd hi
  have hv':(List.map enc l)[n]?=some (enc v):=by simp [hv]
  simp only [VA,ho,Ia,hx,Pe,hd,hi,hb,hv',if_true]
  split at hc
  ·rename_i h1
   rw [if_pos h1]
   split at hc
   ·rename_i h2; rw [if_pos h2]; simp only [Zd] at hc; rw [hc]
   ·cases hc
  ·rename_i h1
   rw [if_neg h1]
   split at hc
   ·rename_i c' h2; rw [h2]; simp only [Zd] at hc; subst hc; rfl
   ·cases hc
 ·cases hc
theorem Um {α:Type} {ty:TypeId} {x y:Operand} {tk n f S:Nat} {tb:TypeId} {enc:α→List PV} {l:List α} {v v':α} {xv:AV} (ho:o.op=.store ty x y) (hx:Zr T x=some (.vptr tk (List.map enc l).length n f)) (hy:Zr T y=some xv) (hb:h tk=some (.vec tb S (List.map enc l))) (hv:l[n]?=some v)
  (hc:(match P.info? ty,cellsOf xv with
   | some i,some vs=>match GQ vs with | some ps=>if vs.length=i.size∧f+ps.length≤(enc v).length then some ((enc v).take f++ps++(enc v).drop (f+ps.length)) else none | none=>none
   | _,_=>none)=some (enc v')):VA P o T h=some (.p (.val undef),some (tk, .vec tb S (List.map enc (l.set n v'))),[tk]):=by
 split at hc
 ·rename_i i vs hi hvs
  split at hc
  ·rename_i ps hps
   split at hc
   ·rename_i h1
    simp only [Zd] at hc
    have hv':(List.map enc l)[n]?=some (enc v):=by simp [hv]
    simp only [VA,ho,Ia,hx,RX,hi,hy,hb,hvs,hps,hv',if_true,h1,and_self,hc,List.map_set]
   ·cases hc
  ·cases hc
 ·cases hc
theorem zU {α:Type} {t e:TypeId} {s x:Operand} {S by_ tk n:Nat} {enc:α→List PV} {l l2:List α} {xv:AV} (ho:o.op=.call ⟨.builtin .append,#[s,x],#[t,t]⟩) (ht:P.underlying t=some (.slice e))
  (hi:(P.info? e).bind (fun i=>i.zero.map fun z=>(i.size,i.bytes,z.cells.size,GR z.cells.toList))=some (S,by_,S,true)) (hS:Nat.ble 1 S=true) (hs:Zr T s=some (.vsl S tk n)) (hx:Zr T x=some xv) (he:RS S xv=some (List.map enc l2))
  (hb:h tk=some (.vec e S (List.map enc l))) (hn:n=(List.map enc l).length) (hc:ZB (l++l2).length by_=true):VA P o T h=some (.vsl S tk (List.map enc (l++l2)).length,some (tk, .vec e S (List.map enc (l++l2))),[tk]):=by
 subst hn
 obtain ⟨i,hi1,hi2⟩:=Option.bind_eq_some_iff.1 hi
 obtain ⟨z,hz1,hz2⟩:=FQ.1 hi2
 simp only [Prod.mk.injEq] at hz2
 obtain ⟨rfl,rfl,hz,hz3⟩:=hz2
 have hS':0 < i.size:=Nat.le_of_ble_eq_true hS
 simp only [ZB,decide_eq_true_eq,uJ] at hc
 by_cases h2:l2=[]
 ·subst h2
  simp only [List.length_nil,Nat.add_zero] at hc
  simp [VA,ho,Ia,hs,hx,U4,ht,hi1,hz1,he,hz,hS',hz3,hb,hc]
 ·simp [VA,ho,Ia,hs,hx,U4,ht,hi1,hz1,he,hz,hS',hz3,hb,h2,hc]
def sliceB (lo hi:Int) (len:Nat):Bool:=decide (0≤lo∧lo≤hi∧hi≤len)
def BK (T:Nat→Option AV) (d:Int):Option Operand→Option Int
 | none=>some d
 | some x=>match Zr T x with | some (.p (.val (.int _ n)))=>some n | _=>none
theorem Sv {T:Nat→Option AV} {d:Nat} {x:Option Operand} {n:Int} (h:BK T d x=some n) (h0:0≤n):Xg T d x=some n.toNat:=by
 cases x with
 | none=>simp only [BK,Zd] at h; subst h; simp [Xg]
 | some x =>
  simp only [BK] at h
  split at h
  ·rename_i k m hm
   simp only [Zd] at h
   subst h
   simp [Xg,hm,h0]
  ·cases h
theorem I4 {α:Type} {t e:TypeId} {x:Operand} {lo hi:Option Operand} {S:Nat} {enc:α→List PV} {l:List α} {sv:AV} {a b:Int} (ho:o.op=.slice t x lo hi none) (ht:P.underlying t=some (.slice e)) (hi1:(P.info? e).map (·.size)=some S) (hx:Zr T x=some sv) (hs:elems sv=some (S,List.map enc l))
  (hlo:BK T 0 lo=some a) (hhi:BK T (List.map enc l).length hi=some b) (hc:sliceB a b l.length=true):VA P o T h=some (.p (.sl S (List.map enc ((l.take b.toNat).drop a.toNat))),none,[]):=by
 obtain ⟨i,hi2,hi3⟩:=FQ.1 hi1
 simp only [sliceB,decide_eq_true_eq] at hc
 have h1:=Sv (d:=0) hlo hc.1
 have h2:=Sv hhi zo
 have h3:a.toNat≤b.toNat:=by omega
 have h4:b.toNat≤l.length:=by omega
 have h5:S=i.size∧a.toNat≤b.toNat∧b.toNat≤(List.map enc l).length:=⟨hi3.symm,h3,by simpa using h4⟩
 have h6:LC P T t x lo hi none=some (.p (.sl S (((List.map enc l).take b.toNat).drop a.toNat)),none,[]):=by
  simp only [LC,ht,hx,hs,hi2,h1,h2]
  rw [if_pos h5]
 simp only [VA,ho,h6,RA,List.map_drop,List.map_take]
def Sz (l c:Int) (by_:Nat):Bool:=decide (0≤l∧l≤c∧(by_:Int) * c≤281474976710656∧c≤140737488355328)
theorem SA {α:Type} {t e:TypeId} {x y:Operand} {S by_ d:Nat} {enc:α→List PV} {z0:α} {k k':IntKind} {l c:Int} (ho:o.op=.makeSlice t x y) (hd:o.dst=some d) (ht:P.underlying t=some (.slice e))
  (hi:(P.info? e).bind (fun i=>i.zero.bind fun z=>(GQ (z.cells.toList.map Es)).map fun ps=>(i.size,i.bytes,z.cells.size,GR z.cells.toList,ps))=some (S,by_,S,true,enc z0)) (hS:Nat.ble 1 S=true) (hl:(enc z0).length=S) (hx:Zr T x=some (.p (.val (.int k l)))) (hy:Zr T y=some (.p (.val (.int k' c)))) (hb:h d=none)
  (hc:Sz l c by_=true):VA P o T h=some (.vsl S d (List.map enc (List.replicate l.toNat z0)).length,some (d, .vec e S (List.map enc (List.replicate l.toNat z0))),[d]):=by
 obtain ⟨i,hi1,hi2⟩:=Option.bind_eq_some_iff.1 hi
 obtain ⟨z,hz1,hz2⟩:=Option.bind_eq_some_iff.1 hi2
 obtain ⟨ps,hp1,hp2⟩:=FQ.1 hz2
 simp only [Prod.mk.injEq] at hp2
 obtain ⟨rfl,rfl,h3,h4,rfl⟩:=hp2
 have hS':0 < i.size:=Nat.le_of_ble_eq_true hS
 simp only [Sz,decide_eq_true_eq] at hc
 simp [VA,ho,Pg,ht,hx,hy,hd,hi1,hz1,hb,hp1,h3,h4,hS',hl,hc]
end
def vv {E V:Type} (x:V→Z0 × List (Nat × Blk)) (y:E→Z0 × List (Nat × Blk)):Except E V→Z0 × List (Nat × Blk)
 | .ok v=>x v
 | .error e=>y e
section
variable {R V:Type} {N:Nat} {s s1:St} {Q:R→AX→St→Prop}
theorem bP {k:V→Option R} {S:V→St} (v:V) (K:Gf) (s1:St) (hw:F4 K s=some s1) (he:s1=S v):Zy (k v) (kQ N k S Q) .normal s:=QaC v K (he ▸ hw)
theorem Qcz {S:V→St} (v:V) (K0:Gf) (s0:St) (h0:F4 K0 s=some s0) (hw:Weak N s0 s1) (K:Gf) (h1:F4 K s1=some (S v)):Zy (some v) (xH N S) .normal s:=Qcw v ((Xu h0).trans (hw.trans (Xu h1)))
theorem vw {S:V→St} (v:V) (K:Gf) (s1:St) (hw:F4 K s=some s1) (he:s1=S v):Zy (some v) (xH N S) .normal s:=bN v K (he ▸ hw)
end
theorem bQ {P:Program} {N:Nat} {ro:Option Nat} {c:Code} {s:St} {Q:AX→St→Prop}
  (h:Ex P N ro c s (fun x s'=>∃ s'',E9 (look s'.T) (look s''.H) s''.T∧Dq (look s'.H) (look s''.H) s''.H∧Ya (look s''.H) s.H=true∧(∀ v,x=.panic v→Kb (look s''.H) v=true)∧Q x s'')):Ex P N ro c s Q:=by
 intro φ M0 D a w r
 refine wpIn_mono (h φ M0 D a w r) ?_
 rintro e a' w' ⟨φ',x,s',⟨s'',h1,h2,h3,hp,h4⟩,r',E',hx⟩
 obtain ⟨k1,k2,k3⟩:=BD (hc:=s.H) r' E' h2 h3
 refine ⟨φ',x,s'',h4,⟨?_,r'.siz,k1,fun t y ht=>?_⟩,k2,?_⟩
 ·obtain ⟨h0,ms,g1,g2,g3⟩:=r'.dfs
  refine ⟨h0,ms,g1,g2,fun z hz=>⟨(g3 z hz).1,(g3 z hz).2.1,fun b hb=>(g3 z hz).2.2 b ?_⟩⟩
  cases hq:look s''.H b with
  | none=>exact absurd hq hb
  | some k'=>obtain ⟨⟨k,e1,_⟩,_⟩:=Jf h2 b k' hq; rw [e1]; simp
 ·obtain ⟨z,g1,g2,g3⟩:=Da h1 t y ht
  exact ⟨(r'.tm t z g1).1,k3 _ _ g3 (Jt.1 _ _ _ g2 (r'.tm t z g1).2)⟩
 ·cases x with
  | normal=>exact hx
  | exit i=>exact hx
  | ret=>exact hx
  | panic v=>obtain ⟨u,h5,h6⟩:=hx; exact ⟨u,h5,k3 _ _ (hp v rfl) h6⟩
section
variable {R V E:Type} {a a1 a2:Option R} {P:Program} {N:Nat} {ro:Option Nat} {ops:Array Oper} {o:Oper} {l:List Oper} {dr:Bool} {acc:List Yw} {s s' s1:St} {Q:R→AX→St→Prop} {K:R→St→Prop} {f:FuncId} {args args':List AV} {dst:Option Tmp}
def rgQ (N:Nat) (s:St) (Q:R→AX→St→Prop):R→AX→St→Prop:=fun r x s'=>∃ s'',E9 (look s'.T) (look s''.H) s''.T∧Dq (look s'.H) (look s''.H) s''.H∧Ya (look s''.H) s.H=true∧(∀ v,x=.panic v→Kb (look s''.H) v=true)∧Q r x s''
def fKg (D2:Nat) (T:List (Nat × AV)) (nf:JK) (N:Nat) (s:St) (Q:R→AX→St→Prop):R→St→Prop:=fun r=>fH D2 T nf (rgQ N s Q r)
theorem NB {fo:Operand} {ps:Array Tmp} {assign body:Code} (g:FuncId) (D2:Nat) (l':List AV) (m':List AV) (hf:Zr (look s.T) fo=some (.fn (.func g) l' m')) (hok:(YZ P g&&Nat.ble 1000 D2&&(look s.H D2).isNone)=true)
  (h:∀ nf fn,nf=JK.mk N fn ps assign body→Dr a P N g (l'++[.yv D2]++m') none ⟨s.T,(D2, .lp s.T nf .ready none) :: s.H⟩ (fKg D2 s.T nf N s Q) (rgQ N s Q)):QU a P N none (.rangeFunc fo ps assign body) s Q:=by
 simp only [Ki,Option.isNone_iff_eq_none] at hok
 refine ⟨fun r hr=>bQ (OU D2 (Nat.le_of_ble_eq_true hok.1.2) hf hok.1.1 hok.2 fun fn=>?_)⟩
 exact (h _ fn rfl).h r hr
theorem jb {x:AX} {st:LoopState} {pd:Option Code} {D2:Nat} {T:List (Nat × AV)} {nf:JK} (Kp:Gf) (s'':St) (hx:∀ v,x ≠ .panic v) (hs:(if eO (look (shr Kp ⟨s1.T,(D2, .lp T nf .exhausted pd) :: s1.H⟩).H) (shr Kp ⟨s1.T,(D2, .lp T nf .exhausted pd) :: s1.H⟩).T&&uK (look (shr Kp ⟨s1.T,(D2, .lp T nf .exhausted pd) :: s1.H⟩).H) (shr Kp ⟨s1.T,(D2, .lp T nf .exhausted pd) :: s1.H⟩).H&&Ya (look (shr Kp ⟨s1.T,(D2, .lp T nf .exhausted pd) :: s1.H⟩).H) s.H then some (shr Kp ⟨s1.T,(D2, .lp T nf .exhausted pd) :: s1.H⟩) else none)=some s'')
  (h:Zy a Q x s'') (r:R) (hr:a=some r):rgQ N s Q r x ⟨s1.T,(D2, .lp T nf .exhausted pd) :: s1.H⟩:=by
 split at hs
 ·rename_i hok
  simp only [Zd] at hs
  subst hs
  simp only [Ki] at hok
  exact ⟨_,F5 hok.1.1,VE hok.1.2,hok.2,fun v hv=>absurd hv (hx v),h.h r hr⟩
 ·cases hs
def rgS (Kp:Gf) (s s1:St):Option St:=if eO (look (shr Kp s1).H) (shr Kp s1).T&&uK (look (shr Kp s1).H) (shr Kp s1).H&&Ya (look (shr Kp s1).H) s.H then some (shr Kp s1) else none
theorem eY {D2:Nat} {T:List (Nat × AV)} {nf:JK} (st:LoopState) (Kp:Gf) (s'':St) (hl:look s1.H D2=some (.lp T nf st none)) (hst:st ≠ .busy) (hs:rgS Kp s ⟨s1.T,(D2, .lp T nf .exhausted none) :: s1.H⟩=some s'') (h:Zy a Q .normal s''):F7 a (fKg D2 T nf N s Q) s1 :=
 ⟨fun r hr=>⟨st,none,hl,hst,jb (st:=st) Kp s'' (fun v e=>by cases e) hs h r hr⟩⟩
theorem bR {D2:Nat} {T:List (Nat × AV)} {nf:JK} (st:LoopState) (Kp:Gf) (s'':St) (hl:look s1.H D2=some (.lp T nf st (some .ret))) (hst:st ≠ .busy) (hs:rgS Kp s ⟨s1.T,(D2, .lp T nf .exhausted (some .ret)) :: s1.H⟩=some s'') (h:Zy a Q .ret s''):F7 a (fKg D2 T nf N s Q) s1 :=
 ⟨fun r hr=>⟨st,some .ret,hl,hst,jb (st:=st) Kp s'' (fun v e=>by cases e) hs h r hr⟩⟩
def rdR (ρ:Nat→Nat) (hc:List (Nat × Blk)) (s:St) (dst:Option Tmp) (K:St→Prop) (Q:AX→St→Prop):Z0→Qv→Prop:=fun x h'=>∃ hc',h'=look hc'∧H9 ρ hc hc' s.H∧fU K Q s dst ρ hc' x
def rnQ (ρ:Nat→Nat) (hc:List (Nat × Blk)) (b:Nat) (T:List (Nat × AV)) (nf:JK) (s:St) (dst:Option Tmp) (K:R→St→Prop) (Q:R→AX→St→Prop):R→AX→St→Prop:=fun r=>fG hc b T nf (rdR ρ hc s dst (K r) (Q r))
def asQ (P:Program) (N l:Nat) (body:Code) (b:Nat) (T:List (Nat × AV)) (nf:JK) (Q:R→AX→St→Prop):R→AX→St→Prop:=fun r x s1=>x=.normal∧∃ pd1,look s1.H b=some (.lp T nf .ready pd1)∧Ex P N (some l) body ⟨s1.T,(b, .lp T nf .busy pd1) :: s1.H⟩ (Q r)
theorem mo {l b:Nat} {body:Code} {T:List (Nat × AV)} {nf:JK} (Kp:Gf) (s2:St) (pd:Option Code) (hl:look s1.H b=some (.lp T nf .ready pd)) (hs:F4 Kp ⟨s1.T,(b, .lp T nf .busy pd) :: s1.H⟩=some s2) (h:QU a P N (some l) body s2 Q):Zy a (asQ P N l body b T nf Q) .normal s1 :=
 ⟨fun r hr=>⟨rfl,pd,hl,GK (Xu hs) (h.h r hr)⟩⟩
theorem Tq {N1:Nat} {fn:FuncId} {ps:Array Tmp} {assign body:Code} {nf:JK} {l1:List Oper} (L:List (Nat × Nat)) (hc:List (Nat × Blk)) (b:Nat) (T:List (Nat × AV)) (C:List Conv) (cb:List (Nat × List Conv)) (args':List AV) (hw:ZF ops o (look s.T)=some true) (hnf:nf=JK.mk N1 fn ps assign body)
  (hy:(yieldOf (look (Zv ops o s.T true)) o.op).map (fun p=>(p.1,Ed C p.2))=some (Vs L b,VD (Vs L) args')) (hb:look hc b=some (.lp T nf .ready none)) (hps:(Nat.ble 1000 b&&Nat.beq ps.size args'.length&&ps.toList.all (fun p=>Nat.blt p N1))=true)
  (hok:Jv N o.dst (Vs L) hc args'=true) (hsub:F9 s.H (Vs L) cb hc=hc.map (fun p=>some (Z9 (Vs L) p.2)))
  (h:∀ l,QU a P N1 (some l) assign ⟨eF ps.toList args' T,hc⟩ (asQ P N1 l body b T nf (rnQ (Vs L) hc b T nf (mk ops o s true) o.dst (iW P N ops Q l1) Q))):KX a P N ops Q false acc (o :: l1) s:=by
 obtain ⟨⟨b0,args⟩,hy0,hp⟩:=FQ.1 hy
 simp only [Prod.mk.injEq] at hp
 obtain ⟨hb0,hargs⟩:=hp
 have hb0:b0=Vs L b:=hb0
 subst hb0
 refine ⟨fun r hr=>?_⟩
 show Yi P N ops (Q r) (o :: l1) s
 simp only [Yi,hw,ZQ,hy0]
 show YEx P N (Vs L b) args o.dst (mk ops o s true) _ _
 simp only [Ki] at hps
 simp only [Jv,Ki] at hok
 obtain ⟨⟨⟨⟨g1,g2⟩,g3⟩,g4⟩,g5⟩:=hok
 have hY:fq P b args' (look hc) (rdR (Vs L) hc (mk ops o s true) o.dst (iW P N ops Q l1 r) (Q r)):=by
  have hnf':=hnf
  refine zJ (nf:=nf) (Nat.le_of_ble_eq_true hps.1.1) hb ?_ ?_ fun l=>?_
  ·subst hnf'; exact Nat.eq_of_beq_eq_true hps.1.2
  ·subst hnf'; intro p hp; simpa [Nat.blt_eq] using List.all_eq_true.1 hps.2 p hp
  ·have:=(h l).h r hr
   subst hnf'
   exact this
 refine zI (s:=mk ops o s true) (Vs L) hY (by rw [← hargs]; exact Xt C args) g2 (fun c hc=>by simpa using List.all_eq_true.1 g3 c hc) (F8 g4) (Ua hsub) (X9 g5) (ZR g1) ?_
 rintro x h' ⟨hc',rfl,hd,hk⟩
 refine ⟨hc',Kh (Vs L) hc' s.H,rfl,hd,fun _=>rfl,?_⟩
 cases x with
 | ret x=>exact hk
 | panic x=>exact hk
def bS (hc hc':List (Nat × Blk)) (b:Nat) (s:St):Bool:=uK (look hc') hc'&&Ya (look hc') hc
theorem mq {ρ:Nat→Nat} {hc:List (Nat × Blk)} {b:Nat} {T:List (Nat × AV)} {nf:JK} {x:AX} {yes:Bool} {st:LoopState} {pd:Option Code} (hx:∀ r,rnQ ρ hc b T nf s dst K Q r x s1=Tj hc b T nf (rdR ρ hc s dst (K r) (Q r)) yes st pd s1) (bs:List Nat) (cb:List (Nat × List Conv)) (st0:LoopState) (pd0:Option Code)
  (hl:look (KO cb s1.H bs) b=some (.lp T nf st0 pd0)) (hok:(bS hc (KO cb s1.H bs) b s&&Jg ρ hc ((b, .lp T nf st pd) :: KO cb s1.H bs) s.H)=true)
  (hk:F7 a K (St.put ⟨s.T,Kh ρ ((b, .lp T nf st pd) :: KO cb s1.H bs) s.H⟩ dst (Wv ρ (.p (.val (.bool yes)))))):Zy a (rnQ ρ hc b T nf s dst K Q) x s1:=by
 refine ⟨fun r hr=>?_⟩
 rw [hx r]
 simp only [bS,Ki] at hok
 exact ⟨_,st0,pd0,VE hok.1.1,hok.1.2,hl,_,rfl,Xx hok.2,hk.h r hr⟩
theorem PS {ρ:Nat→Nat} {hc:List (Nat × Blk)} {b:Nat} {T:List (Nat × AV)} {nf:JK} (bs:List Nat) (cb:List (Nat × List Conv)) (st0:LoopState) (pd0:Option Code) (hl:look (KO cb s1.H bs) b=some (.lp T nf st0 pd0)) (hok:(bS hc (KO cb s1.H bs) b s&&Jg ρ hc ((b, .lp T nf .ready none) :: KO cb s1.H bs) s.H)=true)
  (hk:F7 a K (St.put ⟨s.T,Kh ρ ((b, .lp T nf .ready none) :: KO cb s1.H bs) s.H⟩ dst (Wv ρ (.p (.val (.bool true)))))):Zy a (rnQ ρ hc b T nf s dst K Q) .normal s1:=mq (fun _=>rfl) bs cb st0 pd0 hl hok hk
theorem bT {ρ:Nat→Nat} {hc:List (Nat × Blk)} {b:Nat} {T:List (Nat × AV)} {nf:JK} (bs:List Nat) (cb:List (Nat × List Conv)) (st0:LoopState) (pd0:Option Code) (hl:look (KO cb s1.H bs) b=some (.lp T nf st0 pd0)) (hok:(bS hc (KO cb s1.H bs) b s&&Jg ρ hc ((b, .lp T nf .done (some .ret)) :: KO cb s1.H bs) s.H)=true)
  (hk:F7 a K (St.put ⟨s.T,Kh ρ ((b, .lp T nf .done (some .ret)) :: KO cb s1.H bs) s.H⟩ dst (Wv ρ (.p (.val (.bool false)))))):Zy a (rnQ ρ hc b T nf s dst K Q) .ret s1:=mq (fun _=>rfl) bs cb st0 pd0 hl hok hk
end
def NC (k i:Nat):Nat:=if i=k then 0 else if i < k then i+1 else i
def vz (o:Oper):Bool:=match o.op,o.guard with | .move _,none=>true | _,_=>false
def xM (o:Oper):Bool:=vz o&&o.after.toList.all (fun e=>!Region.binds .any e)
def sZ (k:Nat) (o:Oper):Oper:={ o with after:=⟨(if xM o then [] else [⟨0, .data⟩])++o.after.toList.map fun e=>⟨NC k e.on,e.ground⟩⟩,guard:=o.guard.map fun g=>(NC k g.1,g.2) }
def D7 (k:Nat) (l:List Oper):List Oper:=match l[k]? with
 | some o=>{ o with after:=#[] } :: (l.eraseIdx k).map (sZ k)
 | none=>l
def JN (k:Nat) (ops:Array Oper):Array Oper:=⟨D7 k ops.toList⟩
def Eh (k:Nat) (ops:Array Oper):Bool:=match ops[k]? with
 | some o=>vz o&&o.after.toList.all (fun e=>!Region.binds .any e)&&Region.noSelect ops&&Region.free .any ops (Array.replicate ops.size false) k
 | none=>false
theorem zV {k:Nat} {l:List Oper} {o:Oper} (h:l[k]?=some o):(D7 k l)[0]?=some { o with after:=#[] }:=by
 simp [D7,h]
theorem xP {k:Nat} {l:List Oper} {o:Oper} (h:l[k]?=some o) (i:Nat) (hi:i ≠ k):(D7 k l)[NC k i]?=(l[i]?).map (sZ k):=by
 unfold D7 NC
 simp only [h,if_neg hi]
 by_cases hlt:i < k
 ·simp only [if_pos hlt,List.getElem?_cons_succ,List.getElem?_map]
  rw [List.getElem?_eraseIdx,if_pos hlt]
 ·obtain ⟨j,rfl⟩:∃ j,i=j+1:=⟨i - 1,by omega⟩
  simp only [if_neg hlt,List.getElem?_cons_succ,List.getElem?_map]
  rw [List.getElem?_eraseIdx,if_neg zo]
theorem vB {k:Nat} {l:List Oper} {o:Oper} (h:l[k]?=some o):(D7 k l).length=l.length:=by
 have hk:k < l.length:=(List.getElem?_eq_some_iff.1 h).1
 unfold D7
 simp only [h,nY,List.length_map,List.length_eraseIdx,if_pos hk]
 omega
theorem D8 {k:Nat} {ops:Array Oper} {o:Oper} (h:ops[k]?=some o):(JN k ops)[0]?=some { o with after:=#[] }:=by
 have:=zV (l:=ops.toList) (by simpa using h)
 simpa [JN] using this
theorem SB {k:Nat} {ops:Array Oper} {o:Oper} (h:ops[k]?=some o) (i:Nat) (hi:i ≠ k):(JN k ops)[NC k i]?=(ops[i]?).map (sZ k):=by
 have:=xP (l:=ops.toList) (by simpa using h) i hi
 simpa [JN] using this
theorem vC {k:Nat} {ops:Array Oper} {o:Oper} (h:ops[k]?=some o):(JN k ops).size=ops.size:=by
 have:=vB (l:=ops.toList) (by simpa using h)
 simpa [JN] using this
theorem mr {k i n:Nat} (hk:k < n) (hi:i < n):NC k i < n:=by
 unfold NC
 split
 ·omega
 ·split <;> omega
theorem mD {k i:Nat} (hi:i ≠ k):NC k i ≠ 0:=by
 unfold NC
 rw [if_neg hi]
 split <;> omega
theorem bU {k i j:Nat} (hi:i ≠ k) (hj:j ≠ k) (h:NC k i=NC k j):i=j:=by
 unfold NC at h
 rw [if_neg hi,if_neg hj] at h
 split at h <;> split at h <;> omega
theorem mE {k j:Nat} (hj:j ≠ 0):∃ i,i ≠ k∧NC k i=j:=by
 unfold NC
 by_cases h:j≤k
 ·exact ⟨j - 1,by omega,by rw [if_neg zo,if_pos zo]; omega⟩
 ·exact ⟨j,by omega,by rw [if_neg zo,if_neg zo]⟩
section
variable {P:Program} {ops:Array Oper} {Q:Exit→Act→World→Prop} {k:Nat} {ok:Oper}
theorem xQ (hk:ops[k]?=some ok) (g:Nat):((JN k ops)[NC k g]?).bind (·.dst)=(ops[g]?).bind (·.dst):=by
 by_cases hg:g=k
 ·subst hg
  rw [show NC g g=0 from by simp [NC],D8 hk,hk]
  rfl
 ·rw [SB hk g hg]
  cases ops[g]? <;> rfl
theorem xU (hk:ops[k]?=some ok) (o:Oper) (tmps:Array Value):Region.wanted (sZ k o) (yielded (JN k ops) tmps)=Region.wanted o (yielded ops tmps):=by
 unfold Region.wanted sZ
 cases hg:o.guard with
 | none=>simp
 | some g =>
  obtain ⟨g,b⟩:=g
  simp only [Option.map_some]
  unfold yielded
  rw [xQ hk g]
theorem bV (hk:ops[k]?=some ok) {i:Nat} (hi:i ≠ k) {K K':Act→World→Prop} (hK:∀ a w,K a w→K' a w) {a:Act} {w:World} (h:wpOp P (JN k ops) Q (NC k i) K a w):wpOp P ops Q i K' a w:=by
 refine wpOp_mono hK ?_
 unfold wpOp at h ⊢
 rw [SB hk i hi] at h
 cases ho:ops[i]? with
 | none=>simpa [ho] using h
 | some o =>
  simp only [ho,Option.map_some] at h ⊢
  rw [xU hk] at h
  exact h
theorem Tt (hk:ops[k]?=some ok) {listed listed':Array Bool} (hs:listed.size=ops.size) (hs':listed'.size=ops.size) (h0:listed'.getD 0 false=true) (h1:listed.getD k false=true) (hl:∀ i,i ≠ k→listed'.getD (NC k i) false=listed.getD i false) (i:Nat) (hi:i ≠ k) :
  i ∈ Region.ready .any ops listed↔NC k i ∈ Region.ready .any (JN k ops) listed':=by
 have hkl:k < ops.size:=(Rn.1 hk).1
 have hgd:∀ (l:Array Bool) (i:Nat),i < l.size→l.getD i true=l.getD i false:=fun l i hi=>by simp [hi]
 rw [mem_ready,mem_ready,SB hk i hi]
 rcases Nat.lt_or_ge i ops.size with hlt | hge
 rotate_left
 ·have:ops[i]?=none:=by simp [hge]
  simp [this]
 have e1:listed.getD i true=listed'.getD (NC k i) true:=by
  rw [hgd listed i zo,hgd listed' _ (by rw [hs']; exact mr hkl hlt),hl i hi]
 rw [e1]
 have hon:∀ j,listed.getD j false=listed'.getD (NC k j) false:=by
  intro j
  by_cases hj:j=k
  ·subst hj
   rw [h1,show NC j j=0 from by simp [NC],h0]
  ·exact (hl j hj).symm
 refine and_congr_right fun _=>?_
 constructor
 ·rintro ⟨o,ho,hall⟩
  refine ⟨sZ k o,by rw [ho]; rfl,fun e he hb=>?_⟩
  simp only [sZ,List.mem_toArray,List.mem_append,List.mem_map] at he
  rcases he with he | ⟨e',he',rfl⟩
  ·split at he
   ·cases he
   ·rw [List.mem_singleton] at he
    subst he
    exact h0
  ·rw [← hon]
   exact hall e' (by simpa using he') hb
 ·rintro ⟨o',ho',hall⟩
  cases ho:ops[i]? with
  | none=>rw [ho] at ho'; cases ho'
  | some o =>
   rw [ho] at ho'
   cases ho'
   refine ⟨o,rfl,fun e he hb=>?_⟩
   rw [hon]
   exact hall ⟨NC k e.on,e.ground⟩ (by simp only [sZ,List.mem_toArray,List.mem_append,List.mem_map]; exact .inr ⟨e,by simpa using he,rfl⟩) hb
theorem vD (hk:ops[k]?=some ok):∀ (fuel:Nat) (listed listed':Array Bool) (a:Act) (w:World),listed.size=ops.size→listed'.size=ops.size→listed'.getD 0 false=true→listed.getD k false=true →
  (∀ i,i ≠ k→listed'.getD (NC k i) false=listed.getD i false)→wpAny P .any (JN k ops) Q fuel listed' a w→wpAny P .any ops Q fuel listed a w:=by
 have hkl:k < ops.size:=(Rn.1 hk).1
 have hgd:∀ (l:Array Bool) (i:Nat),i < l.size→l.getD i true=l.getD i false:=fun l i hi=>by simp [hi]
 have hnil:∀ (listed listed':Array Bool),listed.size=ops.size→listed'.size=ops.size→listed'.getD 0 false=true→listed.getD k false=true →
   (∀ i,i ≠ k→listed'.getD (NC k i) false=listed.getD i false)→(Region.ready .any ops listed=[]↔Region.ready .any (JN k ops) listed'=[]):=by
  intro listed listed' hs hs' h0 h1 hl
  simp only [List.eq_nil_iff_forall_not_mem]
  constructor
  ·intro h j hj
   have hj0:j ≠ 0:=by
    intro e
    subst e
    have:=(mem_ready.1 hj).1
    rw [hgd listed' 0 zo,h0] at this
    cases this
   obtain ⟨i,hik,rfl⟩:=mE (k:=k) hj0
   exact h i ((Tt hk hs hs' h0 h1 hl i hik).2 hj)
  ·intro h i hi
   have hik:i ≠ k:=by
    intro e
    subst e
    have:=(mem_ready.1 hi).1
    rw [hgd listed i zo,h1] at this
    cases this
   exact h _ ((Tt hk hs hs' h0 h1 hl i hik).1 hi)
 intro fuel
 induction fuel with
 | zero =>
  intro listed listed' a w hs hs' h0 h1 hl h
  exact ⟨(hnil listed listed' hs hs' h0 h1 hl).2 h.1,h.2⟩
 | succ fuel ih =>
  intro listed listed' a w hs hs' h0 h1 hl h
  refine ⟨fun hr=>h.1 ((hnil listed listed' hs hs' h0 h1 hl).1 hr),fun i hi=>?_⟩
  have hik:i ≠ k:=by
   intro e
   subst e
   have:=(mem_ready.1 hi).1
   rw [hgd listed i zo,h1] at this
   cases this
  have h2:=h.2 _ ((Tt hk hs hs' h0 h1 hl i hik).1 hi)
  refine bV hk hik (fun a' w' h3=>ih _ _ a' w' (by simpa using hs) (by simpa using hs') (getD_set_true h0) (getD_set_true h1) ?_ h3) h2
  intro j hj
  by_cases e:i=j
  ·subst e
   have hilt:i < ops.size:=by
    obtain ⟨o,ho,_⟩:=(mem_ready.1 hi).2
    exact (Rn.1 ho).1
   have:=mr hkl hilt
   rw [← hs] at hilt
   rw [← hs'] at this
   simp [hilt,this]
  ·rw [getD_set_ne false e,getD_set_ne false (fun e2=>e (bU hik hj e2)),hl j hj]
theorem Xi {Q':Exit→Act→World→Prop} (hQ:∀ e a w,Q e a w→Q' e a w):∀ (fuel:Nat) (listed:Array Bool) (a:Act) (w:World),wpAny P .any ops Q fuel listed a w→wpAny P .any ops Q' fuel listed a w
 | 0,listed,a,w,h=>⟨h.1,hQ _ _ _ h.2⟩
 | fuel+1,listed,a,w,h=>by
  refine ⟨fun hr=>hQ _ _ _ (h.1 hr),fun i hi=>?_⟩
  have h2:=h.2 i hi
  unfold wpOp at h2 ⊢
  cases ho:ops[i]? with
  | none=>simp only [ho] at h2 ⊢; exact Xi hQ fuel _ a w h2
  | some o =>
   simp only [ho] at h2 ⊢
   split
   ·rename_i hw
    simp only [hw,if_true] at h2
    rcases h2 with h2 | ⟨h3,h4⟩
    ·exact .inl (Oper.wp_mono2 h2 (fun a w h=>Xi hQ fuel _ a w h) hQ)
    ·exact .inr ⟨h3,_,_,hQ _ _ _ h4.choose_spec.choose_spec⟩
   ·rename_i hw
    simp only [hw] at h2
    exact Xi hQ fuel _ _ w h2
end
def Agree (X:Tmp→Prop) (a b:Act):Prop:=a.defers=b.defers∧a.tmps.size=b.tmps.size∧∀ t,¬ X t→a.tmps[t]?=b.tmps[t]?
theorem vE (X:Tmp→Prop) (a:Act):Agree X a a:=⟨rfl,rfl,fun _ _=>rfl⟩
theorem Hq {X:Tmp→Prop} {a b:Act} (h:Agree X a b) (d:Option Tmp) (v:Value):Agree X (a.put d v) (b.put d v):=by
 cases d with
 | none=>exact h
 | some d =>
  refine ⟨h.1,by simpa [Act.put] using h.2.1,fun t ht=>?_⟩
  simp only [Act.put,Array.getElem?_setIfInBounds]
  rw [h.2.1,h.2.2 t ht]
theorem vG {X:Tmp→Prop} {a b:Act} (h:Agree X a b) {x:Operand} (hx:∀ t,x=.tmp t→¬ X t):a.eval x=b.eval x:=by
 cases x with
 | tmp t =>
  have:=h.2.2 t (hx t rfl)
  simp only [Act.eval]
  rw [Array.getD_eq_getD_getElem?,Array.getD_eq_getD_getElem?,this]
 | _=>rfl
theorem Xy {X:Tmp→Prop} {ops:Array Oper} {a b:Act} (h:Agree X a b) {o:Oper} (hs:∀ cs b,o.op ≠ .select cs b) (hl:∀ t ∈ o.looksAt ops,¬ X t):execOp a.eval o=execOp b.eval o :=
 execOp_congr o hs fun x hx=>vG h fun t ht=>hl t (by
  subst ht
  exact List.mem_append_left _ (List.mem_filterMap.2 ⟨.tmp t,by simpa using hx,rfl⟩))
theorem SC {P:Program} {X:Tmp→Prop} {ops:Array Oper} {a b:Act} {o:Oper} {w:World} {K:Act→World→Prop} {Q Q':Exit→Act→World→Prop} (h:Agree X a b) (hs:∀ cs b,o.op ≠ .select cs b) (hl:∀ t ∈ o.looksAt ops,¬ X t) (hd:∀ t,o.dst=some t→¬ X t)
  (hp:∀ c w,Q (.panic c) b w→Q' (.panic c) a w) (ho:∀ a w,¬ Q .outgrown a w) (hh:o.wp P b w K Q):o.wp P a w (fun a' w'=>∃ b',Agree X a' b'∧(∀ t,o.dst ≠ some t→b'.tmps[t]?=b.tmps[t]?)∧K b' w') Q':=by
 have hput:∀ (b:Act) (v:Value) (t:Tmp),o.dst ≠ some t→(b.put o.dst v).tmps[t]?=b.tmps[t]?:=by
  intro b v t ht
  cases hdst:o.dst with
  | none=>rfl
  | some d =>
   have:d ≠ t:=fun e=>ht (by rw [hdst,e])
   simp [Act.put,Array.getElem?_setIfInBounds_ne this]
 unfold Oper.wp at *
 rw [Xy (ops:=ops) h hs hl]
 generalize (execOp b.eval o).run P w=r at *
 cases r with
 | ok n w' =>
  cases n <;> simp only [Oper.upon] at hh ⊢
  case value u=>exact ⟨_,Hq h _ u,hput b u,hh⟩
  case skip=>exact ⟨_,Hq h _ _,hput b _,hh⟩
  case defer d =>
   refine ⟨_,Hq (X:=X) (a:={ a with defers:=d :: a.defers }) (b:={ b with defers:=d :: b.defers }) ⟨by simp [h.1],h.2.1,h.2.2⟩ _ _,fun t ht=>?_,hh⟩
   exact hput { b with defers:=d :: b.defers } _ t ht
  case enter f args =>
   refine Calls.mono hh fun e w'' he=>?_
   cases e with
   | returned u=>exact ⟨_,Hq h _ u,hput b u,he⟩
   | panicked c=>exact hp _ _ he
   | outgrown=>obtain ⟨a0,w0,he⟩:=he; exact absurd he (ho _ _)
  case row row args=>exact Rows.mono hh fun u w'' he=>⟨_,Hq h _ u,hput b u,he⟩
 | halt x w' =>
  cases x <;> simp only [Oper.upon] at hh ⊢
  case panic u=>exact hp _ _ hh
def SE (P:Program) (o:Oper) (T:Nat→Option AV) (h:Qv):Option AV :=
 match o.op with
 | .move x=>Zr T x
 | .load ty x=>(N7 P T h ty x).map (·.1)
 | .fieldAddr s x f=>(J6 P T s x f).map (·.1)
 | .nilCheck x=>(XZ T x).map (·.1)
 | .extract x i=>(Hz T x i).map (·.1)
 | .binOp op _ x y _=>match Zr T x,Zr T y with
  | some (.p (.val (.int k a))),some (.p (.val (.int k' b)))=>if LB op then none else if k=k' then (EB op k a b).map fun v=>.p (.val v) else none
  | _,_=>none
 | _=>none
section
variable {P:Program} {N:Nat} {D:DB} {φ:Nat→Nat} {M0:QR} {T:Nat→Option AV} {h:Qv} {a:Act} {w:World}
theorem SF {o:Oper} (r:Zw φ M0 N D T h a w) {x:AV} (he:SE P o T h=some x):∃ v,(execOp a.eval o).run P w=.ok (.value v) w∧Qf φ h w (MM φ h M0) x v:=by
 unfold SE at he
 split at he
 ·rename_i y ho
  exact ⟨a.eval y,by simp [execOp,ho],r.ev he⟩
 ·rename_i ty y ho
  obtain ⟨u,hu,rfl⟩:=FQ.1 he
  obtain ⟨_,v,h2,h3⟩:=Et (P:=P) r hu
  exact ⟨v,by simp [execOp,ho,h2],h3⟩
 ·rename_i s y f ho
  obtain ⟨u,hu,rfl⟩:=FQ.1 he
  unfold J6 at hu
  split at hu
  ·rename_i fields hs
   split at hu
   ·rename_i fl hf
    split at hu
    ·rename_i i hi
     split at hu
     ·cases hu
     ·rename_i hsz
      split at hu
      ·rename_i b off hx
       simp only [Zd] at hu
       subst hu
       have h2:=r.ev hx
       simp only [Qf] at h2
       refine ⟨.pointer (some ⟨φ b,off+fl.offset,none⟩),?_,?_⟩
       ·simp [execOp,ho,Instr.fieldAt,run_underlying hs,hf,h2.1,Instr.sureAddr,fieldPlace,Zi hi,hsz,Addr.add_lit]
       ·simp only [Qf]; exact ⟨trivial,h2.2⟩
      ·rename_i cs hx
       split at hu
       ·rename_i hle
        simp only [Zd] at hu
        subst hu
        have h2:=r.ev hx
        simp only [Qf] at h2
        obtain ⟨rr,oo,h3,h4⟩:=h2
        refine ⟨.pointer (some ⟨rr,oo+fl.offset,none⟩),?_,?_⟩
        ·simp [execOp,ho,Instr.fieldAt,run_underlying hs,hf,h3,Instr.sureAddr,fieldPlace,Zi hi,hsz,Addr.add_lit]
        ·simp only [Qf]; exact ⟨rr,oo+fl.offset,rfl,DV _ hle h4⟩
       ·cases hu
      ·cases hu
    ·cases hu
   ·cases hu
  ·cases hu
 ·rename_i y ho
  obtain ⟨u,hu,rfl⟩:=FQ.1 he
  unfold XZ at hu
  split at hu
  ·rename_i b off hx
   simp only [Zd] at hu
   subst hu
   have h2:=r.ev hx
   refine ⟨a.eval y,?_,h2⟩
   simp only [Qf] at h2
   simp [execOp,ho,h2.1]
  ·rename_i cs hx
   simp only [Zd] at hu
   subst hu
   have h2:=r.ev hx
   refine ⟨a.eval y,?_,h2⟩
   simp only [Qf] at h2
   obtain ⟨rr,oo,h3,_⟩:=h2
   simp [execOp,ho,h3]
  ·rename_i f l m hx
   simp only [Zd] at hu
   subst hu
   have h2:=r.ev hx
   refine ⟨a.eval y,?_,h2⟩
   simp only [Qf] at h2
   obtain ⟨l',m',h3,_⟩:=h2
   simp [execOp,ho,h3]
  ·cases hu
 ·rename_i y i ho
  obtain ⟨u,hu,rfl⟩:=FQ.1 he
  unfold Hz at hu
  split at hu
  ·rename_i vs hx
   split at hu
   ·rename_i v hv
    simp only [Zd] at hu
    subst hu
    have h2:=r.ev hx
    simp only [Qf] at h2
    obtain ⟨l,h3,h4⟩:=h2
    obtain ⟨z,h5,h6⟩:=XT h4 hv
    exact ⟨z,by simp [execOp,ho,Instr.extract,h3,h5],h6⟩
   ·cases hu
  ·cases hu
 ·rename_i op tx y z ty ho
  split at he
  ·rename_i k n k' m hx hy
   have h1:=r.ev hx
   have h2:=r.ev hy
   simp only [Qf,Q5] at h1 h2
   split at he
   ·cases he
   rename_i hs
   split at he
   ·rename_i hk
    subst hk
    obtain ⟨v,hv,rfl⟩:=FQ.1 he
    refine ⟨v,?_,by simp [Qf,Q5]⟩
    cases op <;> first | (simp [LB] at hs; done) | (simp only [EB] at hv; first | (cases hv; done) | (simp only [Zd] at hv; subst hv; simp [execOp,ho,h1,h2,eqGuard,binOp,Op.intArith,Op.intBits,Op.intCmp,Js,sJ,p8,OA,QL,leI,Qs,bne]; done) | (by_cases hz:m=0 <;> simp only [hz,if_true,if_false] at hv <;> first | (cases hv; done) | (simp only [Zd] at hv; subst hv; simp [execOp,ho,h1,h2,eqGuard,binOp,Op.intDiv,hz])))
   ·cases he
  ·cases he
 ·cases he
end
def O0:AV→Bool
 | .p (.val _)=>true
 | .ptr _ _=>true
 | _=>false
theorem vH {φ:Nat→Nat} {h:Qv} {w:World} {M:QR} {x:AV} {v v':Value} (hx:O0 x=true) (h1:Qf φ h w M x v) (h2:Qf φ h w M x v'):v=v':=by
 unfold O0 at hx
 split at hx
 ·simp only [Qf,Q5] at h1 h2
  rw [h1,h2]
 ·simp only [Qf] at h1 h2
  rw [h1.1,h2.1]
 ·cases hx
def mF (h:Qv) (x:AV):Prop:=O0 x=true∨∃ S es t ty,x=.tsl S es t∧h t=some (.arr ty S es.length)∧0 < S
theorem I5 {φ:Nat→Nat} {h:Qv} {w:World} {M:QR} {x:AV} {v v':Value} (hx:mF h x) (h1:Qf φ h w M x v) (h2:Qf φ h w M x v'):v=v':=by
 rcases hx with hx | ⟨S,es,t,ty,rfl,ht,hS⟩
 ·exact vH hx h1 h2
 ·simp only [Qf] at h1 h2
  obtain ⟨_,NM,n1,a1,a2,a3⟩:=h1
  obtain ⟨_,Vq,n2,b1,b2,b3⟩:=h2
  rw [ht] at a1 b1
  cases a1
  cases b1
  rcases a3 rfl with ⟨_,e1,e2⟩ | ⟨cap,c,e1,e2,e3,_⟩ <;> rcases b3 rfl with ⟨_,f1,f2⟩ | ⟨cap',c',f1,f2,f3,_⟩
  ·exact e1.trans f1.symm
  ·rw [e2] at f2; cases f2
  ·rw [e2] at f2; cases f2
  rw [e2] at f2
  cases f2
  rw [e3] at f3
  have:cap=cap':=Nat.eq_of_mul_eq_mul_right hS f3
  rw [e1,f1,this]
def LU (P:Program) (N:Nat) (ops:Array Oper):List Nat→St→Option St
 | [],s=>some s
 | i :: l,s=>match ops[i]? with
  | some o=>match SE P o (look s.T) (look s.H),o.dst with
   | some x,some d=>if d < N then LU P N ops l (s.put (some d) x) else none
   | _,_=>none
  | none=>none
def Lc (ops:Array Oper):List Nat→Bool
 | []=>true
 | i :: l=>(match ops[i]? with
  | some o=>match o.dst with
   | some d=>!(o.looksAt ops).contains d&&l.all (fun j=>match (ops[j]?).bind (·.dst) with | some e=>!(o.looksAt ops).contains e&&e != d | none=>false)
   | none=>false
  | none=>false)&&Lc ops l
def mG (ops:Array Oper) (H:List Nat) (t:Tmp):Prop:=∃ i ∈ H,(ops[i]?).bind (·.dst)=some t
theorem Ei {P:Program} {N:Nat} {D:DB} {φ:Nat→Nat} {M0:QR} {ops:Array Oper} (hns:Region.noSelect ops=true):∀ (H:List Nat) (s s1:St) (a:Act) (w:World),Lc ops H=true→LU P N ops H s=some s1→Zw φ M0 N D (look s.T) (look s.H) a w →
  ∃ b,Zw φ M0 N D (look s1.T) (look s1.H) b w∧look s1.H=look s.H∧Agree (mG ops H) a b∧∀ i ∈ H,∃ o d v,ops[i]?=some o∧o.dst=some d∧b.tmps[d]?=some v∧(execOp b.eval o).run P w=.ok (.value v) w
 | [],s,s1,a,w,_,h,r=>by
  simp only [LU,Zd] at h
  subst h
  exact ⟨a,r,rfl,vE _ a,fun i hi=>by cases hi⟩
 | i :: H,s,s1,a,w,hp,h,r=>by
  simp only [LU] at h
  cases ho:ops[i]? with
  | none=>rw [ho] at h; cases h
  | some o =>
   simp only [ho] at h
   split at h
   ·rename_i x d hx hd
    split at h
    rotate_left
    ·cases h
    rename_i hdN
    simp only [Lc,ho,hd,Ki,Bool.not_eq_true'] at hp
    obtain ⟨⟨hself,hlater⟩,hp'⟩:=hp
    obtain ⟨v,hrun,hrep⟩:=SF r hx
    have r1:=r.put (d:=some d) (fun t ht=>by cases ht; exact hdN) hrep
    obtain ⟨b,rb,hH,hag,hall⟩:=Ei hns H (s.put (some d) x) s1 (a.put (some d) v) w hp' h r1
    have hnl:∀ t ∈ o.looksAt ops,t ≠ d∧¬ mG ops H t:=by
     intro t ht
     refine ⟨fun e=>?_,?_⟩
     ·subst e; simp [ht] at hself
     ·rintro ⟨j,hj,hje⟩
      have:=List.all_eq_true.1 hlater j hj
      rw [hje] at this
      simp [ht] at this
    have hdl:¬ mG ops H d:=by
     rintro ⟨j,hj,hje⟩
     have:=List.all_eq_true.1 hlater j hj
     rw [hje] at this
     simp at this
    have hds:d < a.tmps.size:=by rw [r.siz]; exact hdN
    refine ⟨b,rb,by rw [hH]; rfl,?_,?_⟩
    ·refine ⟨by rw [← hag.1]; rfl,by rw [← hag.2.1]; simp [Act.put],fun t ht=>?_⟩
     rw [← hag.2.2 t (fun hc=>ht (by obtain ⟨j,hj,hje⟩:=hc; exact ⟨j,List.mem_cons_of_mem _ hj,hje⟩))]
     have:d ≠ t:=fun e=>ht ⟨i,List.mem_cons_self,by rw [ho]; exact hd.trans (by rw [e])⟩
     simp [Act.put,Array.getElem?_setIfInBounds_ne this]
    ·intro j hj
     rcases List.mem_cons.1 hj with rfl | hj
     ·refine ⟨o,d,v,ho,hd,?_,?_⟩
      ·rw [← hag.2.2 d hdl]
       simp [Act.put,hds]
      ·rw [← hrun]
       congr 1
       have h1:execOp (a.put (some d) v).eval o=execOp a.eval o:=execOp_put o (fun cs b=>Region.noSelect_spec hns j o cs b ho) a (some d) v (fun t ht hc=>by cases ht; exact (hnl d hc).1 rfl)
       rw [← h1]
       exact (Xy (ops:=ops) hag (fun cs b=>Region.noSelect_spec hns j o cs b ho) (fun t ht=>(hnl t ht).2)).symm
     ·exact hall j hj
   ·cases h
def G7 (P:Program) (ops:Array Oper) (i:Nat) (s:St):Prop :=
 match ops[i]? with
 | some o=>match o.op,o.dst with
  | .move x,some d=>True
  | _,some d=>∃ x,SE P o (look s.T) (look s.H)=some x∧look s.T d=some x∧mF (look s.H) x
  | _,none=>False
 | none=>False
def Jn (P:Program) (ops:Array Oper) (L:List Nat) (s:St):Prop:=∀ i ∈ L,G7 P ops i s
def WT:Nat→Array Oper→Nat→Nat→Bool
 | 0,_,_,_=>false
 | n+1,ops,j,i=>match ops[j]? with
  | some o=>o.after.toList.any fun e=>Region.binds .any e&&(e.on == i||WT n ops e.on i)
  | none=>false
def UA (ops:Array Oper) (L:List Nat) (c:Nat):List Nat:=L.filter fun i=>!WT ops.size ops c i&&!WT ops.size ops i c
def jc (P:Program) (N:Nat) (ops:Array Oper) (Q:AX→St→Prop) (L:List Nat):List (Nat × List Nat)→St→Prop
 | [],s=>Q .normal s
 | (c,hs) :: rest,s=>match ops[c]? with
  | some o=>XN P N o s (fun s'=>Jn P ops (UA ops L c) s'∧∃ s'',LU P N ops hs s'=some s''∧jc P N ops Q L rest s'') Q
  | none=>False
theorem Xj {ops:Array Oper} {listed:Array Bool} (hcl:∀ (j:Nat) o,ops[j]?=some o→listed.getD j false=true→∀ e ∈ o.after,Region.binds .any e=true→listed.getD e.on false=true):∀ (n j i:Nat) (o:Oper),ops[j]?=some o→(∀ e ∈ o.after,Region.binds .any e=true→listed.getD e.on false=true)→WT n ops j i=true→listed.getD i false=true
 | 0,j,i,o,ho,hr,h=>by cases h
 | n+1,j,i,o,ho,hr,h=>by
  simp only [WT,ho,List.any_eq_true,Ki,Bool.or_eq_true,beq_iff_eq] at h
  obtain ⟨e,he,hb,h1⟩:=h
  have hl:=hr e (by simpa using he) hb
  rcases h1 with h1 | h1
  ·rw [← h1]; exact hl
  ·cases ho2:ops[e.on]? with
   | none=>cases n <;> simp [WT,ho2] at h1
   | some o2=>exact Xj hcl n e.on i o2 ho2 (fun e2 he2 hb2=>hcl e.on o2 ho2 hl e2 he2 hb2) h1
def chainOk (ops:Array Oper):List Nat→Bool
 | []=>true
 | [_]=>true
 | c :: c' :: r=>(ops[c']?).any (waits · c)&&chainOk ops (c' :: r)
def Dh (ops:Array Oper) (L:List Nat):List Nat→List Nat→List (Nat × List Nat)→Bool
 | _,_,[]=>true
 | hv,cur,(c,hs) :: r=>cur.all (fun i=>L.contains i||WT ops.size ops c i)&&hs.all (fun i=>WT ops.size ops i c)&&hv.all (fun i=>!WT ops.size ops i c)&&Dh ops L (hv++hs) hs r
def SG (H:List Nat) (Ch:List (Nat × List Nat)):List Nat:=H++(Ch.map (·.2)).flatten
def zW (H L:List Nat) (Ch:List (Nat × List Nat)) (ops:Array Oper):Bool :=
 (List.range ops.size).all (fun i=>(SG H Ch).contains i||(Ch.map (·.1)).contains i)&&Region.noSelect ops&&Lc ops (SG H Ch)&&chainOk ops (Ch.map (·.1))&&decide (Ch.map (·.1)).Nodup&&(SG H Ch).all (fun i=>!(Ch.map (·.1)).contains i) &&
 Dh ops L H H Ch&&ops.toList.all (fun o=>o.guard.isNone)&&Hm 0 ops.toList &&
 (SG H Ch).all (fun i=>match (ops[i]?).bind (·.dst) with
  | some d=>(List.range ops.size).all fun j=>i == j||(match ops[j]? with | some oj=>oj.dst != some d&&(waits oj i||!(oj.looksAt ops).contains d) | none=>true)
  | none=>false) &&
 L.all (fun i=>match ops[i]? with | some o=>(match o.op with | .move _=>true | _=>false)&&(Ch.map (·.1)).all (fun c=>match (ops[c]?).bind (·.dst) with | some e=>!(o.looksAt ops).contains e | none=>true)||!(match o.op with | .move _=>true | _=>false) | none=>false)
theorem Gi {o:Oper} {i:Nat} (h:waits o i=true):∃ e ∈ o.after,Region.binds .any e=true∧e.on=i:=by
 simp only [waits,List.any_eq_true,Ki,beq_iff_eq] at h
 obtain ⟨e,h1,h2,h3⟩:=h
 exact ⟨e,by simpa using h1,h2,h3⟩
theorem jd {a b:Act} {X:Tmp→Prop} (h:Agree X a b) (hx:∀ t,¬ X t):a=b:=by
 obtain ⟨h1,h2,h3⟩:=h
 cases a with
 | mk ta da =>
  cases b with
  | mk tb db =>
   simp only at h1 h3
   subst h1
   congr 1
   exact Array.ext_getElem? (fun i=>h3 i (hx i))
def JO (ops:Array Oper) (H:List Nat) (listed:Array Bool) (t:Tmp):Prop:=∃ i ∈ H,listed.getD i false=false∧(ops[i]?).bind (·.dst)=some t
theorem Tu {ops:Array Oper}:∀ (l1:List Nat) (c c':Nat) (l2:List Nat),chainOk ops (l1++c :: c' :: l2)=true→(ops[c']?).any (waits · c)=true
 | [],c,c',l2,h=>by
  simp only [List.nil_append,chainOk,Ki] at h
  exact h.1
 | [x],c,c',l2,h=>by
  simp only [List.cons_append,List.nil_append,chainOk,Ki] at h
  exact h.2.1
 | x :: y :: l1,c,c',l2,h=>by
  simp only [List.cons_append,chainOk,Ki] at h
  exact Tu (y :: l1) c c' l2 h.2
theorem SH {ops:Array Oper}:∀ (l1 l2:List Nat),Lc ops (l1++l2)=true→(∀ i ∈ l1,∀ j ∈ l2,∃ o d,ops[i]?=some o∧o.dst=some d∧∀ e,(ops[j]?).bind (·.dst)=some e→e ∉ o.looksAt ops∧e ≠ d)∧Lc ops l2=true
 | [],l2,h=>⟨(fun i hi=>by cases hi),h⟩
 | x :: l1,l2,h=>by
  simp only [List.cons_append,Lc,Ki] at h
  obtain ⟨g1,g2⟩:=SH l1 l2 h.2
  refine ⟨fun i hi j hj=>?_,g2⟩
  rcases List.mem_cons.1 hi with rfl | hi
  ·have h1:=h.1
   cases ho:ops[i]? with
   | none=>rw [ho] at h1; cases h1
   | some o =>
    rw [ho] at h1
    dsimp only at h1
    cases hd:o.dst with
    | none=>rw [hd] at h1; cases h1
    | some d =>
     rw [hd] at h1
     simp only [Ki] at h1
     refine ⟨o,d,rfl,hd,fun e he=>?_⟩
     have h2:=List.all_eq_true.1 h1.2 j (List.mem_append_right _ hj)
     rw [he] at h2
     simp only [Ki,Bool.not_eq_true',bne_iff_ne] at h2
     refine ⟨fun hc=>?_,h2.2⟩
     have:=h2.1
     simp [hc] at this
  ·exact g1 i hi j hj
theorem SI {ops:Array Oper} {j d:Nat} {o:Oper} (ho:ops[j]?=some o) (hd:o.dst=some d):∀ (l:List Nat),Lc ops l=true→j ∈ l→d ∉ o.looksAt ops:=by
 intro l
 induction l with
 | nil=>intro _ h; cases h
 | cons x l ihl =>
  intro hp hm
  simp only [Lc,Ki] at hp
  rcases List.mem_cons.1 hm with rfl | hm
  ·have:=hp.1
   simp only [ho,hd,Ki,Bool.not_eq_true'] at this
   intro hc
   simp [hc] at this
  ·exact ihl hp.2 hm
theorem D9 {ops:Array Oper}:∀ (l1 l2:List Nat),Lc ops (l1++l2)=true→Lc ops l1=true
 | [],_,_=>rfl
 | x :: l1,l2,h=>by
  simp only [List.cons_append,Lc,Ki] at h ⊢
  refine ⟨?_,D9 l1 l2 h.2⟩
  have h1:=h.1
  cases ho:ops[x]? with
  | none=>rw [ho] at h1; cases h1
  | some o =>
   rw [ho] at h1
   dsimp only at h1 ⊢
   cases hd:o.dst with
   | none=>rw [hd] at h1; cases h1
   | some d =>
    rw [hd] at h1
    simp only [Ki,List.all_append] at h1 ⊢
    exact ⟨h1.1,h1.2.1⟩
theorem Pz {ops:Array Oper} {L:List Nat}:∀ (hv cur:List Nat) (ch:List (Nat × List Nat)),Dh ops L hv cur ch=true→∀ c hs,(c,hs) ∈ ch→∀ i ∈ hs,WT ops.size ops i c=true
 | _,_,[],_,c,hs,h,_,_=>by cases h
 | hv,cur,(c0,hs0) :: r,h,c,hs,hm,i,hi=>by
  simp only [Dh,Ki] at h
  rcases List.mem_cons.1 hm with e | hm
  ·cases e
   exact List.all_eq_true.1 h.1.1.2 i hi
  ·exact Pz (hv++hs0) hs0 r h.2 c hs hm i hi
def Cb (ops:Array Oper):List Tmp:=ops.toList.filterMap (·.dst)
def PD (ops:Array Oper) (s:St):St:=⟨s.T.filter (fun p=>!(Cb ops).contains p.1),s.H⟩
theorem Tv (f:Nat→Bool):∀ (T:List (Nat × AV)) (t:Nat) (x:AV),look (T.filter (fun p=>f p.1)) t=some x→look T t=some x∧f t=true
 | [],t,x,h=>by cases h
 | (k,v) :: T,t,x,h=>by
  simp only [List.filter_cons] at h
  by_cases hk:f k=true
  ·simp only [hk,if_true,look] at h
   simp only [look]
   by_cases e:k=t
   ·subst e; simp only [if_true] at h ⊢; exact ⟨h,hk⟩
   ·simp only [e,if_false] at h ⊢; exact Tv f T t x h
  ·simp only [hk] at h
   obtain ⟨h1,h2⟩:=Tv f T t x (by simpa using h)
   simp only [look]
   have:k ≠ t:=fun e=>hk (e ▸ h2)
   simp only [this,if_false]
   exact ⟨h1,h2⟩
def qh {R:Type} (ops:Array Oper) (Q:R→AX→St→Prop):R→AX→St→Prop:=fun r x s=>match x with | .normal=>Q r .normal s | .panic v=>Q r (.panic v) (PD ops s) | _=>False
theorem I6 {N:Nat} {D:DB} {φ:Nat→Nat} {M0:QR} {ops:Array Oper} {a b:Act} {w:World} {s:St} {X:Tmp→Prop} (h:Agree X a b) (hX:∀ t,X t→t ∈ Cb ops) (r:Zw φ M0 N D (look s.T) (look s.H) b w):Zw φ M0 N D (look (PD ops s).T) (look (PD ops s).H) a w:=by
 refine ⟨?_,by rw [h.2.1]; exact r.siz,r.hp,fun t x ht=>?_⟩
 ·have:=r.dfs
  unfold Marks at this ⊢
  rw [h.1]
  exact this
 ·obtain ⟨h1,h2⟩:=Tv (fun t=>!(Cb ops).contains t) s.T t x ht
  obtain ⟨g1,g2⟩:=r.tm t x h1
  refine ⟨g1,?_⟩
  have:a.tmps[t]?=b.tmps[t]?:=h.2.2 t (fun hc=>by
   have:=hX t hc
   simp [this] at h2)
  rw [Array.getD_eq_getD_getElem?,this,← Array.getD_eq_getD_getElem?]
  exact g2
theorem bW {P:Program} {N:Nat} {D:DB} {ops:Array Oper} {Q Qh:AX→St→Prop} {H L:List Nat} {Ch:List (Nat × List Nat)} {φ0:Nat→Nat} {h0:Qv} {w0:World} {M0:QR} (hok:zW H L Ch ops=true) (hqn:∀ s,Qh .normal s→Q .normal s) (hqp:∀ v s,Qh (.panic v) s→Q (.panic v) (PD ops s)) :
  ∀ (fuel:Nat) (done ch:List (Nat × List Nat)) (cur Hv:List Nat) (listed:Array Bool) (a b:Act) (w:World) (s:St) (φ:Nat→Nat),Ch=done++ch→Hv=H++(done.map (·.2)).flatten→(∀ i ∈ Hv,i ∉ L→i ∉ cur→listed.getD i false=true)→(∀ i ∈ cur,i ∈ Hv)→Dh ops L Hv cur ch=true→listed.size=ops.size→Ec listed ops.size≤fuel →
   (∀ (j:Nat) o,ops[j]?=some o→listed.getD j false=true→∀ e ∈ o.after,Region.binds .any e=true→listed.getD e.on false=true) →
   (∀ c ∈ done,listed.getD c.1 false=true)→(∀ c ∈ ch,listed.getD c.1 false=false)→Agree (JO ops Hv listed) a b→Zw φ M0 N D (look s.T) (look s.H) b w→Zg φ0 h0 w0 φ (look s.H) w →
   (∀ i ∈ Hv,listed.getD i false=false→∃ o d v,ops[i]?=some o∧o.dst=some d∧b.tmps[d]?=some v∧(execOp b.eval o).run P w=.ok (.value v) w) →
   jc P N ops Qh L ch s→wpAny P .any ops (Post N D Q φ0 M0 h0 w0) fuel listed a w:=by
 simp only [zW,Ki,decide_eq_true_eq] at hok
 obtain ⟨⟨⟨⟨⟨⟨⟨⟨⟨⟨hcov,hns⟩,hpair⟩,hchain⟩,hnd⟩,hdis⟩,hstage⟩,hgu⟩,hdown⟩,hreg⟩,hLr⟩:=hok
 have hgd:∀ (listed:Array Bool) (i:Nat),i < listed.size→listed.getD i true=listed.getD i false:=fun listed i hi=>by simp [hi]
 have hpan:∀ (X:Tmp→Prop) (a b:Act),Agree X a b→(∀ t,X t→t ∈ Cb ops)→∀ c w,Post N D Qh φ0 M0 h0 w0 (.panic c) b w→Post N D Q φ0 M0 h0 w0 (.panic c) a w:=by
  rintro X a b hag hX c w' ⟨φ',x,s',g1,g2,g3,g4⟩
  cases x with
  | normal=>cases g4
  | exit i=>cases g4
  | ret=>cases g4
  | panic v=>exact ⟨φ', .panic v,PD ops s',hqp _ _ g1,I6 hag hX g2,g3,g4⟩
 have hout:∀ a w,¬ Post N D Qh φ0 M0 h0 w0 .outgrown a w:=fun a w h=>VW ⟨a,w,h⟩
 have hXm:∀ (Hv:List Nat) (listed:Array Bool) (t:Tmp),JO ops Hv listed t→t ∈ Cb ops:=by
  rintro Hv listed t ⟨i,_,_,hd⟩
  cases ho:ops[i]? with
  | none=>rw [ho] at hd; cases hd
  | some o =>
   rw [ho] at hd
   exact List.mem_filterMap.2 ⟨o,by have:=Array.mem_of_getElem? ho; simpa using this,hd⟩
 have hgn:∀ (j:Nat) o,ops[j]?=some o→o.guard=none:=by
  intro j o ho
  have:=List.all_eq_true.1 hgu o (by have:=Array.mem_of_getElem? ho; simpa using this)
  simpa using this
 have hready:∀ (listed:Array Bool),listed.size=ops.size→Region.ready .any ops listed=[]→∀ i,i < ops.size→listed.getD i false=true:=by
  intro listed hsz hr i
  induction i using Nat.strongRecOn with
  | _ i ih =>
   intro hi
   cases hq:listed.getD i false with
   | true=>rfl
   | false =>
    have:i ∈ Region.ready .any ops listed:=by
     rw [mem_ready]
     refine ⟨by rw [hgd listed i zo]; exact hq,ops[i],Array.getElem?_eq_getElem hi,fun e he hb=>?_⟩
     have h1:=VC hdown i ops[i] (by simp [hi]) e he hb
     exact ih e.on zo zo
    rw [hr] at this
    cases this
 have hfin:∀ (listed:Array Bool) (ch:List (Nat × List Nat)) (Hv:List Nat) (a b:Act) (w:World) (s:St) (φ:Nat→Nat),(∀ i,i < ops.size→listed.getD i false=true)→(∀ c ∈ ch,listed.getD c.1 false=false)→Agree (JO ops Hv listed) a b →
   Zw φ M0 N D (look s.T) (look s.H) b w→Zg φ0 h0 w0 φ (look s.H) w→jc P N ops Qh L ch s→Post N D Q φ0 M0 h0 w0 .normal a w:=by
  intro listed ch Hv a b w s φ hall hch hag r E hx
  have hab:a=b:=jd hag (by
   rintro t ⟨i,hi,hl,hd⟩
   cases ho:ops[i]? with
   | none=>rw [ho] at hd; cases hd
   | some o=>rw [hall i (Rn.1 ho).1] at hl; cases hl)
  subst hab
  cases ch with
  | nil=>exact ⟨φ, .normal,s,hqn _ hx,r,E,rfl⟩
  | cons c ch =>
   exfalso
   obtain ⟨c,hs⟩:=c
   simp only [jc] at hx
   cases ho:ops[c]? with
   | none=>rw [ho] at hx; exact hx
   | some o =>
    have:=hch (c,hs) List.mem_cons_self
    rw [hall c (Rn.1 ho).1] at this
    cases this
 intro fuel
 induction fuel with
 | zero =>
  intro done ch cur Hv listed a b w s φ hCh hHv hnl hcur hst hsz hu hcl hdo hch hag r E J hx
  have hall:∀ i,i < ops.size→listed.getD i false=true:=fun i hi=>by rw [← hgd listed i zo]; exact Tc (n:=ops.size) zo i hi
  refine ⟨List.eq_nil_iff_forall_not_mem.2 fun i hi=>?_,hfin listed ch Hv a b w s φ hall hch hag r E hx⟩
  obtain ⟨h1,o,ho,_⟩:=mem_ready.1 hi
  have hilt:=(Rn.1 ho).1
  rw [hgd listed i zo,hall i hilt] at h1
  cases h1
 | succ fuel ih =>
  intro done ch cur Hv listed a b w s φ hCh hHv hnl hcur hst hsz hu hcl hdo hch hag r E J hx
  refine ⟨fun hr=>hfin listed ch Hv a b w s φ (hready listed hsz hr) hch hag r E hx,fun j hj=>?_⟩
  obtain ⟨hun,o,ho,hall⟩:=mem_ready.1 hj
  have hjlt:j < ops.size:=(Rn.1 ho).1
  have hun':listed.getD j false=false:=by rw [← hgd listed j zo]; exact hun
  have hsel:∀ cs b,o.op ≠ .select cs b:=fun cs b=>Region.noSelect_spec hns j o cs b ho
  have hwant:∀ tm,Region.wanted o (yielded ops tm)=true:=fun tm=>by simp [Region.wanted,hgn j o ho]
  have hsubH:∀ i ∈ Hv,i ∈ SG H Ch:=by
   intro i hi
   rw [hHv] at hi
   unfold SG
   rw [hCh,List.map_append,List.flatten_append,← List.append_assoc]
   exact List.mem_append_left _ hi
  have eL:∀ k,(listed.setIfInBounds j true).getD k false=(listed.getD k false||decide (k=j)):=by
   intro k
   by_cases hkj:k=j
   ·subst hkj
    have:k < listed.size:=by omega
    simp [this]
   ·rw [getD_set_ne false (Ne.symm hkj)]
    simp [hkj]
  have hu':Ec (listed.setIfInBounds j true) ops.size≤fuel:=by
   have:=Br hun ops.size
   rw [if_pos hjlt] at this
   omega
  have hcl':∀ (k:Nat) ok,ops[k]?=some ok→(listed.setIfInBounds j true).getD k false=true→∀ e ∈ ok.after,Region.binds .any e=true→(listed.setIfInBounds j true).getD e.on false=true:=by
   intro k ok hk hl e he hb
   rw [eL] at hl ⊢
   simp only [Bool.or_eq_true,decide_eq_true_eq] at hl ⊢
   rcases hl with hl | hl
   ·exact .inl (hcl k ok hk hl e he hb)
   ·subst hl
    rw [ho] at hk
    cases hk
    exact .inl (hall e he hb)
  have hsee:∀ t ∈ o.looksAt ops,¬ JO ops Hv listed t∨∃ d,o.dst=some d∧t=d∧j ∈ Hv:=by
   intro t ht
   by_cases hc:JO ops Hv listed t
   rotate_left
   ·exact .inl hc
   obtain ⟨i,hi,hl,hd⟩:=hc
   have h1:=List.all_eq_true.1 hreg i (hsubH i hi)
   rw [hd] at h1
   have h2:=List.all_eq_true.1 h1 j (by simp [hjlt])
   simp only [ho,Bool.or_eq_true,beq_iff_eq,Ki,Bool.not_eq_true',bne_iff_ne] at h2
   rcases h2 with rfl | ⟨_,h2 | h2⟩
   ·rw [ho] at hd
    exact .inr ⟨t,hd,rfl,hi⟩
   ·obtain ⟨e,he,hb,hon⟩:=Gi h2
    have:=hall e he hb
    rw [hon,hl] at this
    cases this
   ·simp [ht] at h2
  have hcase:=List.all_eq_true.1 hcov j (by simp [hjlt])
  simp only [Bool.or_eq_true,List.contains_iff_mem] at hcase
  by_cases hjA:j ∈ SG H Ch
  ·
   have hjC:j ∉ Ch.map (·.1):=by
    have:=List.all_eq_true.1 hdis j hjA
    simpa using this
   have hjH:j ∈ Hv:=by
    unfold SG at hjA
    rw [hCh,List.map_append,List.flatten_append,← List.append_assoc] at hjA
    rcases List.mem_append.1 hjA with h1 | h1
    ·rw [hHv]; exact h1
    ·exfalso
     obtain ⟨hs,h2,h3⟩:=List.mem_flatten.1 h1
     obtain ⟨⟨c,hs'⟩,h4,h5⟩:=List.mem_map.1 h2
     simp only at h5
     subst h5
     have hw:=Pz Hv cur ch hst c hs' h4 j h3
     have:=Xj hcl _ j c o ho hall hw
     rw [hch (c,hs') h4] at this
     cases this
   obtain ⟨o',d,v,ho',hd,hv,hrun⟩:=J j hjH hun'
   rw [ho] at ho'
   cases ho'
   have hself:d ∉ o.looksAt ops:=SI ho hd (SG H Ch) hpair hjA
   have hsee':∀ t ∈ o.looksAt ops,¬ JO ops Hv listed t:=by
    intro t ht
    rcases hsee t ht with h1 | ⟨d',h1,rfl,_⟩
    ·exact h1
    ·rw [hd] at h1
     cases h1
     exact absurd ht hself
   unfold wpOp
   simp only [ho,hwant,if_true]
   refine .inl ?_
   unfold Oper.wp
   rw [Xy (ops:=ops) hag hsel hsee',hrun]
   simp only [Oper.upon]
   refine ih done ch cur Hv (listed.setIfInBounds j true) (a.put o.dst v) b w s φ hCh hHv (fun i hi h1 h2=>by rw [eL,hnl i hi h1 h2]; rfl) hcur hst (by simpa using hsz) hu' hcl' (fun c hc=>by rw [eL,hdo c hc]; rfl) ?_ ?_ r E ?_ hx
   ·intro c hc
    rw [eL,hch c hc]
    have:c.1 ≠ j:=fun e=>hjC (by rw [hCh,← e]; exact List.mem_map.2 ⟨c,List.mem_append_right _ hc,rfl⟩)
    simp [this]
   ·refine ⟨by rw [← hag.1,hd]; rfl,by rw [← hag.2.1,hd]; simp [Act.put],fun t ht=>?_⟩
    rw [hd]
    by_cases htd:d=t
    ·subst htd
     have hds:d < a.tmps.size:=by
      rw [hag.2.1]
      exact (Rn.1 hv).1
     rw [hv]
     simp [Act.put,hds]
    ·rw [← hag.2.2 t (fun hc=>ht (by
      obtain ⟨i,hi,hl,hdi⟩:=hc
      refine ⟨i,hi,?_,hdi⟩
      rw [eL,hl]
      have:i ≠ j:=fun e=>htd (by rw [e,ho] at hdi; exact Option.some.inj (hd.symm.trans hdi))
      simp [this]))]
     simp [Act.put,Array.getElem?_setIfInBounds_ne htd]
   ·intro i hi hl
    refine J i hi ?_
    rw [eL] at hl
    simp only [Bool.or_eq_false_iff] at hl
    exact hl.1
  ·
   have hjC:j ∈ Ch.map (·.1):=hcase.resolve_left hjA
   have hjH:j ∉ Hv:=fun h=>hjA (hsubH j h)
   have hjch:∃ hs r,ch=(j,hs) :: r:=by
    have hjC2:=hjC
    rw [hCh,List.map_append] at hjC2
    have hj1:j ∈ ch.map (·.1):=by
     rcases List.mem_append.1 hjC2 with h1 | h1
     ·obtain ⟨c,hc,rfl⟩:=List.mem_map.1 h1
      rw [hdo c hc] at hun'; cases hun'
     ·exact h1
    cases ch with
    | nil=>cases hj1
    | cons c r =>
     obtain ⟨c,hs⟩:=c
     by_cases hjc:j=c
     ·exact ⟨hs,r,by rw [hjc]⟩
     ·exfalso
      have hjr:j ∈ r.map (·.1):=(List.mem_cons.1 hj1).resolve_left hjc
      obtain ⟨r1,r2,hr12⟩:=List.append_of_mem hjr
      obtain ⟨q,x,hqx⟩:∃ q x,c :: r1=q++[x]:=⟨(c :: r1).dropLast,(c :: r1).getLast zq,(List.dropLast_concat_getLast zq).symm⟩
      have hsp:Ch.map (·.1)=(done.map (·.1)++q)++x :: j :: r2:=by
       rw [hCh,List.map_append,List.map_cons,hr12,show c :: (r1++j :: r2)=(c :: r1)++j :: r2 from rfl,hqx]
       simp
      rw [hsp] at hchain
      have h1:=Tu _ _ _ _ hchain
      rw [ho] at h1
      obtain ⟨e,he,hb,hon⟩:=Gi (o:=o) (i:=x) h1
      have h2:=hall e he hb
      have hxm:x ∈ ((c,hs) :: r).map (·.1):=by
       rw [List.map_cons,hr12,show c :: (r1++j :: r2)=(c :: r1)++j :: r2 from rfl,hqx]; simp
      obtain ⟨y,hy,rfl⟩:=List.mem_map.1 hxm
      have h3:=hch y hy
      rw [hon,h3] at h2
      cases h2
   obtain ⟨hs,rest,rfl⟩:=hjch
   have hseeC:∀ t ∈ o.looksAt ops,¬ JO ops Hv listed t:=by
    intro t ht
    rcases hsee t ht with h1 | ⟨d',_,_,h1⟩
    ·exact h1
    ·exact absurd h1 hjH
   have hdst:∀ t,o.dst=some t→¬ JO ops Hv listed t:=by
    rintro t ht ⟨i,hi,hl,hd⟩
    have h1:=List.all_eq_true.1 hreg i (hsubH i hi)
    rw [hd] at h1
    have h2:=List.all_eq_true.1 h1 j (by simp [hjlt])
    simp only [ho,Bool.or_eq_true,beq_iff_eq,Ki,Bool.not_eq_true',bne_iff_ne] at h2
    rcases h2 with rfl | ⟨h2,_⟩
    ·exact hjH hi
    ·exact h2 ht
   simp only [jc,ho] at hx
   simp only [Dh,Ki] at hst
   unfold wpOp
   simp only [ho,hwant,if_true]
   refine .inl ?_
   have hw:=TZ hx r
   have hw2:=Go.Abs.Oper.wp_mono2 (K':=fun a' w'=>∃ φ' s',(Jn P ops (UA ops L j) s'∧∃ s'',LU P N ops hs s'=some s''∧jc P N ops Qh L rest s'')∧Zw φ' M0 N D (look s'.T) (look s'.H) a' w'∧Zg φ (look s.H) w φ' (look s'.H) w') (Q':=Post N D Qh φ0 M0 h0 w0) hw (fun _ _ h=>h) (fun e a' w' p=>p.trans E)
   refine Oper.wp_mono ?_ (SC (ops:=ops) hag hsel hseeC hdst (hpan _ _ _ hag (hXm _ _)) hout hw2)
   rintro a' w' ⟨b',hag',hbX,φ',s',⟨hl',s'',hrunH,hx'⟩,r',E'⟩
   have hdone:∀ i ∈ Hv,i ∉ L→listed.getD i false=true:=by
    intro i hi hiL
    by_cases hic:i ∈ cur
    ·have h1:=List.all_eq_true.1 hst.1.1.1 i hic
     simp only [Bool.or_eq_true,List.contains_iff_mem] at h1
     rcases h1 with h1 | h1
     ·exact absurd h1 hiL
     ·exact Xj hcl _ j i o ho hall h1
    ·exact hnl i hi hiL hic
   have hall2:SG H Ch=Hv++(hs++(rest.map (·.2)).flatten):=by
    unfold SG
    rw [hCh,hHv,List.map_append,List.flatten_append,List.map_cons,List.flatten_cons,List.append_assoc]
   have hpair2:=hpair
   rw [hall2] at hpair2
   obtain ⟨pp1,pp2⟩:=SH Hv _ hpair2
   have pp3:=D9 _ _ pp2
   obtain ⟨b2,rb,hH2,hag2,hJ2⟩:=Ei hns hs s' s'' b' w' pp3 hrunH r'
   have hhs:∀ i ∈ hs,listed.getD i false=false∧i ≠ j:=by
    intro i hi
    have hw:=List.all_eq_true.1 hst.1.1.2 i hi
    refine ⟨?_,fun e=>hjA (by rw [hall2,← e]; exact List.mem_append_right _ (List.mem_append_left _ hi))⟩
    cases hq:listed.getD i false with
    | false=>rfl
    | true =>
     exfalso
     obtain ⟨oi,_,_,hoi,_⟩:=hJ2 i hi
     have:=Xj hcl _ i j oi hoi (fun e he hb=>hcl i oi hoi hq e he hb) hw
     rw [hun'] at this
     cases this
   have hxs:∀ t,mG ops hs t→JO ops (Hv++hs) (listed.setIfInBounds j true) t:=by
    rintro t ⟨i,hi,hd⟩
    refine ⟨i,List.mem_append_right _ hi,?_,hd⟩
    rw [eL,(hhs i hi).1]
    simp [(hhs i hi).2]
   have hxo:∀ t,JO ops Hv listed t→JO ops (Hv++hs) (listed.setIfInBounds j true) t:=by
    rintro t ⟨i,hi,hl,hd⟩
    refine ⟨i,List.mem_append_left _ hi,?_,hd⟩
    rw [eL,hl]
    have:i ≠ j:=fun e=>hjH (e ▸ hi)
    simp [this]
   refine ih (done++[(j,hs)]) rest hs (Hv++hs) (listed.setIfInBounds j true) a' b2 w' s'' φ' (by rw [hCh]; simp) (by rw [hHv,List.map_append,List.flatten_append]; simp) ?_ (fun i hi=>List.mem_append_right _ hi) hst.2 (by simpa using hsz) hu' hcl' (fun c hc=>by
    rw [eL]
    rcases List.mem_append.1 hc with h1 | h1
    ·rw [hdo c h1]; rfl
    ·rw [List.mem_singleton] at h1
     simp [h1]) ?_ ⟨hag'.1.trans hag2.1,hag'.2.1.trans hag2.2.1,fun t ht=>(hag'.2.2 t (fun hc=>ht (hxo t hc))).trans (hag2.2.2 t (fun hc=>ht (hxs t hc)))⟩ rb (by rw [hH2]; exact E.trans E') ?_ hx'
   ·intro i hi hiL hic
    rcases List.mem_append.1 hi with hi | hi
    ·rw [eL,hdone i hi hiL]; rfl
    ·exact absurd hi hic
   ·intro c hc
    rw [eL,hch c (List.mem_cons_of_mem _ hc)]
    have:c.1 ≠ j:=by
     intro e
     rw [hCh,List.map_append,List.map_cons] at hnd
     have h2:=(List.nodup_append.1 hnd).2.1
     exact (List.nodup_cons.1 h2).1 (List.mem_map.2 ⟨c,hc,e⟩)
    simp [this]
   ·intro i hi hl
    rcases List.mem_append.1 hi with hiv | hih
    rotate_left
    ·exact hJ2 i hih
    rw [eL] at hl
    simp only [Bool.or_eq_false_iff] at hl
    have hiL:i ∈ L:=by
     apply Classical.byContradiction
     intro hc
     rw [hdone i hiv hc] at hl
     cases hl.1
    obtain ⟨oi,d,v,hoi,hdi,hvi,hri⟩:=J i hiv hl.1
    have hvb:b'.tmps[d]?=some v:=by rw [hbX d (fun e=>hdst d e ⟨i,hiv,hl.1,by rw [hoi]; exact hdi⟩)]; exact hvi
    have hnX:∀ t,t ∈ oi.looksAt ops∨t=d→¬ mG ops hs t:=by
     rintro t ht ⟨k,hk,hkd⟩
     obtain ⟨o2,d2,h1,h2,h3⟩:=pp1 i hiv k (List.mem_append_left _ hk)
     rw [hoi] at h1
     cases h1
     rw [hdi] at h2
     cases h2
     obtain ⟨h4,h5⟩:=h3 t hkd
     rcases ht with ht | ht
     ·exact h4 ht
     ·exact h5 ht
    have hseli:∀ cs b,oi.op ≠ .select cs b:=fun cs b=>Region.noSelect_spec hns i oi cs b hoi
    refine ⟨oi,d,v,hoi,hdi,by rw [← hag2.2.2 d (hnX d (.inr rfl))]; exact hvb,?_⟩
    rw [← Xy (ops:=ops) hag2 hseli (fun t ht=>hnX t (.inl ht))]
    have hnw:WT ops.size ops j i=false:=by
     cases hq:WT ops.size ops j i with
     | false=>rfl
     | true =>
      have:=Xj hcl _ j i o ho hall hq
      rw [hl.1] at this
      cases this
    have hnw2:WT ops.size ops i j=false:=by
     have:=List.all_eq_true.1 hst.1.2 i hiv
     simpa using this
    have h1:=hl' i (List.mem_filter.2 ⟨hiL,by rw [hnw,hnw2]; rfl⟩)
    unfold G7 at h1
    simp only [hoi] at h1
    split at h1
    ·rename_i x d' hop hd'
     have hri':b.eval x=v:=by
      simp [execOp,hop] at hri
      exact hri
     have hxe:b'.eval x=b.eval x:=by
      cases x with
      | tmp t =>
       have hne:o.dst ≠ some t:=by
        intro e
        have h2:=List.all_eq_true.1 hLr i hiL
        simp only [hoi,hop,Bool.true_and,Bool.not_true,Bool.or_false] at h2
        have h3:=List.all_eq_true.1 h2 j hjC
        simp only [ho,Z8,e,Bool.not_eq_true'] at h3
        have:t ∈ oi.looksAt ops:=List.mem_append_left _ (List.mem_filterMap.2 ⟨.tmp t,by simp [hop,Op.operands],rfl⟩)
        simp [this] at h3
       simp only [Act.eval]
       rw [Array.getD_eq_getD_getElem?,Array.getD_eq_getD_getElem?,hbX t hne]
      | _=>rfl
     simp [execOp,hop,hxe,hri']
    ·rename_i d' hd' hop
     obtain ⟨x,h2,h3,h4⟩:=h1
     obtain ⟨v',h5,h6⟩:=SF r' h2
     rw [hdi] at hd'
     cases hd'
     have h7:=(r'.tm d x h3).2
     rw [Array.getD_eq_getD_getElem?,hvb] at h7
     have:=I5 h4 h6 h7
     rw [h5,this]
     rfl
    ·cases h1
theorem eZ {P:Program} {N:Nat} {ro:Option Nat} {id:Nat} {ops:Array Oper} {s s1:St} {R:Type} {r0:R} {Q:R→AX→St→Prop} (H L:List Nat) (Ch:List (Nat × List Nat)) (hm:P.follows .mixedOrders=true) (hnd:Ul ops=true) (hok:zW H L Ch ops=true) (h1:LU P N ops H s=some s1)
  (h:jc P N ops (qh ops Q r0) L Ch s1):Ex P N ro (.region id ops true) s (Q r0):=by
 intro φ M0 D a w r
 refine wpIn_region_any hm (DZ hnd VW _ _ _ _ ?_)
 have hd:Zg φ (look s.H) w φ (look s.H) { w with drawn:=w.drawn+1 }:=FR rfl rfl rfl rfl
 have r1:Zw φ M0 N D (look s.T) (look s.H) a { w with drawn:=w.drawn+1 }:=r.keep hd (Hf rfl) (TN (w:=w) rfl hd r.hp)
 have hok':=hok
 simp only [zW,Ki,decide_eq_true_eq] at hok'
 obtain ⟨⟨⟨⟨⟨⟨⟨⟨⟨⟨hcov,hns⟩,hpair⟩,hchain⟩,hnd'⟩,hdis⟩,hstage⟩,hgu⟩,hdown⟩,hreg⟩,hLr⟩:=hok'
 obtain ⟨b,rb,hH,hag,hJ⟩:=Ei hns H s s1 a _ (D9 H _ hpair) h1 r1
 have hlf:∀ (j:Nat),(Array.replicate ops.size false).getD j false=false:=by
  intro j
  rcases Nat.lt_or_ge j ops.size with h | h
  ·simp [h]
  ·simp [h]
 have hunl:∀ n,Ec (Array.replicate ops.size false) n≤n:=by
  intro n
  induction n with
  | zero=>simp [Ec]
  | succ n ih=>simp only [Ec]; split <;> omega
 have h2:=bW (D:=D) (φ0:=φ) (h0:=look s.H) (w0:=w) (M0:=M0) hok (Q:=Q r0) (Qh:=qh ops Q r0) (fun _ h=>h) (fun _ _ h=>h) ops.size [] Ch H H (Array.replicate ops.size false) a b { w with drawn:=w.drawn+1 } s1 φ rfl zq (fun i hi _ hc=>absurd hi hc) (fun i hi=>hi) hstage zq (hunl _) (fun j o _ hj=>by rw [hlf] at hj; cases hj) (fun c hc=>by cases hc) (fun c _=>hlf c.1)
  ⟨hag.1,hag.2.1,fun t ht=>hag.2.2 t (fun hc=>ht (by obtain ⟨i,hi,hdi⟩:=hc; exact ⟨i,hi,hlf i,hdi⟩))⟩ rb (by rw [hH]; exact hd) (fun i hi _=>hJ i hi) h
 refine Xi ?_ _ _ _ _ h2
 exact fun e a' w' h=>h
structure zX {R:Type} (a:Option R) (P:Program) (N:Nat) (ops:Array Oper) (Q:R→AX→St→Prop) (L:List Nat) (Ch:List (Nat × List Nat)) (s:St):Prop where
 intro ::
 h:∀ r,a=some r→jc P N ops (qh ops Q r) L Ch s
def fKh {R:Type} (P:Program) (N:Nat) (ops:Array Oper) (Q:R→AX→St→Prop) (L:List Nat) (Ch:List (Nat × List Nat)) (c:Nat) (hs:List Nat):R→St→Prop:=fun r s=>Jn P ops (UA ops L c) s∧∃ s'',LU P N ops hs s=some s''∧jc P N ops (qh ops Q r) L Ch s''
section
variable {R V E:Type} {a a1 a2:Option R} {P:Program} {N:Nat} {ro:Option Nat} {id:Nat} {ops:Array Oper} {o:Oper} {s s1 s':St} {Q:R→AX→St→Prop} {f:FuncId} {args args':List AV} {dst:Option Tmp} {L hs:List Nat} {Ch:List (Nat × List Nat)} {c i:Nat}
theorem Vu (H L:List Nat) (Ch:List (Nat × List Nat)) (hm:P.follows .mixedOrders=true) (hd:Ul ops=true) (hok:zW H L Ch ops=true) (h1:(LU P N ops H s).isSome=true) (h:zX a P N ops Q L Ch ((LU P N ops H s).getD s)):QU a P N ro (.region id ops true) s Q:=by
 obtain ⟨s1,e⟩:=Ls.1 h1
 rw [e] at h
 exact ⟨fun r hr=>eZ H L Ch hm hd hok e (h.h r hr)⟩
theorem Ql:Jn P ops [] s:=fun i hi=>by cases hi
theorem Qo (h1:G7 P ops i s) (h2:Jn P ops L s):Jn P ops (i :: L) s:=fun j hj=>by
 rcases List.mem_cons.1 hj with rfl | hj
 ·exact h1
 ·exact h2 j hj
theorem SK (x:AV) (h:(ops[i]?).bind (fun o=>o.dst.bind fun d=>(SE P o (look s.T) (look s.H)).bind fun y=>(look s.T d).map fun z=>(y,z))=some (x,x)) (hx:mF (look s.H) x):G7 P ops i s:=by
 unfold G7
 cases ho:ops[i]? with
 | none=>rw [ho] at h; cases h
 | some o =>
  rw [ho,Z8] at h
  cases hd:o.dst with
  | none=>rw [hd] at h; cases h
  | some d =>
   rw [hd,Z8] at h
   obtain ⟨y,hy,h2⟩:=Option.bind_eq_some_iff.1 h
   obtain ⟨z,hz,h3⟩:=FQ.1 h2
   simp only [Prod.mk.injEq] at h3
   obtain ⟨rfl,rfl⟩:=h3
   dsimp only
   rw [hd]
   split
   ·trivial
   ·rename_i he hop
    cases he
    exact ⟨_,hy,hz,hx⟩
   ·rename_i he; cases he
theorem Qz (x:AV) (h:(ops[i]?).bind (fun o=>o.dst.bind fun d=>(SE P o (look s.T) (look s.H)).bind fun y=>(look s.T d).map fun z=>(y,z))=some (x,x)) (hx:O0 x=true):G7 P ops i s:=SK x h (.inl hx)
theorem WU {S t ty:Nat} {es:List (List PV)} (h:(ops[i]?).bind (fun o=>o.dst.bind fun d=>(SE P o (look s.T) (look s.H)).bind fun y=>(look s.T d).map fun z=>(y,z))=some (.tsl S es t, .tsl S es t)) (hx:look s.H t=some (.arr ty S es.length)) (hS:Nat.ble 1 S=true):G7 P ops i s:=SK _ h (.inr ⟨S,es,t,ty,rfl,hx,Nat.le_of_ble_eq_true hS⟩)
theorem WV (h:Zy a Q .normal s):zX a P N ops Q L [] s:=⟨fun r hr=>h.h r hr⟩
theorem kh (L':List Nat) (hL:UA ops L c=L') (hl:Jn P ops L' s) (h1:(LU P N ops hs s).isSome=true) (h:zX a P N ops Q L Ch ((LU P N ops hs s).getD s)):F7 a (fKh P N ops Q L Ch c hs) s:=by
 obtain ⟨s1,e⟩:=Ls.1 h1
 rw [e] at h
 exact ⟨fun r hr=>⟨hL ▸ hl,s1,e,h.h r hr⟩⟩
def Ld (P:Program) (N:Nat) (ops:Array Oper) (c:Nat) (s:St):Option St:=(ops[c]?).bind (fun o=>match o.op with | .pick ..=>none | .panic _=>none | .call ⟨.value _,_,_⟩=>none | _=>if Ku N o.dst then (VA P o (look s.T) (look s.H)).map (fun u=>Ju s o.dst u) else none)
theorem WJ (L':List Nat) (hL:UA ops L c=L') (h0:(Ld P N ops c s).isSome=true) (hl:Jn P ops L' ((Ld P N ops c s).getD s)) (h:zX a P N ops Q L Ch ((Ld P N ops c s).getD s)):zX a P N ops Q L ((c,[]) :: Ch) s:=by
 obtain ⟨s',h1⟩:=Ls.1 h0
 rw [h1] at hl h
 simp only [Option.getD_some] at hl h
 unfold Ld at h1
 refine ⟨fun r hr=>?_⟩
 simp only [jc]
 cases ho:ops[c]? with
 | none=>rw [ho] at h1; cases h1
 | some o =>
  simp only [ho,Z8] at h1 ⊢
  unfold XN
  split at h1
  ·cases h1
  ·cases h1
  ·cases h1
  ·rename_i n1 n2 n3
   split at h1
   rotate_left
   ·cases h1
   rename_i hdl
   obtain ⟨u,hu,rfl⟩:=FQ.1 h1
   have key:EP N o s (fun s'=>Jn P ops (UA ops L c) s'∧∃ s'',LU P N ops [] s'=some s''∧jc P N ops (qh ops Q r) L Ch s'') (VA P o (look s.T) (look s.H)):=by
    rw [hu]
    exact ⟨hdl,hL ▸ hl,_,rfl,h.h r hr⟩
   split
   ·rename_i he; exact absurd he (n1 _ _ _)
   ·rename_i he; exact absurd he (n2 _)
   ·rename_i he; exact absurd he (n3 _ _ _)
   ·exact .inl key
theorem KY (hf:(ops[c]?).bind (fun o=>(Z4 (look s.T) o.op).map fun p=>(p.1,p.2,o.dst))=some (f,args,dst)) (hb:YZ P f=true) (h:Dr a P N f args dst s (fKh P N ops Q L Ch c hs) (qh ops Q)):zX a P N ops Q L ((c,hs) :: Ch) s:=by
 refine ⟨fun r hr=>?_⟩
 simp only [jc]
 cases ho:ops[c]? with
 | none=>rw [ho] at hf; cases hf
 | some o =>
  simp only [ho,Z8] at hf ⊢
  obtain ⟨⟨f0,args0⟩,h1,h2⟩:=FQ.1 hf
  simp only [Prod.mk.injEq] at h2
  obtain ⟨rfl,rfl,rfl⟩:=h2
  exact X7 h1 hb (h.h r hr)
theorem zY {v:AV} (s':St) (e:PD ops s=s') (h:Zy a Q (.panic v) s'):Zy a (qh ops Q) (.panic v) s:=by
 subst e
 exact ⟨fun r hr=>h.h r hr⟩
theorem SL {b:Bool} {u:Kn} (L':List Nat) (ho:ops[c]?=some o) (hL:UA ops L c=L') (hp:(plain o.op&&Ku N o.dst)=true) (hu:b=true→VA P o (look s.T) (look s.H)=some u) (hl:b=true→Jn P ops L' (Ju s o.dst u)) (h:zX a P N ops Q L Ch (Ju s o.dst u)):zX (cond b a none) P N ops Q L ((c,[]) :: Ch) s:=by
 cases b with
 | false=>exact ⟨fun r hr=>by cases hr⟩
 | true =>
  refine ⟨fun r hr=>?_⟩
  simp only [Ki] at hp
  simp only [jc,ho]
  unfold XN
  have key:EP N o s (fun s'=>Jn P ops (UA ops L c) s'∧∃ s'',LU P N ops [] s'=some s''∧jc P N ops (qh ops Q r) L Ch s'') (VA P o (look s.T) (look s.H)):=by
   rw [hu rfl]
   exact ⟨hp.2,hL ▸ hl rfl,_,rfl,h.h r hr⟩
  split
  ·rename_i he; rw [he] at hp; cases hp.1
  ·rename_i he; rw [he] at hp; cases hp.1
  ·rename_i he; rw [he] at hp; cases hp.1
  ·exact .inl key
theorem tq {m:Option V} {k:V→Option R} {X:V→AV} {K:R→St→Prop} (C:List eX) (hc:∀ v,m=some v→Q0 P f args' (.ret (X v))) (ha:OZ (look s.H) C args=some args') (hb:(Ku N dst&&YH args')=true) (hx:∀ v,flat (X v)=true)
  (h:∀ v,F7 (k v) K (St.put s dst (X v))):Dr (m.bind k) P N f args dst s K Q:=by
 refine ⟨fun r hr=>?_⟩
 obtain ⟨v,hv,hk⟩:=Option.bind_eq_some_iff.1 hr
 simp only [Ki] at hb
 exact OV (hc v hv) (Df ha) hb.2 (ZR hb.1) ⟨hx v,(h v).h r hk⟩
end
def Fv {K V:Type} (eq:K→K→Bool) (k:K):List (K × V)→Option V
 | []=>none
 | (k',v) :: r=>bif eq k k' then some v else Fv eq k r
def Qq {K V:Type} (eq:K→K→Bool) (k:K) (v:V):List (K × V)→List (K × V)
 | []=>[(k,v)]
 | (k',v') :: r=>bif eq k k' then (k,v) :: r else (k',v') :: Qq eq k v r
def QJ {K V:Type} (eq:K→K→Bool) (k:K) (z:V) (m:List (K × V)):V:=(Fv eq k m).getD z
def BL {K V:Type} (eq:K→K→Bool) (k:K) (m:List (K × V)):Bool:=(Fv eq k m).isSome
def JH {K V:Type} (ke:K→Value) (ve:V→PV) (m:List (K × V)):List (Value × PV):=m.map fun p=>(ke p.1,ve p.2)
section
variable {P:Program} {o:Oper} {T:Nat→Option AV} {h:Qv} {K V:Type} {kt e t:TypeId} {ke:K→Value} {ve:V→PV} {eq:K→K→Bool}
theorem O1 (hk:∀ k,R3 P kt (ke k)=true) (he:∀ a b,eqV P 4 kt (ke a) (ke b)=some (eq a b)) (k:K):∀ (m:List (K × V)) (i:Nat),
  (∃ j,XO P kt (ke k) i (JH ke ve m)=some ((Fv eq k m).map fun v=>(j,ve v))∧(Fv eq k m ≠ none→∀ v,JH ke ve (Qq eq k v m)=(JH ke ve m).set (j - i) (ke k,ve v)∧i≤j))∧(Fv eq k m=none→∀ v,JH ke ve (Qq eq k v m)=JH ke ve m++[(ke k,ve v)])
 | [],i=>⟨⟨0,rfl,fun h=>absurd rfl h⟩,fun _ v=>rfl⟩
 | (k',v') :: m,i=>by
  obtain ⟨⟨j,h1,h2⟩,h3⟩:=O1 hk he k m (i+1)
  have e1:XO P kt (ke k) i (JH ke ve ((k',v') :: m))=match (if R3 P kt (ke k') then eqV P 4 kt (ke k) (ke k') else none) with | some true=>some (some (i,ve v')) | some false=>XO P kt (ke k) (i+1) (JH ke ve m) | none=>none:=rfl
  have e2:Fv eq k ((k',v') :: m)=bif eq k k' then some v' else Fv eq k m:=rfl
  have e3:∀ v,Qq eq k v ((k',v') :: m)=bif eq k k' then (k,v) :: m else (k',v') :: Qq eq k v m:=fun _=>rfl
  rw [hk k',if_pos rfl,he] at e1
  cases hq:eq k k'
  ·rw [hq] at e1 e2
   simp only [hq,cond_false] at e1 e2 e3
   rw [e2]
   refine ⟨⟨j,by rw [e1,h1],fun hn v=>?_⟩,fun hn v=>?_⟩
   ·obtain ⟨g1,g2⟩:=h2 hn v
    refine ⟨?_,by omega⟩
    rw [e3,show JH ke ve ((k',v') :: Qq eq k v m)=(ke k',ve v') :: JH ke ve (Qq eq k v m) from rfl,g1,show JH ke ve ((k',v') :: m)=(ke k',ve v') :: JH ke ve m from rfl,show j - i=(j - (i+1))+1 from by omega]
    rfl
   ·rw [e3,show JH ke ve ((k',v') :: Qq eq k v m)=(ke k',ve v') :: JH ke ve (Qq eq k v m) from rfl,h3 hn v]
    rfl
  ·rw [hq] at e1 e2
   simp only [hq,cond_true] at e1 e2 e3
   rw [e2]
   refine ⟨⟨i,e1,fun _ v=>⟨?_,Nat.le_refl _⟩⟩,fun hn=>by cases hn⟩
   rw [e3,Nat.sub_self]
   rfl
theorem SN {d:Nat} {rsv:Option Operand} (ho:o.op=.makeMap t none) (hd:o.dst=some d) (hb:h d=none):VA P o T h=some (.mv d,some (d, .mp []),[d]):=by
 simp [VA,ho,R5,hd,hb]
theorem Zx {x ix:Operand} {ok:Bool} {b:Nat} {m:List (K × V)} {k:K} {z0:V} (ho:o.op=.lookup t x ix ok) (ht:P.underlying t=some (.map kt e)) (hx:Zr T x=some (.mv b)) (hi:(Zr T ix).bind Nb=some (ke k)) (hb:h b=some (.mp (JH ke ve m))) (hkt:(P.underlying kt).isSome=true)
  (hk:∀ k,R3 P kt (ke k)=true) (he:∀ a b,eqV P 4 kt (ke a) (ke b)=some (eq a b)) (hz:((P.info? e).bind (·.zero)).map Es=some (avP (ve z0))):VA P o T h=some (R6 ok (avP (ve (QJ eq k z0 m))) (BL eq k m),none,[b]):=by
 obtain ⟨kv,hi1,hi2⟩:=Option.bind_eq_some_iff.1 hi
 obtain ⟨kd,hkd⟩:=Ls.1 hkt
 obtain ⟨z,hz1,hz2⟩:=FQ.1 hz
 obtain ⟨⟨j,h1,h2⟩,h3⟩:=O1 (P:=P) (kt:=kt) (ke:=ke) (ve:=ve) (eq:=eq) hk he k m 0
 unfold QJ BL
 cases hg:Fv eq k m with
 | none =>
  rw [hg] at h1
  simp only [Option.map_none] at h1
  simp [VA,RA,ho,JV,ht,hx,hi1,hb,hi2,hkd,hk,h1,hz1,hz2]
 | some v =>
  rw [hg] at h1
  simp only [Option.map_some] at h1
  simp [VA,RA,ho,JV,ht,hx,hi1,hb,hi2,hkd,hk,h1]
theorem Yk {x ix y:Operand} {b:Nat} {m:List (K × V)} {k:K} {v:V} (ho:o.op=.mapUpdate t x ix y) (ht:P.underlying t=some (.map kt e)) (hx:Zr T x=some (.mv b)) (hi:(Zr T ix).bind Nb=some (ke k)) (hy:(Zr T y).bind pvO=some (ve v)) (hb:h b=some (.mp (JH ke ve m))) (hkt:(P.underlying kt).isSome=true)
  (hk:∀ k,R3 P kt (ke k)=true) (he:∀ a b,eqV P 4 kt (ke a) (ke b)=some (eq a b)):VA P o T h=some (.p (.val undef),some (b, .mp (JH ke ve (Qq eq k v m))),[b]):=by
 obtain ⟨kv,hi1,hi2⟩:=Option.bind_eq_some_iff.1 hi
 obtain ⟨kd,hkd⟩:=Ls.1 hkt
 obtain ⟨y0,hy1,hy2⟩:=Option.bind_eq_some_iff.1 hy
 obtain ⟨⟨j,h1,h2⟩,h3⟩:=O1 (P:=P) (kt:=kt) (ke:=ke) (ve:=ve) (eq:=eq) hk he k m 0
 cases hg:Fv eq k m with
 | none =>
  rw [hg] at h1
  simp only [Option.map_none] at h1
  rw [h3 hg v]
  simp [VA,RA,ho,YO,ht,hx,hi1,hy1,hy2,hb,hi2,hkd,hk,h1]
 | some v0 =>
  rw [hg] at h1
  simp only [Option.map_some] at h1
  rw [(h2 (by rw [hg]; simp) v).1]
  simp [VA,RA,ho,YO,ht,hx,hi1,hy1,hy2,hb,hi2,hkd,hk,h1]
end
section
variable {R V E:Type} {a a1 a2:Option R} {P:Program} {N:Nat} {ro:Option Nat} {ops:Array Oper} {o:Oper} {l:List Oper} {s s' s0 s1:St} {Q:R→AX→St→Prop} {K:R→St→Prop} {f g:FuncId} {args args':List AV} {dst:Option Tmp}
def iR (hc:List (Nat × Blk)) (ρ:Nat→Nat) (s:St) (dst:Option Tmp) (K:R→St→Prop) (Q:R→AX→St→Prop) (r:R):Z0→Qv→Prop:=fun x h'=>∃ hc',h'=look hc'∧H9 ρ hc hc' s.H∧fU (K r) (Q r) s dst ρ hc' x
def dI (P:Program) (fn:Func) (hc:List (Nat × Blk)) (N:Nat) (g:FuncId) (LD:List (Nat × Nat)) (ρ:Nat→Nat) (s:St) (dst:Option Tmp) (K:R→St→Prop) (Q:R→AX→St→Prop):R→AX→St→Prop :=
 fun r=>wW P fn hc N g (FZ LD) (iR hc ρ s dst K Q r)
def je (T:List (Nat × AV)):List Tmp→List (Nat × Nat)→Bool
 | [],[]=>true
 | t :: ts,p :: L=>(match look T t with | some (.ptr b 0)=>b == p.1 | _=>false)&&je T ts L
 | _,_=>false
theorem SS {T:List (Nat × AV)}:∀ {ts:List Tmp} {L:List (Nat × Nat)},je T ts L=true→ts.map (look T)=L.map fun p=>some (.ptr p.1 0)
 | [],[],_=>rfl
 | [],_ :: _,h=>by cases h
 | _ :: _,[],h=>by cases h
 | t :: ts,p :: L,h=>by
  simp only [je,Ki] at h
  simp only [List.map_cons,List.cons.injEq]
  refine ⟨?_,SS h.2⟩
  have h1:=h.1
  split at h1
  ·rename_i b he
   rw [he,eq_of_beq h1]
  ·cases h1
def bX:List (Nat × Blk)→Bool
 | []=>true
 | (_,k) :: l=>(match k.ob with | none=>true | some .mp=>true | _=>false)&&bX l
theorem zZ {ρ:Nat→Nat}:∀ {H:List (Nat × Blk)},bX H=true→∀ c k x,look H c=some k→k.ob=some x→(some x).map (y5 ρ)=some x
 | [],_,c,k,x,hk,_=>by simp [look] at hk
 | (b,k0) :: H,hn,c,k,x,hk,hx=>by
  simp only [bX,Ki] at hn
  simp only [look] at hk
  by_cases e:b=c
  ·simp only [e,if_true,Zd] at hk
   subst hk
   have h1:=hn.1
   rw [hx] at h1
   cases x with
   | mp=>rfl
   | lp=>cases h1
  ·rw [if_neg e] at hk
   exact zZ hn.2 c k x hk hx
def mH (tbs:List Tmp) (LD:List (Nat × Nat)) (s:St):Bool:=je s.T tbs LD&&eG LD s.H&&bX s.H
theorem Cc {fn:Func} {n:Nat} {hc:List (Nat × Blk)} (L:List (Nat × Nat)) (C:List Conv) (cb:List (Nat × List Conv)) (F:F3 fn g) (LD:List (Nat × Nat)) (hf:P.funcs[f]?=some fn) (hn:fn.ntmps=n) (hl:Nat.ble args'.length n=true)
  (hargs:Ed C args=VD (Vs L) args') (hok:Jv N dst (Vs L) hc args'=true) (hsub:F9 s.H (Vs L) cb hc=hc.map (fun p=>some (Z9 (Vs L) p.2))) (hbg:YZ P g=true) (hm:P.follows .mixedOrders=true)
  {id:Nat} {ops:Array Oper} (hr1:F.r1=.region id ops false) (h1:(Tm P n ops false ⟨WQ 0 args',hc⟩).isSome=true) (h2:mH F.tbs LD (Py P n ops false ⟨WQ 0 args',hc⟩)=true)
  (h:QU a P n none F.rest ⟨(F.tc, .fn (.func g) [] (FZ LD)) :: sgT LD (Py P n ops false ⟨WQ 0 args',hc⟩).T,zL LD (Py P n ops false ⟨WQ 0 args',hc⟩).H⟩ (dI P fn hc n g LD (Vs L) s dst K Q)):Dr a P N f args dst s K Q:=by
 subst hn
 refine ⟨fun r hr=>?_⟩
 obtain ⟨s1,hs1⟩:=Ls.1 h1
 have e:Py P fn.ntmps ops false ⟨WQ 0 args',hc⟩=s1:=by simp [Py,hs1]
 rw [e] at h2 h
 simp only [mH,Ki] at h2
 simp only [Jv,Ki] at hok
 obtain ⟨⟨⟨⟨k1,k2⟩,k3⟩,k4⟩,k5⟩:=hok
 have hA:Wz P f args' (look hc) (iR hc (Vs L) s dst K Q r):=by
  refine OX F LD hf (Nat.le_of_ble_eq_true hl) hbg ?_
  rw [hr1]
  exact Ny hm hs1 ⟨rfl,SS h2.1.1,h2.1.2,zZ h2.2,h.h r hr⟩
 refine D6 (Vs L) hA (hargs ▸ Xt C args) k2 (fun c hc=>by simpa using List.all_eq_true.1 k3 c hc) (F8 k4) (Ua hsub) (X9 k5) (ZR k1) ?_
 rintro x h' ⟨hc',rfl,hd,hk⟩
 refine ⟨hc',Kh (Vs L) hc' s.H,rfl,hd,fun _=>rfl,?_⟩
 cases x with
 | ret x=>exact hk
 | panic x=>exact hk
def clQ (P:Program) (gn:Func) (hcg:List (Nat × Blk)) (ρg:Nat→Nat) (s:St) (J:R→AX→St→Prop):R→AX→St→Prop :=
 fun r=>sU P gn hcg (fun x h'=>∃ hc',h'=look hc'∧H9 ρg hcg hc' s.H∧(match x with | .ret _=>J r .ret ⟨s.T,Kh ρg hc' s.H⟩ | .panic _=>False))
def QaG:AX→AV
 | .panic v=>v
 | _=>y7
def QcD:AX→Bool
 | .exit _=>true
 | _=>false
theorem Jw {fn:Func} {hc:List (Nat × Blk)} {ρ:Nat→Nat} {LD:List (Nat × Nat)} {x:AX} (Cr:Ko P g) (Lg:List (Nat × Nat)) (hcg:List (Nat × Blk)) (rv':AV) (caps':List AV) (cb:List (Nat × List Conv)) (hx:QcD x=false) (hl:Nat.ble caps'.length Cr.fn.ntmps=true)
  (hargs:QaG x :: FZ LD=VD (Vs Lg) (rv' :: caps')) (hok:Jv N none (Vs Lg) hcg (rv' :: caps')=true) (hsub:F9 s.H (Vs Lg) cb hcg=hcg.map (fun p=>some (Z9 (Vs Lg) p.2)))
  (h:QU a P Cr.fn.ntmps none Cr.rest ⟨(Cr.d2,rv') :: (Cr.d1,rv') :: WQ 0 caps',hcg⟩ (clQ P Cr.fn hcg (Vs Lg) s (zT P fn hc ρ s0 dst K Q))):Zy a (dI P fn hc N g LD ρ s0 dst K Q) x s:=by
 refine ⟨fun r hr=>?_⟩
 simp only [Jv,Ki] at hok
 obtain ⟨⟨⟨⟨k1,k2⟩,k3⟩,k4⟩,k5⟩:=hok
 have key:iV P N g (QaG x :: FZ LD) s (PQ P fn hc (iR hc ρ s0 dst K Q r)):=by
  refine xD (Vs Lg) (zK Cr (Nat.le_of_ble_eq_true hl) (h.h r hr)) (by rw [hargs]; exact zG _) k2 (fun c hc=>by simpa using List.all_eq_true.1 k3 c hc) (F8 k4) (Ua hsub) (X9 k5) ?_
  rintro y h' ⟨hc',rfl,hd,hk⟩
  refine ⟨hc',Kh (Vs Lg) hc' s.H,rfl,hd,fun _=>rfl,?_⟩
  cases y with
  | ret y=>exact hk
  | panic y=>exact hk
 cases x with
 | normal=>exact key
 | ret=>exact key
 | panic v=>exact key
 | exit i=>cases hx
theorem mJ {gn:Func} {hcg:List (Nat × Blk)} {ρg:Nat→Nat} {J:R→AX→St→Prop} {x:AX} (hx:x=.ret∨x=.normal) (bs:List Nat) (cb:List (Nat × List Conv)) (h:Td P gn (look s1.T) (look s1.H)=some (.tup []))
  (hok:DI ρg hcg (KO cb s1.H bs) s (.tup [])=true) (hk:Zy a J .ret ⟨s.T,Kh ρg (KO cb s1.H bs) s.H⟩):Zy a (clQ P gn hcg ρg s J) x s1:=by
 simp only [DI,DF,Ki] at hok
 refine ⟨fun r hr=>?_⟩
 have:PQ P gn hcg (fun x h'=>∃ hc',h'=look hc'∧H9 ρg hcg hc' s.H∧(match x with | .ret _=>J r .ret ⟨s.T,Kh ρg hc' s.H⟩ | .panic _=>False)) s1 :=
  ⟨_,_,KO cb s1.H bs,h,le_refl _,hok.1.1.1,VE hok.1.1.2,hok.1.2,_,rfl,Xx hok.2,hk.h r hr⟩
 rcases hx with rfl | rfl <;> exact this
theorem mK {gn:Func} {hcg:List (Nat × Blk)} {ρg:Nat→Nat} {J:R→AX→St→Prop} (bs:List Nat) (cb:List (Nat × List Conv)) (h:Td P gn (look s1.T) (look s1.H)=some (.tup []))
  (hok:DI ρg hcg (KO cb s1.H bs) s (.tup [])=true) (hk:Zy a J .ret ⟨s.T,Kh ρg (KO cb s1.H bs) s.H⟩):Zy a (clQ P gn hcg ρg s J) .ret s1:=mJ (.inl rfl) bs cb h hok hk
theorem BM {gn:Func} {hcg:List (Nat × Blk)} {ρg:Nat→Nat} {J:R→AX→St→Prop} (bs:List Nat) (cb:List (Nat × List Conv)) (h:Td P gn (look s1.T) (look s1.H)=some (.tup []))
  (hok:DI ρg hcg (KO cb s1.H bs) s (.tup [])=true) (hk:Zy a J .ret ⟨s.T,Kh ρg (KO cb s1.H bs) s.H⟩):Zy a (clQ P gn hcg ρg s J) .normal s1:=mJ (.inr rfl) bs cb h hok hk
end
section
variable {R V:Type} {a a1 a2:Option R} {P:Program} {N:Nat} {ro:Option Nat} {c:Code} {s s' s1:St} {Q:R→AX→St→Prop}
def rdV (P:Program) (N:Nat) (ro:Option Nat) (c:Code):Nat→(AX→St→Prop)→AX→St→Prop
 | 0,Q=>andThen (fun _=>False) Q
 | k+1,Q=>andThen (fun s'=>Ex P N ro c s' (rdV P N ro c k Q)) Q
def aa (P:Program) (N:Nat) (ro:Option Nat) (c:Code) (k:Nat) (Q:R→AX→St→Prop):R→AX→St→Prop:=fun r=>rdV P N ro c k (Q r)
theorem xV {Q:AX→St→Prop} {D:DB} {M0:QR} {φ0:Nat→Nat} {h0:Qv} {w0:World}:∀ (k:Nat) (s:St) (φ:Nat→Nat) (a:Act) (w:World),Ex P N ro c s (rdV P N ro c k Q)→Zw φ M0 N D (look s.T) (look s.H) a w→Zg φ0 h0 w0 φ (look s.H) w →
  Code.roundsIn (wd ro) 0 P c (Post N D Q φ0 M0 h0 w0) (k+1) a w:=by
 intro k
 induction k with
 | zero =>
  intro s φ a w h r E
  rw [roundsIn_succ]
  refine wpIn_mono (h φ M0 D a w r) ?_
  rintro e a' w' ⟨φ',x,s',hq,r',E',hx⟩
  cases x with
  | normal=>exact hq.elim
  | ret=>simp only [Xo] at hx; subst hx; exact ⟨φ', .ret,s',hq,r',E.trans E',rfl⟩
  | exit i=>simp only [Xo] at hx; subst hx; exact ⟨φ', .exit i,s',hq,r',E.trans E',rfl⟩
  | panic p=>obtain ⟨v,rfl,hv⟩:=hx; exact ⟨φ', .panic p,s',hq,r',E.trans E',v,rfl,hv⟩
 | succ k ih =>
  intro s φ a w h r E
  rw [roundsIn_succ]
  refine wpIn_mono (h φ M0 D a w r) ?_
  rintro e a' w' ⟨φ',x,s',hq,r',E',hx⟩
  cases x with
  | normal=>simp only [Xo] at hx; subst hx; exact ih s' φ' a' w' hq r' (E.trans E')
  | ret=>simp only [Xo] at hx; subst hx; exact ⟨φ', .ret,s',hq,r',E.trans E',rfl⟩
  | exit i=>simp only [Xo] at hx; subst hx; exact ⟨φ', .exit i,s',hq,r',E.trans E',rfl⟩
  | panic p=>obtain ⟨v,rfl,hv⟩:=hx; exact ⟨φ', .panic p,s',hq,r',E.trans E',v,rfl,hv⟩
theorem vI {φ:Nat→Nat} {h:Qv} {w:World}:Zg φ h w φ h w:=FR rfl rfl rfl rfl
theorem Yx (k:Nat) (h:QU a P N ro c s (aa P N ro c k Q)):QU a P N ro (.loop c) s Q :=
 ⟨fun r hr φ M0 D a w hr2=>wpIn_loop_rounds (k+1) (xV k s φ a w (h.h r hr) hr2 vI)⟩
theorem UB (K:Gf) (s':St) {k:Nat} (hw:F4 K s=some s') (h:QU a P N ro c s' (aa P N ro c k Q)):Zy a (aa P N ro c (k+1) Q) .normal s:=⟨fun r hr=>(sP (Q:=aa P N ro c k Q) K s' hw h).h r hr⟩
theorem ae {k:Nat} (h:Zy a Q .ret s):Zy a (aa P N ro c k Q) .ret s:=⟨fun r hr=>by cases k <;> exact h.h r hr⟩
theorem LV {k i:Nat} (h:Zy a Q (.exit i) s):Zy a (aa P N ro c k Q) (.exit i) s:=⟨fun r hr=>by cases k <;> exact h.h r hr⟩
theorem QaH {k:Nat} {p:AV} (h:Zy a Q (.panic p) s):Zy a (aa P N ro c k Q) (.panic p) s:=⟨fun r hr=>by cases k <;> exact h.h r hr⟩
end
def xW (M:QR) (k:Nat):QR:=fun r o=>M r o∨r=k
theorem ND (φ:Nat→Nat) (h:Qv) (w:World):YM φ h w φ h w:=Hf rfl
theorem mM {N:Nat} {D:DB} {φ:Nat→Nat} {M0 M1:QR} {T:Nat→Option AV} {h:Qv} {a:Act} {w:World} (hs:∀ r o,M0 r o→M1 r o) (r:Zw φ M1 N D T h a w):Zw φ M0 N D T h a w:=by
 have hk:∀ r o v,w.cell? ⟨r,o,none⟩=some v→¬ MM φ h M1 r o→w.cell? ⟨r,o,none⟩=some v∧¬ MM φ h M0 r o:=fun r o v hc hm=>⟨hc,fun x=>hm (x.imp id (hs r o))⟩
 exact ⟨r.dfs,r.siz,⟨r.hp.inj,fun b k hb=>ZW hk (ND φ h w) rfl (r.hp.blk b k hb),fun b hb o hm=>r.hp.fr b hb o (hs _ _ hm),fun x o hx=>r.hp.lt x o (hs _ _ hx),r.hp.gm.sub fun x o hm=>hm.imp id (hs x o)⟩,
  fun t x ht=>⟨(r.tm t x ht).1,(QX hk (ND φ h w)).1 _ _ (r.tm t x ht).2⟩⟩
theorem xX {N:Nat} {D:DB} {Q:AX→St→Prop} {φ:Nat→Nat} {M0 M1:QR} {h:Qv} {w w':World} {e:Exit} {a':Act} (hs:∀ r o,M0 r o→M1 r o) (p:Post N D Q φ M1 h w e a' w'):Post N D Q φ M0 h w e a' w':=by
 obtain ⟨φ',x,s',h1,h2,h3,h4⟩:=p
 refine ⟨φ',x,s',h1,mM hs h2,h3,?_⟩
 cases x with
 | panic v =>
  obtain ⟨u,e1,e2⟩:=h4
  exact ⟨u,e1,(QX (fun r o v hc hm=>⟨hc,fun x=>hm (x.imp id (hs r o))⟩) (ND _ _ _)).1 _ _ e2⟩
 | _=>exact h4
theorem I7 {φ:Nat→Nat} {h:Qv} {w:World} {M0:QR} {ob:Obj} (r:ZN φ h w M0) (hC:Clear φ h w 1):Zg φ h w φ h (w.alloc ob)∧YM φ h w φ h (w.alloc ob):=by
 have hold:∀ x,x < w.heap.size→(w.alloc ob).heap[x]?=w.heap[x]?:=fun x hx=>by show (w.heap.push ob)[x]?=_; rw [Array.getElem?_push,if_neg zo]
 have hs:(w.alloc ob).heap.size≤w.heap.size+1:=by show (w.heap.push ob).size≤_; simp
 have hh:∀ b k,h b=some k→(w.alloc ob).heap[φ b]?=w.heap[φ b]?:=fun b k hb=>hC.lt r hs hold (by rw [hb]; simp)
 refine ⟨⟨rfl,rfl,rfl,by show _≤(w.heap.push ob).size; simp,fun x hx _=>hold x hx,fun x o hx _=>by simp [World.cell?,hold x hx],fun _ _ _ x=>x,fun _ _ _ _ x=>⟨⟨_,x⟩,rfl⟩,?_,?_,fun _ _ _ _ h1 h2=>⟨⟨_,h1,h2⟩,rfl⟩⟩,?_,?_,?_,fun _ _ _ h1 h2=>⟨⟨_,h1,h2⟩,rfl⟩⟩
 ·exact fun t ty S n _ hc=>⟨n,hc,Nat.le_refl _,fun _=>YJ rfl (hh _ _ hc)⟩
 ·exact fun t ty S n _ hc=>⟨n,hc,Nat.le_refl _,fun _=>⟨rfl,fun c hcc=>⟨c,by rw [hh _ _ hc]; exact hcc,rfl⟩⟩⟩
 ·exact fun b ty cs hc=>⟨⟨ty,cs,hc⟩,rfl⟩
 ·exact fun t ty S n hc=>⟨n,hc,Nat.le_refl _,fun _=>YJ rfl (hh _ _ hc)⟩
 ·exact fun t ty S n hc=>⟨n,hc,Nat.le_refl _,fun _=>⟨rfl,fun c hcc=>⟨c,by rw [hh _ _ hc]; exact hcc,rfl⟩⟩⟩
theorem xY {N:Nat} {D:DB} {φ:Nat→Nat} {M0:QR} {T:Nat→Option AV} {h:Qv} {b:Act} {w:World} {ob:Obj} {d:Tmp} {v:Value} (r:Zw φ M0 N D T h b w) (hT:T d=none) (hC:Clear φ h w 1):Zw φ (xW M0 w.heap.size) N D T h (b.put (some d) v) (w.alloc ob):=by
 obtain ⟨E,X⟩:=I7 (ob:=ob) r.hp hC
 have hk:∀ x o u,w.cell? ⟨x,o,none⟩=some u→¬ MM φ h M0 x o→(w.alloc ob).cell? ⟨x,o,none⟩=some u∧¬ MM φ h (xW M0 w.heap.size) x o:=by
  intro x o u hc hm
  have hx:=CZ hc
  obtain ⟨h1,h2⟩:=E.keeps M0 x o u hc hm
  refine ⟨h1,fun hh=>?_⟩
  rcases hh with hh | hh | hh
  ·exact hm (.inl hh)
  ·exact hm (.inr hh)
  ·omega
 have hold:∀ x,x < w.heap.size→(w.alloc ob).heap[x]?=w.heap[x]?:=fun x hx=>by show (w.heap.push ob)[x]?=_; rw [Array.getElem?_push,if_neg zo]
 refine ⟨r.dfs.keep E,by simp [Act.put,r.siz],⟨r.hp.inj,fun c k hb=>ZW hk X (hC.lt r.hp (w':=w.alloc ob) (by show (w.heap.push ob).size≤_; simp) hold (by rw [hb]; simp)) (r.hp.blk c k hb),?_,?_,(r.hp.gm.evol E).w,fun g hg o hm=>hm.elim (fun hm=>r.hp.gm.m g hg o (.inl hm)) (fun hm=>hm.elim (fun hm=>r.hp.gm.m g hg o (.inr hm)) (fun e=>by have:=Ot r.hp.gm.w g hg; omega))⟩,?_⟩
 ·intro c hc o hm
  rcases hm with hm | hm
  ·exact r.hp.fr c hc o hm
  ·rcases hC c hc with h1 | h1 <;> omega
 ·intro x o hx
  show x < (w.heap.push ob).size
  rw [Array.size_push]
  rcases hx with hx | hx
  ·have:=r.hp.lt x o hx; omega
  ·omega
 ·intro t x ht
  refine ⟨(r.tm t x ht).1,?_⟩
  have hne:¬ d=t:=fun e=>by rw [e,ht] at hT; cases hT
  have:(b.put (some d) v).tmps.getD t undef=b.tmps.getD t undef:=by simp [Act.put,Array.getElem?_setIfInBounds_ne hne]
  rw [this]
  exact (QX hk X).1 _ _ (r.tm t x ht).2
theorem vJ {P:Program} {N:Nat} {D:DB} {φ φ0:Nat→Nat} {M0:QR} {h0:Qv} {w0:World} {s:St} {b:Act} {w:World} {o:Oper} {d k ty:Nat} {i:TypeInfo} {z:Value} {u:Kn} (r:Zw φ (xW M0 k) N D (look s.T) (look s.H) b w) (E:Zg φ0 h0 w0 φ (look s.H) w)
  (hk0:w0.heap.size≤k) (hkM:∀ x,¬ M0 k x) (hop:o.op=.alloc ty) (hd:o.dst=some d) (hi:P.info? ty=some i) (hz:i.zero=some z) (hN:d < N) (hb:b.tmps[d]?=some (.pointer (some ⟨k,0,none⟩))) (hw:w.heap[k]?=some (.cells z.cells ty (0,0)))
  (hu:VA P o (look s.T) (look s.H)=some u) :
  Zw (QK φ d k) M0 N D (look (Ju s o.dst u).T) (look (Ju s o.dst u).H) b w∧Zg φ0 h0 w0 (QK φ d k) (look (Ju s o.dst u).H) w:=by
 simp only [VA,hop,hi,hz,AR,hd] at hu
 cases hcs:cellsOf (Es z) with
 | none=>rw [hcs] at hu; cases hu
 | some cs =>
  rw [hcs] at hu
  dsimp only at hu
  cases hn:look s.H d with
  | some x=>rw [hn] at hu; cases hu
  | none =>
   rw [hn] at hu
   dsimp only at hu
   cases hu
   have hT:∀ t,look (Ju s o.dst (.ptr d 0,some (d, .box ty cs),[d])).T t=if d=t then some (.ptr d 0) else look s.T t:=fun t=>by simp [Ju,hd,look]
   have hH:look (Ju s o.dst (.ptr d 0,some (d, .box ty cs),[d])).H=upd (look s.H) d (.box ty cs):=by funext c; simp [Ju,look,upd]
   rw [hH]
   have hne:∀ c q,look s.H c=some q→¬ d=c:=fun c q hc e=>by rw [e] at hn; rw [hn] at hc; cases hc
   have hkφ:∀ c,look s.H c ≠ none→φ c ≠ k:=fun c hc e=>r.hp.fr c hc 0 (.inr e)
   have hMM:∀ x y,MM (QK φ d k) (upd (look s.H) d (.box ty cs)) M0 x y→MM φ (look s.H) (xW M0 k) x y:=by
    rintro x y (⟨c,q,h1,h2,h3⟩ | h)
    ·by_cases e:d=c
     ·simp only [QK,e,if_true] at h2
      exact .inr (.inr h2.symm)
     ·simp only [upd,QK,e,if_false] at h1 h2
      exact .inl ⟨c,q,h1,h2,h3⟩
    ·exact .inr (.inl h)
   have X:YM φ (look s.H) w (QK φ d k) (upd (look s.H) d (.box ty cs)) w:=by
    refine ⟨fun c t' cs' hc=>?_,fun t t' S n hc=>?_,fun t t' S n hc=>?_,fun c k' x hc ho=>?_⟩
    ·have:=hne c _ hc
     exact ⟨⟨t',cs',by simp [upd,this,hc]⟩,by simp [QK,this]⟩
    ·have:=hne t _ hc
     exact ⟨n,by simp [upd,this,hc],Nat.le_refl _,fun _=>YJ (by simp [QK,this]) rfl⟩
    ·have:=hne t _ hc
     exact ⟨n,by simp [upd,this,hc],Nat.le_refl _,fun _=>⟨by simp [QK,this],fun c hcc=>⟨c,hcc,rfl⟩⟩⟩
    ·have:=hne c _ hc
     exact ⟨⟨k',by simp [upd,this,hc],ho⟩,by simp [QK,this]⟩
   have hkp:∀ x y v,w.cell? ⟨x,y,none⟩=some v→¬ MM φ (look s.H) (xW M0 k) x y→w.cell? ⟨x,y,none⟩=some v∧¬ MM (QK φ d k) (upd (look s.H) d (.box ty cs)) M0 x y:=fun x y v hc hm=>⟨hc,fun hh=>hm (hMM x y hh)⟩
   refine ⟨⟨?_,r.siz,⟨?_,?_,?_,fun x y hx=>r.hp.lt x y (.inl hx),r.hp.gm.sub hMM⟩,?_⟩,?_⟩
   ·obtain ⟨g0,ms,g1,g2,g3⟩:=r.dfs
    refine ⟨g0,ms,g1,g2,fun x hx=>?_⟩
    obtain ⟨g4,g5,g6⟩:=g3 x hx
    refine ⟨g4,g5,fun c hc e=>?_⟩
    by_cases ec:d=c
    ·simp only [QK,ec,if_true] at e
     rw [← e,hw] at g5
     cases g5
    ·simp only [upd,QK,ec,if_false] at hc e
     exact g6 c hc e
   ·intro c c' hc hc' e
    by_cases e1:d=c <;> by_cases e2:d=c'
    ·exact e1.symm.trans e2
    ·simp only [QK,e1,if_true] at e
     have e3:¬ c=c':=fun x=>e2 (e1.trans x)
     simp only [e3,if_false] at e
     simp only [upd,e2,if_false] at hc'
     exact absurd e.symm (hkφ c' hc')
    ·simp only [QK,e2,if_true] at e
     have e3:¬ c'=c:=fun x=>e1 (e2.trans x)
     simp only [e3,if_false] at e
     simp only [upd,e1,if_false] at hc
     exact absurd e (hkφ c hc)
    ·simp only [upd,QK,e1,e2,if_false] at hc hc' e
     exact r.hp.inj c c' hc hc' e
   ·intro c q hc
    by_cases e:d=c
    ·have h2:q=.box ty cs:=by simp only [upd,e,if_true,Zd] at hc; exact hc.symm
     have h3:QK φ d k c=k:=by simp [QK,e]
     rw [h2,h3]
     exact ⟨z.cells,hw,(QX hkp X).2 _ _ (Vf hcs (VT z)).1⟩
    ·have h1:look s.H c=some q:=by simpa [upd,e] using hc
     have h3:QK φ d k c=φ c:=by simp [QK,e]
     rw [h3]
     exact ZW hkp X rfl (r.hp.blk c q h1)
   ·intro c hc y hm
    by_cases e:d=c
    ·have h3:QK φ d k c=k:=by simp [QK,e]
     rw [h3] at hm
     exact hkM _ hm
    ·have h3:QK φ d k c=φ c:=by simp [QK,e]
     rw [h3] at hm
     exact r.hp.fr c (by simpa [upd,e] using hc) y (.inl hm)
   ·intro t x ht
    rw [hT] at ht
    by_cases e:d=t
    ·simp only [e,if_true,Zd] at ht
     subst ht
     refine ⟨e ▸ hN,?_⟩
     subst e
     rw [Array.getD_eq_getD_getElem?,hb]
     simp only [Qf,Option.getD_some]
     exact ⟨by simp [QK],ty,cs,by simp [upd]⟩
    ·simp only [e,if_false] at ht
     exact ⟨(r.tm t x ht).1,(QX hkp X).1 _ _ (r.tm t x ht).2⟩
   ·refine ⟨E.os,E.tape,E.output,E.size,E.same,E.cell,?_,?_,?_,?_,?_⟩
    ·rintro x y hx ⟨c,q,h1,h2,h3⟩
     by_cases e:d=c
     ·simp only [QK,e,if_true] at h2; omega
     ·simp only [upd,QK,e,if_false] at h1 h2; exact E.mu x y hx ⟨c,q,h1,h2,h3⟩
    ·intro c t' cs' hc hb
     obtain ⟨⟨cs2,h1⟩,h2⟩:=E.kb c t' cs' hc hb
     have:=hne c _ h1
     exact ⟨⟨cs2,by simp [upd,this,h1]⟩,by simp [QK,this,h2]⟩
    ·intro t t' S n ht hb
     obtain ⟨n',h1,h2,h3⟩:=E.kt t t' S n ht hb
     have:=hne t _ h1
     exact ⟨n',by simp [upd,this,h1],h2,fun e=>(by simpa [QK,this] using h3 e)⟩
    ·intro t t' S n ht hb
     obtain ⟨n',h1,h2,h3⟩:=E.kv t t' S n ht hb
     have:=hne t _ h1
     exact ⟨n',by simp [upd,this,h1],h2,fun e=>⟨by simp [QK,this,(h3 e).1],(h3 e).2⟩⟩
    ·intro c k' x hc hb ho
     obtain ⟨⟨k2,h1,h2⟩,h3⟩:=E.ko c k' x hc hb ho
     have:=hne c _ h1
     exact ⟨⟨k2,by simp [upd,this,h1],h2⟩,by simp [QK,this,h3]⟩
def yg (P:Program) (N:Nat) (ops:Array Oper) (Q:AX→St→Prop) (H:List Nat) (q d:Nat):List Nat→St→Prop
 | [],s=>Q .normal s
 | c :: rest,s=>match ops[c]? with
  | some o=>if c=q then (∃ u,Ku N o.dst=true∧VA P o (look s.T) (look s.H)=some u∧Jn P ops (UA ops H c) (Ju s o.dst u)∧yg P N ops Q H q d rest (Ju s o.dst u))
   else XN P N o s (fun s'=>Jn P ops (UA ops H c) s'∧(q ∈ rest→look s'.T d=none)∧yg P N ops Q H q d rest s') Q
  | none=>False
def NE (ops:Array Oper) (q:Nat):List Nat→Bool
 | c :: c' :: r=>(c != q||(ops[c']?).any (waits · q))&&NE ops q (c' :: r)
 | _=>true
def bY (ops:Array Oper) (H Cs:List Nat):Bool :=
 H.all (fun i=>match ops[i]? with | some o=>(match o.op with | .move _=>true | _=>false)&&Cs.all (fun c=>match (ops[c]?).bind (·.dst) with | some e=>!(o.looksAt ops).contains e | none=>true)||!(match o.op with | .move _=>true | _=>false) | none=>false)
def BN (P:Program) (N:Nat) (H:List Nat) (q d:Nat) (Cs:List Nat) (ops:Array Oper):Bool :=
 (List.range ops.size).all (fun i=>H.contains i||Cs.contains i)&&Region.noSelect ops&&Lc ops H&&chainOk ops (Cs.filter (· != q))&&decide Cs.Nodup&&H.all (fun i=>!Cs.contains i) &&
 H.all (fun i=>Cs.all fun c=>!WT ops.size ops i c)&&ops.toList.all (fun o=>o.guard.isNone)&&Hm 0 ops.toList &&
 H.all (fun i=>match (ops[i]?).bind (·.dst) with
  | some d=>(List.range ops.size).all fun j=>i == j||(match ops[j]? with | some oj=>oj.dst != some d&&(waits oj i||!(oj.looksAt ops).contains d) | none=>true)
  | none=>false)&&bY ops H Cs&&NE ops q Cs&&decide (d < N) &&
 Cs.all (fun c=>c == q||(match ops[c]? with | some o=>o.dst != some d | none=>false)) &&
 (match ops[q]? with
  | some o=>o.dst == some d&&(match o.op with | .alloc ty=>(match P.info? ty with | some i=>i.zero.isSome | none=>false) | _=>false)
  | none=>false)
theorem PE {ops:Array Oper} {q:Nat}:∀ (l1:List Nat) (c':Nat) (l2:List Nat),NE ops q (l1++q :: c' :: l2)=true→(ops[c']?).any (waits · q)=true
 | [],c',l2,h=>by
  simp only [List.nil_append,NE,Ki,bne_self_eq_false,Bool.false_or] at h
  exact h.1
 | [x],c',l2,h=>by
  simp only [List.cons_append,List.nil_append,NE,Ki,bne_self_eq_false,Bool.false_or] at h
  exact h.2.1
 | x :: y :: l1,c',l2,h=>by
  simp only [List.cons_append,NE,Ki] at h
  exact PE (y :: l1) c' l2 h.2
theorem xZ {P:Program} {N:Nat} {D:DB} {ops:Array Oper} {φ:Nat→Nat} {M0:QR} {i:Nat} {s:St} {b b':Act} {w w':World} {oi:Oper} {d:Nat} {v:Value} (hl:G7 P ops i s) (hoi:ops[i]?=some oi) (hdi:oi.dst=some d)
  (r':Zw φ M0 N D (look s.T) (look s.H) b' w') (hv:b'.tmps[d]?=some v) (hrun:(execOp b.eval oi).run P w=.ok (.value v) w) (hm:∀ x,oi.op=.move x→b'.eval x=b.eval x):(execOp b'.eval oi).run P w'=.ok (.value v) w':=by
 unfold G7 at hl
 simp only [hoi] at hl
 split at hl
 ·rename_i x d' hop hd'
  have hri':b.eval x=v:=by
   simp [execOp,hop] at hrun
   exact hrun
  simp [execOp,hop,hm x hop,hri']
 ·rename_i d' hd' hop
  obtain ⟨x,h2,h3,h4⟩:=hl
  obtain ⟨v',h5,h6⟩:=SF r' h2
  rw [hdi] at hd'
  cases hd'
  have h7:=(r'.tm d x h3).2
  rw [Array.getD_eq_getD_getElem?,hv] at h7
  have:=I5 h4 h6 h7
  rw [h5,this]
  rfl
 ·cases hl
theorem mO {P:Program} {N:Nat} {D:DB} {ops:Array Oper} {Q Qh:AX→St→Prop} {H Cs:List Nat} {q d:Nat} {φ0:Nat→Nat} {h0:Qv} {w0:World} {M0:QR} (hok:BN P N H q d Cs ops=true) (hqn:∀ s,Qh .normal s→Q .normal s) (hqp:∀ v s,Qh (.panic v) s→Q (.panic v) (PD ops s)) :
  ∀ (fuel:Nat) (done ch:List Nat) (listed:Array Bool) (a b:Act) (w:World) (s:St) (φ:Nat→Nat) (M1:QR),Cs=done++ch→listed.size=ops.size→Ec listed ops.size≤fuel →
   (∀ (j:Nat) o,ops[j]?=some o→listed.getD j false=true→∀ e ∈ o.after,Region.binds .any e=true→listed.getD e.on false=true) →
   (∀ c ∈ done,listed.getD c false=true)→(∀ c ∈ ch,c ≠ q→listed.getD c false=false)→Agree (JO ops H listed) a b→Zw φ M1 N D (look s.T) (look s.H) b w→Zg φ0 h0 w0 φ (look s.H) w →
   (∀ i ∈ H,listed.getD i false=false→∃ o d v,ops[i]?=some o∧o.dst=some d∧b.tmps[d]?=some v∧(execOp b.eval o).run P w=.ok (.value v) w) →
   (q ∈ ch→look s.T d=none∧∀ i ∈ H,listed.getD i false=false→G7 P ops i s) →
   (((q ∈ ch→listed.getD q false=false)∧M1=M0)∨(q ∈ ch∧listed.getD q false=true∧ch.head? ≠ some q∧∃ k o ty i z,M1=xW M0 k∧ops[q]?=some o∧o.op=.alloc ty∧o.dst=some d∧P.info? ty=some i∧i.zero=some z∧b.tmps[d]?=some (.pointer (some ⟨k,0,none⟩))∧w.heap[k]?=some (.cells z.cells ty (0,0))∧w0.heap.size≤k∧∀ x,¬ M0 k x)) →
   yg P N ops Qh H q d ch s→wpAny P .any ops (Post N D Q φ0 M0 h0 w0) fuel listed a w:=by
 simp only [BN,Ki,decide_eq_true_eq] at hok
 obtain ⟨⟨⟨⟨⟨⟨⟨⟨⟨⟨⟨⟨⟨⟨hcov,hns⟩,hpair⟩,hchain⟩,hnd⟩,hdis⟩,hstage⟩,hgu⟩,hdown⟩,hreg⟩,hLr⟩,haft⟩,hdN⟩,hdst0⟩,hqop⟩:=hok
 have hgd:∀ (listed:Array Bool) (i:Nat),i < listed.size→listed.getD i true=listed.getD i false:=fun listed i hi=>by simp [hi]
 have hpan:∀ (X:Tmp→Prop) (a b:Act),Agree X a b→(∀ t,X t→t ∈ Cb ops)→∀ c w,Post N D Qh φ0 M0 h0 w0 (.panic c) b w→Post N D Q φ0 M0 h0 w0 (.panic c) a w:=by
  rintro X a b hag hX c w' ⟨φ',x,s',g1,g2,g3,g4⟩
  cases x with
  | normal=>cases g4
  | exit i=>cases g4
  | ret=>cases g4
  | panic v=>exact ⟨φ', .panic v,PD ops s',hqp _ _ g1,I6 hag hX g2,g3,g4⟩
 have hout:∀ a w,¬ Post N D Qh φ0 M0 h0 w0 .outgrown a w:=fun a w h=>VW ⟨a,w,h⟩
 have hXm:∀ (Hv:List Nat) (listed:Array Bool) (t:Tmp),JO ops Hv listed t→t ∈ Cb ops:=by
  rintro Hv listed t ⟨i,_,_,hd⟩
  cases ho:ops[i]? with
  | none=>rw [ho] at hd; cases hd
  | some o =>
   rw [ho] at hd
   exact List.mem_filterMap.2 ⟨o,by have:=Array.mem_of_getElem? ho; simpa using this,hd⟩
 have hgn:∀ (j:Nat) o,ops[j]?=some o→o.guard=none:=by
  intro j o ho
  have:=List.all_eq_true.1 hgu o (by have:=Array.mem_of_getElem? ho; simpa using this)
  simpa using this
 have hready:∀ (listed:Array Bool),listed.size=ops.size→Region.ready .any ops listed=[]→∀ i,i < ops.size→listed.getD i false=true:=by
  intro listed hsz hr i
  induction i using Nat.strongRecOn with
  | _ i ih =>
   intro hi
   cases hq:listed.getD i false with
   | true=>rfl
   | false =>
    have:i ∈ Region.ready .any ops listed:=by
     rw [mem_ready]
     refine ⟨by rw [hgd listed i zo]; exact hq,ops[i],Array.getElem?_eq_getElem hi,fun e he hb=>?_⟩
     have h1:=VC hdown i ops[i] (by simp [hi]) e he hb
     exact ih e.on zo zo
    rw [hr] at this
    cases this
 have hfin:∀ (listed:Array Bool) (ch:List Nat) (a b:Act) (w:World) (s:St) (φ:Nat→Nat) (M1:QR),(∀ i,i < ops.size→listed.getD i false=true)→(∀ c ∈ ch,c ≠ q→listed.getD c false=false)→Agree (JO ops H listed) a b →
   Zw φ M1 N D (look s.T) (look s.H) b w→Zg φ0 h0 w0 φ (look s.H) w→(((q ∈ ch→listed.getD q false=false)∧M1=M0)∨(q ∈ ch∧ch.head? ≠ some q))→yg P N ops Qh H q d ch s→Post N D Q φ0 M0 h0 w0 .normal a w:=by
  intro listed ch a b w s φ M1 hall hch hag r E hM hx
  have hab:a=b:=jd hag (by
   rintro t ⟨i,hi,hl,hd⟩
   cases ho:ops[i]? with
   | none=>rw [ho] at hd; cases hd
   | some o=>rw [hall i (Rn.1 ho).1] at hl; cases hl)
  subst hab
  cases ch with
  | nil =>
   rcases hM with ⟨_,rfl⟩ | ⟨h,_⟩
   ·exact ⟨φ, .normal,s,hqn _ hx,r,E,rfl⟩
   ·cases h
  | cons c ch =>
   exfalso
   simp only [yg] at hx
   cases ho:ops[c]? with
   | none=>rw [ho] at hx; exact hx
   | some o =>
    have hc:=hall c (Rn.1 ho).1
    by_cases hcq:c=q
    ·rcases hM with ⟨h,_⟩ | ⟨_,h⟩
     ·rw [hcq,h (by rw [hcq]; exact List.mem_cons_self)] at hc
      cases hc
     ·exact h (by rw [hcq]; rfl)
    ·rw [hch c List.mem_cons_self hcq] at hc
     cases hc
 intro fuel
 induction fuel with
 | zero =>
  intro done ch listed a b w s φ M1 hCh hsz hu hcl hdo hch hag r E J hT hM hx
  have hall:∀ i,i < ops.size→listed.getD i false=true:=fun i hi=>by rw [← hgd listed i zo]; exact Tc (n:=ops.size) zo i hi
  refine ⟨List.eq_nil_iff_forall_not_mem.2 fun i hi=>?_,hfin listed ch a b w s φ M1 hall hch hag r E (hM.imp id fun h=>⟨h.1,h.2.2.1⟩) hx⟩
  obtain ⟨h1,o,ho,_⟩:=mem_ready.1 hi
  have hilt:=(Rn.1 ho).1
  rw [hgd listed i zo,hall i hilt] at h1
  cases h1
 | succ fuel ih =>
  intro done ch listed a b w s φ M1 hCh hsz hu hcl hdo hch hag r E J hT hM hx
  refine ⟨fun hr=>hfin listed ch a b w s φ M1 (hready listed hsz hr) hch hag r E (hM.imp id fun h=>⟨h.1,h.2.2.1⟩) hx,fun j hj=>?_⟩
  obtain ⟨hun,o,ho,hall⟩:=mem_ready.1 hj
  have hjlt:j < ops.size:=(Rn.1 ho).1
  have hun':listed.getD j false=false:=by rw [← hgd listed j zo]; exact hun
  have hsel:∀ cs b,o.op ≠ .select cs b:=fun cs b=>Region.noSelect_spec hns j o cs b ho
  have hwant:∀ tm,Region.wanted o (yielded ops tm)=true:=fun tm=>by simp [Region.wanted,hgn j o ho]
  have eL:∀ k,(listed.setIfInBounds j true).getD k false=(listed.getD k false||decide (k=j)):=by
   intro k
   by_cases hkj:k=j
   ·subst hkj
    have:k < listed.size:=by omega
    simp [this]
   ·rw [getD_set_ne false (Ne.symm hkj)]
    simp [hkj]
  have hu':Ec (listed.setIfInBounds j true) ops.size≤fuel:=by
   have:=Br hun ops.size
   rw [if_pos hjlt] at this
   omega
  have hcl':∀ (k:Nat) ok,ops[k]?=some ok→(listed.setIfInBounds j true).getD k false=true→∀ e ∈ ok.after,Region.binds .any e=true→(listed.setIfInBounds j true).getD e.on false=true:=by
   intro k ok hk hl e he hb
   rw [eL] at hl ⊢
   simp only [Bool.or_eq_true,decide_eq_true_eq] at hl ⊢
   rcases hl with hl | hl
   ·exact .inl (hcl k ok hk hl e he hb)
   ·subst hl
    rw [ho] at hk
    cases hk
    exact .inl (hall e he hb)
  have hun1:∀ i,(listed.setIfInBounds j true).getD i false=false→listed.getD i false=false∧i ≠ j:=by
   intro i hl
   rw [eL] at hl
   simp only [Bool.or_eq_false_iff,decide_eq_false_iff_not] at hl
   exact hl
  have hsee:∀ t ∈ o.looksAt ops,¬ JO ops H listed t∨∃ d,o.dst=some d∧t=d∧j ∈ H:=by
   intro t ht
   by_cases hc:JO ops H listed t
   rotate_left
   ·exact .inl hc
   obtain ⟨i,hi,hl,hd⟩:=hc
   have h1:=List.all_eq_true.1 hreg i hi
   rw [hd] at h1
   have h2:=List.all_eq_true.1 h1 j (by simp [hjlt])
   simp only [ho,Bool.or_eq_true,beq_iff_eq,Ki,Bool.not_eq_true',bne_iff_ne] at h2
   rcases h2 with rfl | ⟨_,h2 | h2⟩
   ·rw [ho] at hd
    exact .inr ⟨t,hd,rfl,hi⟩
   ·obtain ⟨e,he,hb,hon⟩:=Gi h2
    have:=hall e he hb
    rw [hon,hl] at this
    cases this
   ·simp [ht] at h2
  have hcase:=List.all_eq_true.1 hcov j (by simp [hjlt])
  simp only [Bool.or_eq_true,List.contains_iff_mem] at hcase
  have hqH:q ∈ ch→q ∉ H:=by
   intro hq hqH
   have:=List.all_eq_true.1 hdis q hqH
   rw [hCh] at this
   simp [hq] at this
  by_cases hjH:j ∈ H
  ·
   have hjC:j ∉ Cs:=by
    have:=List.all_eq_true.1 hdis j hjH
    simpa using this
   obtain ⟨o',dd,v,ho',hd,hv,hrun⟩:=J j hjH hun'
   rw [ho] at ho'
   cases ho'
   have hself:dd ∉ o.looksAt ops:=SI ho hd H hpair hjH
   have hsee':∀ t ∈ o.looksAt ops,¬ JO ops H listed t:=by
    intro t ht
    rcases hsee t ht with h1 | ⟨d',h1,rfl,_⟩
    ·exact h1
    ·rw [hd] at h1
     cases h1
     exact absurd ht hself
   unfold wpOp
   simp only [ho,hwant,if_true]
   refine .inl ?_
   unfold Oper.wp
   rw [Xy (ops:=ops) hag hsel hsee',hrun]
   simp only [Oper.upon]
   have hqj:q ∈ ch→q ≠ j:=fun h e=>hqH h (e ▸ hjH)
   refine ih done ch (listed.setIfInBounds j true) (a.put o.dst v) b w s φ M1 hCh (by simpa using hsz) hu' hcl' (fun c hc=>by rw [eL,hdo c hc]; rfl) ?_ ?_ r E (fun i hi hl=>J i hi (hun1 i hl).1) (fun h=>⟨(hT h).1,fun i hi hl=>(hT h).2 i hi (hun1 i hl).1⟩) ?_ hx
   ·intro c hc hcq
    rw [eL,hch c hc hcq]
    have:c ≠ j:=fun e=>hjC (by rw [hCh,← e]; exact List.mem_append_right _ hc)
    simp [this]
   ·refine ⟨by rw [← hag.1,hd]; rfl,by rw [← hag.2.1,hd]; simp [Act.put],fun t ht=>?_⟩
    rw [hd]
    by_cases htd:dd=t
    ·subst htd
     have hds:dd < a.tmps.size:=by
      rw [hag.2.1]
      exact (Rn.1 hv).1
     rw [hv]
     simp [Act.put,hds]
    ·rw [← hag.2.2 t (fun hc=>ht (by
      obtain ⟨i,hi,hl,hdi⟩:=hc
      refine ⟨i,hi,?_,hdi⟩
      rw [eL,hl]
      have:i ≠ j:=fun e=>htd (by rw [e,ho] at hdi; exact Option.some.inj (hd.symm.trans hdi))
      simp [this]))]
     simp [Act.put,Array.getElem?_setIfInBounds_ne htd]
   ·rcases hM with ⟨h1,h2⟩ | ⟨h1,h2,h3⟩
    ·exact .inl ⟨fun h=>by rw [eL,h1 h]; simp [hqj h],h2⟩
    ·exact .inr ⟨h1,by rw [eL,h2]; rfl,h3⟩
  ·
   have hjC:j ∈ Cs:=hcase.resolve_left hjH
   have hjch:j ∈ ch:=by
    rw [hCh] at hjC
    rcases List.mem_append.1 hjC with h1 | h1
    ·rw [hdo j h1] at hun'; cases hun'
    ·exact h1
   have hseeC:∀ t ∈ o.looksAt ops,¬ JO ops H listed t:=by
    intro t ht
    rcases hsee t ht with h1 | ⟨d',_,_,h1⟩
    ·exact h1
    ·exact absurd h1 hjH
   have hdst:∀ t,o.dst=some t→¬ JO ops H listed t:=by
    rintro t ht ⟨i,hi,hl,hd⟩
    have h1:=List.all_eq_true.1 hreg i hi
    rw [hd] at h1
    have h2:=List.all_eq_true.1 h1 j (by simp [hjlt])
    simp only [ho,Bool.or_eq_true,beq_iff_eq,Ki,Bool.not_eq_true',bne_iff_ne] at h2
    rcases h2 with rfl | ⟨h2,_⟩
    ·exact hjH hi
    ·exact h2 ht
   have hsub:∀ x y,M0 x y→M1 x y:=by
    intro x y h
    rcases hM with ⟨_,rfl⟩ | ⟨_,_,_,k,_,_,_,_,rfl,_⟩
    ·exact h
    ·exact .inl h
   have hJ2:∀ (b':Act) (w':World) (s':St) (φ':Nat→Nat) (M':QR),(∀ t,o.dst ≠ some t→b'.tmps[t]?=b.tmps[t]?)→Zw φ' M' N D (look s'.T) (look s'.H) b' w'→(∀ i ∈ H,(listed.setIfInBounds j true).getD i false=false→G7 P ops i s') →
     ∀ i ∈ H,(listed.setIfInBounds j true).getD i false=false→∃ o d v,ops[i]?=some o∧o.dst=some d∧b'.tmps[d]?=some v∧(execOp b'.eval o).run P w'=.ok (.value v) w':=by
    intro b' w' s' φ' M' hbX r' hl' i hi hl
    have hl0:=(hun1 i hl).1
    obtain ⟨oi,di,v,hoi,hdi,hvi,hri⟩:=J i hi hl0
    have hvb:b'.tmps[di]?=some v:=by rw [hbX di (fun e=>hdst di e ⟨i,hi,hl0,by rw [hoi]; exact hdi⟩)]; exact hvi
    refine ⟨oi,di,v,hoi,hdi,hvb,xZ (hl' i hi hl) hoi hdi r' hvb hri fun x hop=>?_⟩
    cases x with
    | tmp t =>
     have hne:o.dst ≠ some t:=by
      intro e
      have h2:=List.all_eq_true.1 hLr i hi
      simp only [hoi,hop,Bool.true_and,Bool.not_true,Bool.or_false] at h2
      have h3:=List.all_eq_true.1 h2 j hjC
      simp only [ho,Z8,e,Bool.not_eq_true'] at h3
      have:t ∈ oi.looksAt ops:=List.mem_append_left _ (List.mem_filterMap.2 ⟨.tmp t,by simp [hop,Op.operands],rfl⟩)
      simp [this] at h3
     simp only [Act.eval]
     rw [Array.getD_eq_getD_getElem?,Array.getD_eq_getD_getElem?,hbX t hne]
    | _=>rfl
   have hlate:∀ (s':St),Jn P ops (UA ops H j) s'→∀ i ∈ H,(listed.setIfInBounds j true).getD i false=false→G7 P ops i s':=by
    intro s' hl' i hi hl
    have hl0:=(hun1 i hl).1
    have hnw:WT ops.size ops j i=false:=by
     cases hq:WT ops.size ops j i with
     | false=>rfl
     | true =>
      have:=Xj hcl _ j i o ho hall hq
      rw [hl0] at this
      cases this
    have hnw2:WT ops.size ops i j=false:=by
     have:=List.all_eq_true.1 (List.all_eq_true.1 hstage i hi) j hjC
     simpa using this
    exact hl' i (List.mem_filter.2 ⟨hi,by rw [hnw,hnw2]; rfl⟩)
   have hag3:∀ (a' b':Act),Agree (JO ops H listed) a' b'→Agree (JO ops H (listed.setIfInBounds j true)) a' b':=by
    intro a' b' h
    refine ⟨h.1,h.2.1,fun t ht=>h.2.2 t (fun hc=>ht ?_)⟩
    obtain ⟨i,hi,hl,hd⟩:=hc
    refine ⟨i,hi,?_,hd⟩
    rw [eL,hl]
    have:i ≠ j:=fun e=>hjH (e ▸ hi)
    simp [this]
   by_cases hjq:j=q
   ·
    subst hjq
    rw [ho] at hqop
    simp only [Ki,beq_iff_eq] at hqop
    obtain ⟨hqd,hqop⟩:=hqop
    split at hqop
    rotate_left
    ·cases hqop
    rename_i ty hop
    split at hqop
    rotate_left
    ·cases hqop
    rename_i ti hi
    obtain ⟨z,hz⟩:=Ls.1 hqop
    have hMM:M1=M0:=by
     rcases hM with ⟨_,h⟩ | ⟨_,h,_⟩
     ·exact h
     ·rw [h] at hun'; cases hun'
    subst hMM
    unfold wpOp
    simp only [ho,hwant,if_true]
    refine .inl ?_
    cases ch with
    | nil=>cases hjch
    | cons c rest =>
     by_cases hcj:c=j
     ·subst hcj
      simp only [yg,ho,if_true] at hx
      obtain ⟨u,hdl,hu,hl,hx'⟩:=hx
      have hex:XN P N o s (fun s'=>s'=Ju s o.dst u) Qh:=by
       unfold XN
       simp only [hop]
       rw [hu]
       exact .inl ⟨hdl,rfl⟩
      have hw:=TZ hex r
      have hw2:=Go.Abs.Oper.wp_mono2 (K':=fun a' w'=>∃ φ' s',s'=Ju s o.dst u∧Zw φ' M1 N D (look s'.T) (look s'.H) a' w'∧Zg φ (look s.H) w φ' (look s'.H) w') (Q':=Post N D Qh φ0 M1 h0 w0) hw (fun _ _ h=>h) (fun e a' w' p=>p.trans E)
      refine Oper.wp_mono ?_ (SC (ops:=ops) hag hsel hseeC hdst (hpan _ _ _ hag (hXm _ _)) hout hw2)
      rintro a' w' ⟨b',hag',hbX,φ',s',rfl,r',E'⟩
      have hcr:c ∉ rest:=by
       rw [hCh] at hnd
       exact (List.nodup_cons.1 (List.nodup_append.1 hnd).2.1).1
      refine ih (done++[c]) rest (listed.setIfInBounds c true) a' b' w' _ φ' M1 (by rw [hCh]; simp) (by simpa using hsz) hu' hcl' (fun x hx=>by
       rw [eL]
       rcases List.mem_append.1 hx with h1 | h1
       ·rw [hdo x h1]; rfl
       ·rw [List.mem_singleton] at h1
        simp [h1]) ?_ (hag3 _ _ hag') r' (E.trans E') (hJ2 b' w' _ φ' M1 hbX r' (hlate _ hl)) (fun h=>absurd h hcr) (.inl ⟨fun h=>absurd h hcr,rfl⟩) hx'
      intro x hx hxq
      rw [eL,hch x (List.mem_cons_of_mem _ hx) hxq]
      simp [hxq]
     ·have hrun:∀ ev,(execOp ev o).run P w=.ok (.value (.pointer (some ⟨w.heap.size,0,none⟩))) (w.alloc (.cells z.cells ty)):=fun ev=>by
       simp [execOp,hop,Instr.alloc,zeroValue,typeInfo,hi,hz,newVar,newRow,newObj,Sem.run]
      unfold Oper.wp
      rw [hrun]
      simp only [Oper.upon]
      rw [hqd]
      obtain ⟨hT1,hT2⟩:=hT hjch
      obtain ⟨r,E1,_,hCl⟩:=r.lift 1
      have E:=E.trans E1
      have r2:=xY (ob:=.cells z.cells ty) (v:=.pointer (some ⟨w.heap.size,0,none⟩)) r hT1 hCl
      have hbX:∀ t,o.dst ≠ some t→(b.put (some d) (.pointer (some ⟨w.heap.size,0,none⟩))).tmps[t]?=b.tmps[t]?:=by
       intro t ht
       have:d ≠ t:=fun e=>ht (by rw [hqd,e])
       simp [Act.put,Array.getElem?_setIfInBounds_ne this]
      have hT3:∀ i ∈ H,(listed.setIfInBounds j true).getD i false=false→G7 P ops i s:=fun i hi hl=>hT2 i hi (hun1 i hl).1
      refine ih done (c :: rest) (listed.setIfInBounds j true) _ _ _ s _ _ hCh (by simpa using hsz) hu' hcl' (fun x hx=>by rw [eL,hdo x hx]; rfl) ?_ (hag3 _ _ (Hq hag (some d) _)) r2 (E.trans (I7 r.hp hCl).1) (hJ2 _ _ s _ _ hbX r2 hT3) (fun _=>⟨hT1,hT3⟩) (.inr ⟨hjch,by rw [eL]; simp,fun h=>hcj (Option.some.inj h),w.heap.size,o,ty,ti,z,rfl,ho,hop,hqd,hi,hz,?_,?_,E.size,fun x hx=>Nat.lt_irrefl _ (r.hp.lt _ _ hx)⟩) hx
      ·intro x hx hxq
       rw [eL,hch x hx hxq]
       simp [hxq]
      ·have hds:d < b.tmps.size:=by rw [r.siz]; exact hdN
       simp [Act.put,hds]
      ·show (w.heap.push _)[w.heap.size]?=_
       simp
   ·
    have hjhead:∃ rest,ch=j :: rest:=by
     cases ch with
     | nil=>cases hjch
     | cons c rest =>
      by_cases hcj:j=c
      ·exact ⟨rest,by rw [hcj]⟩
      exfalso
      have hjr:j ∈ rest:=(List.mem_cons.1 hjch).resolve_left hcj
      obtain ⟨r1,r2,hr12⟩:=List.append_of_mem hjr
      have hpre:∀ x,x ∈ c :: rest→x ≠ q→(ops[j]?).any (waits · x)=true→False:=by
       intro x hx hxq hw
       rw [ho] at hw
       obtain ⟨e,he,hb,hon⟩:=Gi (o:=o) (i:=x) hw
       have h2:=hall e he hb
       rw [hon,hch x hx hxq] at h2
       cases h2
      by_cases hall1:∀ x ∈ c :: r1,x=q
      ·
       have hcq:c=q:=hall1 c List.mem_cons_self
       have hr1:r1=[]:=by
        cases r1 with
        | nil=>rfl
        | cons y r1 =>
         exfalso
         have hy:=hall1 y zq
         have h3:=hnd
         rw [hCh,hr12] at h3
         have h4:=(List.nodup_append.1 h3).2.1
         rw [hcq,hy] at h4
         simp at h4
       subst hr1
       rcases hM with ⟨h1,_⟩ | ⟨_,_,h3,_⟩
       ·have h4:=h1 (by rw [hcq]; exact List.mem_cons_self)
        have h5:(ops[j]?).any (waits · q)=true:=PE done j r2 (by rw [hCh,hr12,hcq] at haft; exact haft)
        rw [ho] at h5
        obtain ⟨e,he,hb,hon⟩:=Gi (o:=o) (i:=q) h5
        have h6:=hall e he hb
        rw [hon,h4] at h6
        cases h6
       ·exact h3 (by rw [hcq]; rfl)
      ·simp only [Classical.not_forall] at hall1
       obtain ⟨x0,hx0,hx0q⟩:=hall1
       have hfl:(c :: r1).filter (· != q) ≠ []:=by
        intro e
        have:x0 ∈ (c :: r1).filter (· != q):=List.mem_filter.2 ⟨hx0,by simpa using hx0q⟩
        rw [e] at this
        cases this
       obtain ⟨p,x,hpx⟩:∃ p x,(c :: r1).filter (· != q)=p++[x]:=⟨_,_,(List.dropLast_concat_getLast hfl).symm⟩
       have hxm:x ∈ (c :: r1).filter (· != q):=by rw [hpx]; simp
       obtain ⟨hx1,hx2⟩:=List.mem_filter.1 hxm
       have hsp:Cs.filter (· != q)=(done.filter (· != q)++p)++x :: j :: r2.filter (· != q):=by
        rw [hCh,List.filter_append,hr12,show c :: (r1++j :: r2)=(c :: r1)++j :: r2 from rfl,List.filter_append,hpx]
        have:(j :: r2).filter (· != q)=j :: r2.filter (· != q):=by simp [hjq]
        rw [this]
        simp
       have hch2:=hchain
       rw [hsp] at hch2
       have h1:=Tu _ _ _ _ hch2
       exact hpre x (by rw [hr12,show c :: (r1++j :: r2)=(c :: r1)++j :: r2 from rfl]; exact List.mem_append_left _ hx1) (by simpa using hx2) h1
    obtain ⟨rest,rfl⟩:=hjhead
    simp only [yg,ho,if_neg hjq] at hx
    unfold wpOp
    simp only [ho,hwant,if_true]
    refine .inl ?_
    have hw:=TZ hx r
    have hw2:=Go.Abs.Oper.wp_mono2 (K':=fun a' w'=>∃ φ' s',(Jn P ops (UA ops H j) s'∧(q ∈ rest→look s'.T d=none)∧yg P N ops Qh H q d rest s')∧Zw φ' M1 N D (look s'.T) (look s'.H) a' w'∧Zg φ (look s.H) w φ' (look s'.H) w') (Q':=Post N D Qh φ0 M0 h0 w0) hw (fun _ _ h=>h) (fun e a' w' p=>xX hsub (p.trans E))
    refine Oper.wp_mono ?_ (SC (ops:=ops) hag hsel hseeC hdst (hpan _ _ _ hag (hXm _ _)) hout hw2)
    rintro a' w' ⟨b',hag',hbX,φ',s',⟨hl',hnT,hx'⟩,r',E'⟩
    have hJ3:=hJ2 b' w' s' φ' M1 hbX r' (hlate s' hl')
    have hjr:j ∉ rest:=by
     rw [hCh] at hnd
     exact (List.nodup_cons.1 (List.nodup_append.1 hnd).2.1).1
    have hdo':∀ c ∈ done++[j],(listed.setIfInBounds j true).getD c false=true:=fun x hx=>by
     rw [eL]
     rcases List.mem_append.1 hx with h1 | h1
     ·rw [hdo x h1]; rfl
     ·rw [List.mem_singleton] at h1
      simp [h1]
    have hch':∀ c ∈ rest,c ≠ q→(listed.setIfInBounds j true).getD c false=false:=by
     intro x hx hxq
     rw [eL,hch x (List.mem_cons_of_mem _ hx) hxq]
     have:x ≠ j:=fun e=>hjr (e ▸ hx)
     simp [this]
    have hTT:q ∈ rest→look s'.T d=none∧∀ i ∈ H,(listed.setIfInBounds j true).getD i false=false→G7 P ops i s':=fun h=>⟨hnT h,hlate s' hl'⟩
    rcases hM with ⟨h1,rfl⟩ | ⟨h1,h2,h3,k,oq,ty,ti,z,rfl,hoq,hop,hqd,hi,hz,hbd,hwk,hk0,hkM⟩
    ·refine ih (done++[j]) rest (listed.setIfInBounds j true) a' b' w' s' φ' M1 (by rw [hCh]; simp) (by simpa using hsz) hu' hcl' hdo' hch' (hag3 _ _ hag') r' (E.trans E') hJ3 hTT (.inl ⟨fun h=>?_,rfl⟩) hx'
     rw [eL,h1 (List.mem_cons_of_mem _ h)]
     simp [Ne.symm hjq]
    ·have hqr:q ∈ rest:=(List.mem_cons.1 h1).resolve_left (Ne.symm hjq)
     have hod:o.dst ≠ some d:=by
      have:=List.all_eq_true.1 hdst0 j hjC
      simp only [ho,Bool.or_eq_true,beq_iff_eq,bne_iff_ne] at this
      exact this.resolve_left hjq
     have hbd':b'.tmps[d]?=some (.pointer (some ⟨k,0,none⟩)):=by rw [hbX d hod]; exact hbd
     have hwk':w'.heap[k]?=some (.cells z.cells ty (0,0)):=by
      rw [E'.same k (Rn.1 hwk).1 (fun c hc e=>r.hp.fr c hc 0 (.inr e))]
      exact hwk
     have hlq:(listed.setIfInBounds j true).getD q false=true:=by rw [eL,h2]; rfl
     by_cases hrq:rest.head?=some q
     ·cases rest with
      | nil=>cases hrq
      | cons c rest =>
       obtain rfl:c=q:=Option.some.inj hrq
       simp only [yg,hoq,if_true] at hx'
       obtain ⟨u,hdl,hu,hl,hx2⟩:=hx'
       obtain ⟨r2,E2⟩:=vJ r' (E.trans E') hk0 hkM hop hqd hi hz hdN hbd' hwk' hu
       have hcr:c ∉ rest:=by
        rw [hCh] at hnd
        exact (List.nodup_cons.1 (List.nodup_cons.1 (List.nodup_append.1 hnd).2.1).2).1
       refine ih (done++[j,c]) rest (listed.setIfInBounds j true) a' b' w' _ _ M0 (by rw [hCh]; simp) (by simpa using hsz) hu' hcl' (fun x hx=>?_) (fun x hx=>hch' x (List.mem_cons_of_mem _ hx)) (hag3 _ _ hag') r2 E2 hJ3 (fun h=>absurd h hcr) (.inl ⟨fun h=>absurd h hcr,rfl⟩) hx2
       rcases List.mem_append.1 hx with h4 | h4
       ·exact hdo' x (List.mem_append_left _ h4)
       ·simp only [List.mem_cons,List.not_mem_nil,or_false] at h4
        rcases h4 with h4 | h4
        ·exact hdo' x (by simp [h4])
        ·rw [h4]; exact hlq
     ·exact ih (done++[j]) rest (listed.setIfInBounds j true) a' b' w' s' φ' _ (by rw [hCh]; simp) (by simpa using hsz) hu' hcl' hdo' hch' (hag3 _ _ hag') r' (E.trans E') hJ3 hTT (.inr ⟨hqr,hlq,hrq,k,oq,ty,ti,z,rfl,hoq,hop,hqd,hi,hz,hbd',hwk',hk0,hkM⟩) hx'
theorem bZ {P:Program} {N:Nat} {ro:Option Nat} {id:Nat} {ops:Array Oper} {s s1:St} {R:Type} {r0:R} {Q:R→AX→St→Prop} (H:List Nat) (q d:Nat) (Cs:List Nat) (hm:P.follows .mixedOrders=true) (hnd:Ul ops=true) (hok:BN P N H q d Cs ops=true) (h1:LU P N ops H s=some s1)
  (hl:Jn P ops H s1) (hT:look s1.T d=none) (h:yg P N ops (qh ops Q r0) H q d Cs s1):Ex P N ro (.region id ops true) s (Q r0):=by
 intro φ M0 D a w r
 refine wpIn_region_any hm (DZ hnd VW _ _ _ _ ?_)
 have hd:Zg φ (look s.H) w φ (look s.H) { w with drawn:=w.drawn+1 }:=FR rfl rfl rfl rfl
 have r1:Zw φ M0 N D (look s.T) (look s.H) a { w with drawn:=w.drawn+1 }:=r.keep hd (Hf rfl) (TN (w:=w) rfl hd r.hp)
 have hok':=hok
 simp only [BN,Ki,decide_eq_true_eq] at hok'
 obtain ⟨⟨⟨⟨⟨⟨⟨⟨⟨⟨⟨⟨⟨⟨hcov,hns⟩,hpair⟩,hchain⟩,hnd'⟩,hdis⟩,hstage⟩,hgu⟩,hdown⟩,hreg⟩,hLr⟩,haft⟩,hdN⟩,hdst0⟩,hqop⟩:=hok'
 obtain ⟨b,rb,hH,hag,hJ⟩:=Ei hns H s s1 a _ hpair h1 r1
 have hlf:∀ (j:Nat),(Array.replicate ops.size false).getD j false=false:=by
  intro j
  rcases Nat.lt_or_ge j ops.size with h | h
  ·simp [h]
  ·simp [h]
 have hunl:∀ n,Ec (Array.replicate ops.size false) n≤n:=by
  intro n
  induction n with
  | zero=>simp [Ec]
  | succ n ih=>simp only [Ec]; split <;> omega
 have h2:=mO (D:=D) (φ0:=φ) (h0:=look s.H) (w0:=w) (M0:=M0) hok (Q:=Q r0) (Qh:=qh ops Q r0) (fun _ h=>h) (fun _ _ h=>h) ops.size [] Cs (Array.replicate ops.size false) a b { w with drawn:=w.drawn+1 } s1 φ M0 rfl zq (hunl _) (fun j o _ hj=>by rw [hlf] at hj; cases hj) (fun c hc=>by cases hc) (fun c _ _=>hlf c)
  ⟨hag.1,hag.2.1,fun t ht=>hag.2.2 t (fun hc=>ht (by obtain ⟨i,hi,hdi⟩:=hc; exact ⟨i,hi,hlf i,hdi⟩))⟩ rb (by rw [hH]; exact hd) (fun i hi _=>hJ i hi) (fun _=>⟨hT,fun i hi _=>hl i hi⟩) (.inl ⟨fun _=>hlf q,rfl⟩) h
 refine Xi ?_ _ _ _ _ h2
 exact fun e a' w' h=>h
structure z8 {R:Type} (a:Option R) (P:Program) (N:Nat) (ops:Array Oper) (Q:R→AX→St→Prop) (H:List Nat) (q d:Nat) (Ch:List Nat) (s:St):Prop where
 intro ::
 h:∀ r,a=some r→yg P N ops (qh ops Q r) H q d Ch s
def fKf {R:Type} (P:Program) (N:Nat) (ops:Array Oper) (Q:R→AX→St→Prop) (H:List Nat) (q d:Nat) (Ch:List Nat) (c:Nat):R→St→Prop:=fun r s=>Jn P ops (UA ops H c) s∧(q ∈ Ch→look s.T d=none)∧yg P N ops (qh ops Q r) H q d Ch s
theorem kg {Ch:List Nat} {q d:Nat} {s:St} (h:(!Ch.contains q||(look s.T d).isNone)=true):q ∈ Ch→look s.T d=none:=by
 intro hq
 cases e:look s.T d with
 | none=>rfl
 | some x=>simp [hq,e] at h
section
variable {R V E:Type} {a a1 a2:Option R} {P:Program} {N:Nat} {ro:Option Nat} {id:Nat} {ops:Array Oper} {o:Oper} {s s1 s':St} {Q:R→AX→St→Prop} {f:FuncId} {args args':List AV} {dst:Option Tmp} {H Ch:List Nat} {c i q d:Nat}
theorem SV (H:List Nat) (q d:Nat) (Ch:List Nat) (hm:P.follows .mixedOrders=true) (hd:Ul ops=true) (hok:BN P N H q d Ch ops=true) (h1:(LU P N ops H s).isSome=true) (hl:Jn P ops H ((LU P N ops H s).getD s)) (hT:(look ((LU P N ops H s).getD s).T d).isNone=true)
  (h:z8 a P N ops Q H q d Ch ((LU P N ops H s).getD s)):QU a P N ro (.region id ops true) s Q:=by
 obtain ⟨s1,e⟩:=Ls.1 h1
 rw [e] at h hl hT
 simp only [Option.getD_some] at h hl hT
 exact ⟨fun r hr=>bZ H q d Ch hm hd hok e hl (by cases e:look s1.T d with | none=>rfl | some x=>rw [e] at hT; cases hT) (h.h r hr)⟩
theorem mP (h:Zy a Q .normal s):z8 a P N ops Q H q d [] s:=⟨fun r hr=>h.h r hr⟩
theorem kf (L':List Nat) (hL:UA ops H c=L') (hl:Jn P ops L' s) (hq:(!Ch.contains q||(look s.T d).isNone)=true) (h:z8 a P N ops Q H q d Ch s):F7 a (fKf P N ops Q H q d Ch c) s :=
 ⟨fun r hr=>⟨hL ▸ hl,kg hq,h.h r hr⟩⟩
theorem f_q (L':List Nat) (hL:UA ops H q=L') (h0:(Ld P N ops q s).isSome=true) (hl:Jn P ops L' ((Ld P N ops q s).getD s)) (h:z8 a P N ops Q H q d Ch ((Ld P N ops q s).getD s)):z8 a P N ops Q H q d (q :: Ch) s:=by
 obtain ⟨s',h1⟩:=Ls.1 h0
 rw [h1] at hl h
 simp only [Option.getD_some] at hl h
 unfold Ld at h1
 refine ⟨fun r hr=>?_⟩
 simp only [yg]
 cases ho:ops[q]? with
 | none=>rw [ho] at h1; cases h1
 | some o =>
  simp only [ho,Z8,if_true] at h1 ⊢
  split at h1
  ·cases h1
  ·cases h1
  ·cases h1
  ·split at h1
   rotate_left
   ·cases h1
   rename_i hdl
   obtain ⟨u,hu,rfl⟩:=FQ.1 h1
   exact ⟨u,hdl,hu,hL ▸ hl,h.h r hr⟩
theorem df (L':List Nat) (hcq:Nat.beq c q=false) (hL:UA ops H c=L') (h0:(Ld P N ops c s).isSome=true) (hl:Jn P ops L' ((Ld P N ops c s).getD s)) (hq:(!Ch.contains q||(look ((Ld P N ops c s).getD s).T d).isNone)=true) (h:z8 a P N ops Q H q d Ch ((Ld P N ops c s).getD s)):z8 a P N ops Q H q d (c :: Ch) s:=by
 obtain ⟨s',h1⟩:=Ls.1 h0
 rw [h1] at hl h hq
 simp only [Option.getD_some] at hl h hq
 unfold Ld at h1
 refine ⟨fun r hr=>?_⟩
 have hne:¬ c=q:=fun e=>by subst e; simp at hcq
 simp only [yg]
 cases ho:ops[c]? with
 | none=>rw [ho] at h1; cases h1
 | some o =>
  simp only [ho,Z8,if_neg hne] at h1 ⊢
  unfold XN
  split at h1
  ·cases h1
  ·cases h1
  ·cases h1
  ·rename_i n1 n2 n3
   split at h1
   rotate_left
   ·cases h1
   rename_i hdl
   obtain ⟨u,hu,rfl⟩:=FQ.1 h1
   have key:EP N o s (fun s'=>Jn P ops (UA ops H c) s'∧(q ∈ Ch→look s'.T d=none)∧yg P N ops (qh ops Q r) H q d Ch s') (VA P o (look s.T) (look s.H)):=by
    rw [hu]
    exact ⟨hdl,hL ▸ hl,kg hq,h.h r hr⟩
   split
   ·rename_i he; exact absurd he (n1 _ _ _)
   ·rename_i he; exact absurd he (n2 _)
   ·rename_i he; exact absurd he (n3 _ _ _)
   ·exact .inl key
theorem BO (hf:(ops[c]?).bind (fun o=>(Z4 (look s.T) o.op).map fun p=>(p.1,p.2,o.dst))=some (f,args,dst)) (hb:YZ P f=true) (hcq:Nat.beq c q=false) (h:Dr a P N f args dst s (fKf P N ops Q H q d Ch c) (qh ops Q)):z8 a P N ops Q H q d (c :: Ch) s:=by
 refine ⟨fun r hr=>?_⟩
 have hne:¬ c=q:=fun e=>by subst e; simp at hcq
 simp only [yg]
 cases ho:ops[c]? with
 | none=>rw [ho] at hf; cases hf
 | some o =>
  simp only [ho,Z8,if_neg hne] at hf ⊢
  obtain ⟨⟨f0,args0⟩,h1,h2⟩:=FQ.1 hf
  simp only [Prod.mk.injEq] at h2
  obtain ⟨rfl,rfl,rfl⟩:=h2
  exact X7 h1 hb (h.h r hr)
end
def uf (k:Nat) (x:AV):Blk→Blk
 | .box ty cs=>.box ty (cs.set k x)
 | q=>q
def UC (b k:Nat) (x:AV) (s:St):St:=⟨s.T,s.H.map fun p=>if p.1=b then (p.1,uf k x p.2) else p⟩
theorem Di {b k:Nat} {x:AV}:∀ (H:List (Nat × Blk)) (c:Nat),look (H.map fun p=>if p.1=b then (p.1,uf k x p.2) else p) c=if b=c then (look H c).map (uf k x) else look H c
 | [],c=>by simp [look]
 | (d,q) :: H,c=>by
  rw [List.map_cons]
  by_cases hdb:d=b
  ·subst hdb
   simp only [if_true,look]
   by_cases hdc:d=c
   ·simp [hdc]
   ·simp only [hdc,if_false]
    rw [Di H c]
    simp [hdc]
  ·simp only [hdb,if_false,look]
   by_cases hdc:d=c
   ·subst hdc
    simp [Ne.symm hdb]
   ·simp only [hdc,if_false]
    exact Di H c
theorem SX {b k:Nat} {x:AV} {s:St} {ty:Nat} {cs:List AV} (hb:look s.H b=some (.box ty cs)):look (UC b k x s).H=upd (look s.H) b (.box ty (cs.set k x)):=by
 funext c
 show look (s.H.map _) c=_
 rw [Di]
 by_cases e:b=c
 ·subst e; simp [upd,hb,uf]
 ·simp [upd,e]
theorem Hr {φ:Nat→Nat} {h:Qv} {w:World} {M:QR}:∀ {cs:List AV} {l:List Value} {k:Nat} {x:AV},Qi φ h w M cs l→cs[k]?=some x→∃ u,l[k]?=some u∧Qf φ h w M x u
 | [],l,k,x,_,h=>by simp at h
 | c :: cs,l,k,x,hr,h=>by
  simp only [Qi] at hr
  obtain ⟨y,ys,rfl,h1,h2⟩:=hr
  cases k with
  | zero=>simp at h; subst h; exact ⟨y,rfl,h1⟩
  | succ k=>simp at h; simpa using Hr h2 h
theorem Ub {φ:Nat→Nat} {h:Qv} {w:World} {M:QR}:∀ {cs:List AV} {l:List Value} {k:Nat} {x:AV} {u:Value},Qi φ h w M cs l→l[k]?=some u→Qf φ h w M x u→Qi φ h w M (cs.set k x) l
 | [],l,k,x,u,hr,hl,hx=>by simpa using hr
 | c :: cs,l,k,x,u,hr,hl,hx=>by
  simp only [Qi] at hr
  obtain ⟨y,ys,rfl,h1,h2⟩:=hr
  cases k with
  | zero=>simp at hl; subst hl; exact ⟨_,ys,rfl,hx,h2⟩
  | succ k=>simp at hl; exact ⟨y,ys,rfl,h1,Ub h2 hl hx⟩
section
variable {φ φ0:Nat→Nat} {h h0:Qv} {w w0:World} {M0:QR} {b ty:Nat} {cs cs':List AV}
theorem Tz (hb:h b=some (.box ty cs)):YM φ h w φ (upd h b (.box ty cs')) w:=by
 refine ⟨fun c t q hc=>⟨?_,rfl⟩,fun t t' S n hc=>⟨n,?_,Nat.le_refl _,fun _=>YJ rfl rfl⟩,fun t t' S n hc=>⟨n,?_,Nat.le_refl _,fun _=>⟨rfl,fun c hc=>⟨c,hc,rfl⟩⟩⟩,fun c k x hc ho=>⟨⟨k,?_,ho⟩,rfl⟩⟩
 ·by_cases e:b=c
  ·subst e; exact ⟨ty,cs',by simp [upd]⟩
  ·exact ⟨t,q,by simp [upd,e,hc]⟩
 ·have:¬ b=t:=fun e=>by subst e; rw [hb] at hc; cases hc
  simp [upd,this,hc]
 ·have:¬ b=t:=fun e=>by subst e; rw [hb] at hc; cases hc
  simp [upd,this,hc]
 ·have:¬ b=c:=fun e=>by subst e; rw [hb] at hc; cases hc; cases ho
  simp [upd,this,hc]
theorem BP (hb:h b=some (.box ty cs)):∀ r o,RF φ (upd h b (.box ty cs')) r o→RF φ h r o:=by
 rintro r o ⟨c,k,h1,h2,h3⟩
 by_cases e:b=c
 ·subst e
  exact ⟨b,_,hb,h2,trivial⟩
 ·simp only [upd,e,if_false] at h1
  exact ⟨c,k,h1,h2,h3⟩
theorem BQ (hb:h b=some (.box ty cs)):Zg φ h w φ (upd h b (.box ty cs')) w:=by
 have X:=Tz (φ:=φ) (w:=w) (cs':=cs') hb
 refine ⟨rfl,rfl,rfl,Nat.le_refl _,fun _ _ _=>rfl,fun _ _ _ _=>rfl,fun r o _ hm=>BP hb r o hm,fun c t q _ hc=>?_,fun t t' S n _ hc=>X.t t t' S n hc,fun t t' S n _ hc=>X.v t t' S n hc,fun c k x _ hc ho=>X.o c k x hc ho⟩
 by_cases e:b=c
 ·subst e
  rw [hb] at hc
  cases hc
  exact ⟨⟨cs',by simp [upd]⟩,rfl⟩
 ·exact ⟨⟨q,by simp [upd,e,hc]⟩,rfl⟩
theorem mQ (hb:h b=some (.box ty cs)) (r:ZN φ h w M0) (hc:∀ c:Array Value,w.heap[φ b]?=some (.cells c ty (0,0))→Qi φ h w (MM φ h M0) cs' c.toList):ZN φ (upd h b (.box ty cs')) w M0:=by
 have hk:∀ x o v,w.cell? ⟨x,o,none⟩=some v→¬ MM φ h M0 x o→w.cell? ⟨x,o,none⟩=some v∧¬ MM φ (upd h b (.box ty cs')) M0 x o:=fun x o v h1 h2=>⟨h1,fun hm=>h2 (hm.imp (BP hb x o) id)⟩
 have X:=Tz (φ:=φ) (w:=w) (cs':=cs') hb
 have hdom:∀ c,upd h b (.box ty cs') c ≠ none→h c ≠ none:=fun c hc=>by
  by_cases e:b=c
  ·subst e; rw [hb]; simp
  ·simpa [upd,e] using hc
 refine ⟨fun c d hc hd=>r.inj c d (hdom c hc) (hdom d hd),fun c k hck=>?_,fun c hc=>r.fr c (hdom c hc),r.lt,r.gm.sub fun x o hm=>hm.imp (BP hb x o) id⟩
 by_cases e:b=c
 ·subst e
  simp only [upd,if_true,Zd] at hck
  subst hck
  obtain ⟨q,h1,h2⟩:=r.blk b _ hb
  exact ⟨q,h1,(QX hk X).2 _ _ (hc q h1)⟩
 ·simp only [upd,e,if_false] at hck
  exact ZW hk X rfl (r.blk c k hck)
end
theorem O3 {N:Nat} {D:DB} {φ:Nat→Nat} {M0:QR} {T:Nat→Option AV} {h:Qv} {a:Act} {w:World} {b ty:Nat} {cs cs':List AV} (r:Zw φ M0 N D T h a w) (hb:h b=some (.box ty cs)) (hc:∀ c:Array Value,w.heap[φ b]?=some (.cells c ty (0,0))→Qi φ h w (MM φ h M0) cs' c.toList) :
  Zw φ M0 N D T (upd h b (.box ty cs')) a w:=by
 have hk:∀ x o v,w.cell? ⟨x,o,none⟩=some v→¬ MM φ h M0 x o→w.cell? ⟨x,o,none⟩=some v∧¬ MM φ (upd h b (.box ty cs')) M0 x o:=fun x o v h1 h2=>⟨h1,fun hm=>h2 (hm.imp (BP hb x o) id)⟩
 exact ⟨r.dfs.keep (BQ hb),r.siz,mQ hb r.hp hc,fun t x ht=>⟨(r.tm t x ht).1,(QX hk (Tz hb)).1 _ _ (r.tm t x ht).2⟩⟩
theorem Ce {α:Type} {f:Nat→Bool}:∀ {H:List (Nat × α)} {c:Nat},f c=true→look (H.filter fun p=>f p.1) c=look H c
 | [],c,_=>rfl
 | (d,q) :: H,c,hf=>by
  by_cases e:d=c
  ·subst e
   rw [List.filter_cons_of_pos (by simpa using hf)]
   simp [look]
  ·by_cases hd:f d=true
   ·rw [List.filter_cons_of_pos (by simpa using hd)]
    simp only [look,e,if_false]
    exact Ce hf
   ·rw [List.filter_cons_of_neg (by simpa using hd)]
    simp only [look,e,if_false]
    exact Ce hf
def SY (t:Nat) (s sd:St):Bool:=eO (look sd.H) sd.T&&uK (look sd.H) sd.H&&Ya (look sd.H) (s.H.filter fun p=>p.1 != t)&&(look sd.H t).isNone
def DJ (φ:Nat→Nat) (w:World) (t S n:Nat) (M0:QR):QR:=fun r o=>M0 r o∨(r=φ t∧n * S≤o∧r < w.heap.size)
theorem ku {N:Nat} {D:DB} {φ:Nat→Nat} {M0:QR} {s:St} {a:Act} {w:World} {t ty S n:Nat} {K:Gf} (r:Zw φ M0 N D (look s.T) (look s.H) a w) (hat:look s.H t=some (.arr ty S n)) (hok:SY t s (shr K s)=true) :
  Zw φ (DJ φ w t S n M0) N D (look (shr K s).T) (look (shr K s).H) a w∧(∀ x v,Kb (look (shr K s).H) x=true→Qf φ (look s.H) w (MM φ (look s.H) M0) x v→Qf φ (look (shr K s).H) w (MM φ (look (shr K s).H) (DJ φ w t S n M0)) x v)∧(∀ b k',look (shr K s).H b=some k'→∃ k,look s.H b=some k∧leB k k') ∧
  (∀ r o,MM φ (look (shr K s).H) (DJ φ w t S n M0) r o→MM φ (look s.H) M0 r o):=by
 simp only [SY,Ki] at hok
 obtain ⟨⟨⟨hT0,hH0⟩,hK⟩,hno⟩:=hok
 have hT:E9 (look s.T) (look (shr K s).H) (shr K s).T:=F5 hT0
 have hH:Dq (look s.H) (look (shr K s).H) (shr K s).H:=VE hH0
 generalize shr K s=s' at *
 have htn:look s'.H t=none:=by cases e:look s'.H t with | none=>rfl | some x=>rw [e] at hno; cases hno
 have hh:∀ b k',look s'.H b=some k'→∃ k,look s.H b=some k∧leB k k':=fun b k' hb=>(Jf hH b k' hb).1
 have hmut:∀ r o,RF φ (look s'.H) r o→RF φ (look s.H) r o:=by
  rintro x o ⟨b,k',h1,h2,h3⟩
  obtain ⟨k,h4,h5⟩:=hh b k' h1
  refine ⟨b,k,h4,h2,?_⟩
  cases k with
  | arr ty S n=>simp only [leB] at h5; subst h5; exact h3
  | _=>trivial
 have hM:∀ r o,MM φ (look s'.H) (DJ φ w t S n M0) r o→MM φ (look s.H) M0 r o:=by
  rintro x o (h | h | ⟨rfl,h,_⟩)
  ·exact .inl (hmut x o h)
  ·exact .inr h
  ·exact .inl ⟨t,_,hat,rfl,h⟩
 have hdom:∀ b,look s'.H b ≠ none→look s.H b ≠ none:=fun b hb=>by
  cases hq:look s'.H b with
  | none=>exact absurd hq hb
  | some k'=>obtain ⟨k,h1,_⟩:=hh b k' hq; rw [h1]; simp
 obtain ⟨c1,c2⟩:=BB (φ:=φ) (w:=w) hM hh
 have htφ:∀ b,look s'.H b ≠ none→φ b ≠ φ t:=by
  intro b hb e
  have:=r.hp.inj b t (hdom b hb) (by rw [hat]; simp) e
  rw [this,htn] at hb
  exact hb rfl
 have hRH:ZN φ (look s'.H) w (DJ φ w t S n M0):=by
  refine ⟨fun b c hb hc=>r.hp.inj b c (hdom b hb) (hdom c hc),fun b k' hb=>?_,fun b hb o hm=>?_,fun x o hx=>?_,r.hp.gm.sub hM⟩
  ·obtain ⟨⟨k,h1,h2⟩,h3⟩:=Jf hH b k' hb
   have h4:=r.hp.blk b k h1
   cases k with
   | box ty cs =>
    simp only [leB] at h2
    obtain ⟨cs',rfl,h5⟩:=h2
    obtain ⟨c,h6,h7⟩:=h4
    exact ⟨c,h6,c2 _ _ h3 (Jt.2 _ _ _ h5 h7)⟩
   | arr ty S n=>simp only [leB] at h2; subst h2; exact h4
   | vec ty S es =>
    simp only [leB] at h2
    subst h2
    obtain ⟨c,cap,g1,g2,g3,g4,g5,g6,g7⟩:=h4
    exact ⟨c,cap,g1,g2,g3,g4,g5,g6,c2 _ _ (BA _ _) g7⟩
   | lp T nf st pd =>
    simp only [leB] at h2
    subst h2
    obtain ⟨tmps,d,g1,g2,g3⟩:=h4
    exact ⟨tmps,d,g1,g2,fun t x ht=>⟨(g3 t x ht).1,c1 _ _ (Uz h3 ht) (g3 t x ht).2⟩⟩
   | mp es =>
    simp only [leB] at h2
    subst h2
    obtain ⟨en,cl,g1,g2,g3⟩:=h4
    exact ⟨en,cl,g1,g2,c2 _ _ (FX _ _) g3⟩
   | mf es =>
    simp only [leB] at h2
    subst h2
    obtain ⟨en,cl,g1,g2,g3,g5⟩:=h4
    exact ⟨en,cl,g1,g2,c2 _ _ (Wp h3) g3,g5⟩
   | mg en cl es =>
    simp only [leB] at h2
    subst h2
    obtain ⟨g1,g2,g3,g5⟩:=h4
    exact ⟨g1,g2,c2 _ _ (Wp h3) g3,g5⟩
   | it m cl sn =>
    simp only [leB] at h2
    subst h2
    obtain ⟨g1,k0,g2,g3⟩:=h4
    obtain ⟨km,hkm⟩:=Ls.1 h3
    obtain ⟨k1,g5,g6⟩:=hh m km hkm
    rw [g2] at g5
    cases g5
    exact ⟨g1,km,hkm,Xr g6 g3⟩
  ·rcases hm with hm | ⟨hm,_⟩
   ·exact r.hp.fr b (hdom b hb) o hm
   ·exact htφ b hb hm
  ·rcases hx with hx | ⟨rfl,_,hx⟩
   ·exact r.hp.lt x o hx
   ·exact hx
 have hdfs:Marks φ D (look s'.H) a w:=by
  obtain ⟨h0,ms,h1,h2,h3⟩:=r.dfs
  exact ⟨h0,ms,h1,h2,fun x hx=>⟨(h3 x hx).1,(h3 x hx).2.1,fun b hb=>(h3 x hx).2.2 b (hdom b hb)⟩⟩
 refine ⟨⟨hdfs,r.siz,hRH,fun t x ht=>?_⟩,c1,hh,hM⟩
 obtain ⟨y,h1,h2,h3⟩:=Da hT t x ht
 exact ⟨(r.tm t y h1).1,c1 _ _ h3 (Jt.1 _ _ _ h2 (r.tm t y h1).2)⟩
def Ih (b k t:Nat) (x:AV) (q:Blk) (s:St):St:=⟨s.T,(t,q) :: s.H.map fun p=>if p.1=b then (p.1,uf k x p.2) else p⟩
def cellAt (b k:Nat) (s:St):Option AV:=(look s.H b).bind fun q=>match q with | .box _ cs=>cs[k]? | _=>none
def tu (b k t:Nat) (x:AV) (q:Blk) (u:Value) (K:St→Prop):St→Prop:=fun s'=>cellAt b k s'=some (.p (.val u))∧look s'.H t=none∧K (Ih b k t x q s')
theorem G8 {b k:Nat} {s:St} {x:AV} (h:cellAt b k s=some x):∃ ty cs,look s.H b=some (.box ty cs)∧cs[k]?=some x:=by
 obtain ⟨y,h1,h2⟩:=Option.bind_eq_some_iff.1 h
 split at h2
 ·exact ⟨_,_,h1,h2⟩
 ·cases h2
theorem kw {N:Nat} {D:DB} {φ φ':Nat→Nat} {M0:QR} {s s':St} {a a':Act} {w w':World} {b k t ty S n:Nat} {es:List (List PV)} {u:Value} {K:Gf} (r:Zw φ M0 N D (look s.T) (look s.H) a w) (hat:look s.H t=some (.arr ty S n)) (hok:SY t s (shr K s)=true) (hn:es.length=n) (hbt:¬ b=t)
  (hold:Qf φ (look s.H) w (MM φ (look s.H) M0) (.tsl S es t) u) (hc:cellAt b k s'=some (.p (.val u))) (htn:look s'.H t=none) (r':Zw φ' (DJ φ w t S n M0) N D (look s'.T) (look s'.H) a' w') (E':Zg φ (look (shr K s).H) w φ' (look s'.H) w') :
  ∃ φ'',Zw φ'' M0 N D (look (Ih b k t (.tsl S es t) (.arr ty S n) s').T) (look (Ih b k t (.tsl S es t) (.arr ty S n) s').H) a' w'∧Zg φ (look s.H) w φ'' (look (Ih b k t (.tsl S es t) (.arr ty S n) s').H) w' ∧
   ∀ x v,Qf φ' (look s'.H) w' (MM φ' (look s'.H) (DJ φ w t S n M0)) x v→Qf φ'' (look (Ih b k t (.tsl S es t) (.arr ty S n) s').H) w' (MM φ'' (look (Ih b k t (.tsl S es t) (.arr ty S n) s').H) M0) x v:=by
 obtain ⟨rd,_,hh,hMd⟩:=ku r hat hok
 simp only [SY,Ki] at hok
 obtain ⟨⟨⟨hT0,hH0⟩,hK⟩,hno⟩:=hok
 obtain ⟨NM,cs,hb,hcs⟩:=G8 hc
 have hH:look (Ih b k t (.tsl S es t) (.arr ty S n) s').H=upd (upd (look s'.H) b (.box NM (cs.set k (.tsl S es t)))) t (.arr ty S n):=by
  funext c
  simp only [Ih,look]
  rw [Di]
  by_cases e:t=c
  ·simp [upd,e]
  ·by_cases e2:b=c
   ·subst e2; simp [upd,e,hb,uf]
   ·simp [upd,e,e2]
 rw [hH]
 show ∃ φ'',Zw φ'' M0 N D (look s'.T) _ a' w'∧_
 obtain ⟨tf,htf⟩:∃ tf,tf=if φ t < w.heap.size then φ t else w'.heap.size+((s'.H.map (·.1)).map φ').foldr max 0+1:=⟨_,rfl⟩
 have hreal:φ t < w.heap.size→tf=φ t:=fun h=>by rw [htf,if_pos h]
 have hph:¬ φ t < w.heap.size→w'.heap.size≤tf:=fun h=>by rw [htf,if_neg h]; omega
 have hph0:¬ φ t < w.heap.size→n=0:=fun h=>by
  rcases r.hp.blk t _ hat with h0 | ⟨c,cap,h1,_⟩
  ·exact h0.1
  ·exact absurd (Rn.1 h1).1 h
 have hfr:∀ c,look s'.H c ≠ none→φ' c ≠ tf:=by
  intro c hc e
  by_cases hlt:φ t < w.heap.size
  ·rw [hreal hlt] at e
   exact r'.hp.fr c hc (n * S) (.inr ⟨e,Nat.le_refl _,by rw [e]; exact hlt⟩)
  ·have:=U6 ((s'.H.map (·.1)).map φ') (φ' c) (List.mem_map_of_mem (YE.1 hc))
   rw [htf,if_neg hlt] at e
   omega
 have hsame:φ t < w.heap.size→w'.heap[φ t]?=w.heap[φ t]?:=fun hlt=>E'.same (φ t) hlt fun c hc e=>rd.hp.fr c hc (n * S) (.inr ⟨e,Nat.le_refl _,by rw [e]; exact hlt⟩)
 have hdom:∀ c,look (shr K s).H c ≠ none→look s.H c ≠ none:=fun c hb=>by
  cases hq:look (shr K s).H c with
  | none=>exact absurd hq hb
  | some k'=>obtain ⟨k,h1,_⟩:=hh c k' hq; rw [h1]; simp
 have hmutd:∀ x o,RF φ (look (shr K s).H) x o→RF φ (look s.H) x o:=by
  rintro x o ⟨c,k',h1,h2,h3⟩
  obtain ⟨k,h4,h5⟩:=hh c k' h1
  refine ⟨c,k,h4,h2,?_⟩
  cases k with
  | arr ty S n=>simp only [leB] at h5; subst h5; exact h3
  | _=>trivial
 let h0:Qv:=upd (upd (look s'.H) b (.box NM (cs.set k (.tsl S es t)))) t (.arr ty S n)
 have h0t:h0 t=some (.arr ty S n):=by simp [h0,upd]
 have h0b:h0 b=some (.box NM (cs.set k (.tsl S es t))):=by simp [h0,upd,Ne.symm hbt]
 have h0c:∀ c,¬ t=c→¬ b=c→h0 c=look s'.H c:=fun c e1 e2=>by simp [h0,upd,e1,e2]
 have hφc:∀ c,¬ t=c→QK φ' t tf c=φ' c:=fun c e=>by simp [QK,e]
 have hφtt:QK φ' t tf t=tf:=by simp [QK]
 have hmut0:∀ x o,RF (QK φ' t tf) h0 x o→RF φ' (look s'.H) x o∨(x=tf∧n * S≤o):=by
  rintro x o ⟨c,q,h1,h2,h3⟩
  by_cases e1:t=c
  ·subst e1
   rw [h0t] at h1
   cases h1
   rw [hφtt] at h2
   exact .inr ⟨h2.symm,h3⟩
  ·rw [hφc c e1] at h2
   by_cases e2:b=c
   ·subst e2
    exact .inl ⟨b,_,hb,h2,trivial⟩
   ·rw [h0c c e1 e2] at h1
    exact .inl ⟨c,q,h1,h2,h3⟩
 have hMM:∀ x o,x < w'.heap.size→MM (QK φ' t tf) h0 M0 x o→MM φ' (look s'.H) (DJ φ w t S n M0) x o:=by
  rintro x o hx (h | h)
  ·rcases hmut0 x o h with h | ⟨h1,h2⟩
   ·exact .inl h
   ·by_cases hlt:φ t < w.heap.size
    ·rw [hreal hlt] at h1
     exact .inr (.inr ⟨h1,h2,by rw [h1]; exact hlt⟩)
    ·have:=hph hlt
     omega
  ·exact .inr (.inl h)
 have htc:∀ c q,look s'.H c=some q→¬ t=c:=fun c q hc e=>by subst e; rw [htn] at hc; cases hc
 have hbc:∀ c q,look s'.H c=some q→b=c→q=.box NM cs:=fun c q hc e=>by subst e; rw [hb] at hc; exact (Option.some.inj hc).symm
 have X:YM φ' (look s'.H) w' (QK φ' t tf) h0 w':=by
  refine ⟨fun c t' cs' hc=>⟨?_,hφc c (htc c _ hc)⟩,fun c t' S n hc=>?_,fun c t' S n hc=>?_,fun c k' x hc ho=>?_⟩
  ·by_cases e:b=c
   ·subst e; exact ⟨_,_,h0b⟩
   ·exact ⟨t',cs',by rw [h0c c (htc c _ hc) e]; exact hc⟩
  ·have e:¬ b=c:=fun e=>by cases hbc c _ hc e
   exact ⟨n,by rw [h0c c (htc c _ hc) e]; exact hc,Nat.le_refl _,fun _=>YJ (hφc c (htc c _ hc)) rfl⟩
  ·have e:¬ b=c:=fun e=>by cases hbc c _ hc e
   exact ⟨n,by rw [h0c c (htc c _ hc) e]; exact hc,Nat.le_refl _,fun _=>⟨hφc c (htc c _ hc),fun c hcc=>⟨c,hcc,rfl⟩⟩⟩
  ·have e:¬ b=c:=fun e=>by rw [hbc c _ hc e] at ho; cases ho
   exact ⟨⟨k',by rw [h0c c (htc c _ hc) e]; exact hc,ho⟩,hφc c (htc c _ hc)⟩
 have hkp:∀ x o v,w'.cell? ⟨x,o,none⟩=some v→¬ MM φ' (look s'.H) (DJ φ w t S n M0) x o→w'.cell? ⟨x,o,none⟩=some v∧¬ MM (QK φ' t tf) h0 M0 x o:=fun x o v h1 h2=>⟨h1,fun hm=>h2 (hMM x o (CZ h1) hm)⟩
 have hnew:Qf (QK φ' t tf) h0 w' (MM (QK φ' t tf) h0 M0) (.tsl S es t) u:=by
  simp only [Qf] at hold ⊢
  obtain ⟨p1,Vq,n2,p2,p3,p4⟩:=hold
  rw [hat] at p2
  cases p2
  refine ⟨(KF (w:=w) (w':=w') (M:=MM φ (look s.H) M0) (fun x o v g1 g2=>?_)).1 _ _ p1,ty,n,h0t,by omega,fun _=>?_⟩
  rotate_left
  ·rcases p4 hn with ⟨z1,z2,z3⟩ | ⟨cap,c2,q1,q2,q3,q4,q5⟩
   ·have hlt:¬ φ t < w.heap.size:=fun h=>by have:=Ep z3; omega
    exact .inl ⟨z1,z2,by rw [hφtt]; exact ZZ (hph hlt)⟩
   ·have hlt:φ t < w.heap.size:=(Rn.1 q2).1
    exact .inr ⟨cap,c2,by rw [hφtt,hreal hlt]; exact q1,by rw [hφtt,hreal hlt,hsame hlt]; exact q2,q3,q4,q5⟩
  obtain ⟨g3,g4⟩:=E'.keeps (DJ φ w t S n M0) x o v g1 (fun hm=>g2 (hMd x o hm))
  exact hkp x o v g3 g4
 refine ⟨QK φ' t tf,⟨?_,r'.siz,⟨?_,?_,?_,fun x o hx=>r'.hp.lt x o (.inl hx),r'.hp.gm.w,fun g hg o hm=>r'.hp.gm.m g hg o (hMM g o (Ot r'.hp.gm.w g hg) hm)⟩,fun c x hcx=>⟨(r'.tm c x hcx).1,(QX hkp X).1 _ _ (r'.tm c x hcx).2⟩⟩,?_,(QX hkp X).1⟩
 ·obtain ⟨g0,ms,g1,g2,g3⟩:=r'.dfs
  refine ⟨g0,ms,g1,g2,fun x hx=>?_⟩
  obtain ⟨g4,g5,g6⟩:=g3 x hx
  refine ⟨g4,g5,fun c hc e=>?_⟩
  by_cases e1:t=c
  ·subst e1
   rw [hφtt] at e
   by_cases hlt:φ t < w.heap.size
   ·rw [hreal hlt] at e
    rcases r.hp.blk t _ hat with ⟨_,q1⟩ | ⟨c2,cap,q1,_⟩
    ·rw [← e,hsame hlt,q1] at g5
     cases g5
    ·rw [← e,hsame hlt,q1] at g5
     cases g5
   ·have h1:=hph hlt
    have h2:=(Rn.1 g5).1
    omega
  ·rw [hφc c e1] at e
   refine g6 c ?_ e
   by_cases e2:b=c
   ·subst e2; rw [hb]; simp
   ·rw [← h0c c e1 e2]; exact hc
 ·have hd0:∀ c,h0 c ≠ none→¬ t=c→look s'.H c ≠ none:=fun c hc e1=>by
   by_cases e2:b=c
   ·subst e2; rw [hb]; simp
   ·rw [← h0c c e1 e2]; exact hc
  intro c d hc hd e
  by_cases e1:t=c <;> by_cases e2:t=d
  ·exact e1.symm.trans e2
  ·subst e1
   rw [hφtt,hφc d e2] at e
   exact absurd e.symm (hfr d (hd0 d hd e2))
  ·subst e2
   rw [hφtt,hφc c e1] at e
   exact absurd e (hfr c (hd0 c hc e1))
  ·rw [hφc c e1,hφc d e2] at e
   exact r'.hp.inj c d (hd0 c hc e1) (hd0 d hd e2) e
 ·intro c q hc
  by_cases e1:t=c
  ·subst e1
   have:q=.arr ty S n:=Option.some.inj (hc.symm.trans h0t)
   subst this
   rw [hφtt]
   by_cases hlt:φ t < w.heap.size
   ·rw [hreal hlt]
    rcases r.hp.blk t _ hat with ⟨q0,q1⟩ | ⟨c2,cap,q1,q2⟩
    ·exact .inl ⟨q0,by rw [hsame hlt]; exact q1⟩
    ·exact .inr ⟨c2,cap,by rw [hsame hlt]; exact q1,q2⟩
   ·exact .inl ⟨hph0 hlt,ZZ (hph hlt)⟩
  ·rw [hφc c e1]
   by_cases e2:b=c
   ·subst e2
    have:q=.box NM (cs.set k (.tsl S es t)):=Option.some.inj (hc.symm.trans h0b)
    subst this
    obtain ⟨c1,g1,g2⟩:=r'.hp.blk b _ hb
    obtain ⟨u',g3,g4⟩:=Hr g2 hcs
    simp only [Qf,Q5] at g4
    subst g4
    exact ⟨c1,g1,Ub ((QX hkp X).2 _ _ g2) g3 hnew⟩
   ·have hc':look s'.H c=some q:=by rw [← h0c c e1 e2]; exact hc
    exact ZW hkp X rfl (r'.hp.blk c q hc')
 ·intro c hc o hm
  by_cases e1:t=c
  ·subst e1
   rw [hφtt] at hm
   by_cases hlt:φ t < w.heap.size
   ·rw [hreal hlt] at hm
    exact r.hp.fr t (by rw [hat]; simp) o hm
   ·have h1:=hph hlt
    have h2:=r'.hp.lt _ _ (.inl hm)
    omega
  ·rw [hφc c e1] at hm
   refine r'.hp.fr c ?_ o (.inl hm)
   by_cases e2:b=c
   ·subst e2; rw [hb]; simp
   ·rw [← h0c c e1 e2]; exact hc
 ·have hkk:∀ c q,1000≤c→¬ t=c→look s.H c=some q→∃ q',look (shr K s).H c=some q'∧leB q q':=by
   intro c q hc e1 hq
   have hf:look (s.H.filter fun p=>p.1 != t) c=some q:=by
    rw [Ce (f:=fun x=>x != t) (by simpa using fun e=>e1 e.symm)]
    exact hq
   obtain ⟨q',h1⟩:=KQ hK c _ hc hf
   obtain ⟨q2,h2,h3⟩:=hh c q' h1
   rw [hq] at h2
   cases h2
   exact ⟨q',h1,h3⟩
  refine ⟨E'.os,E'.tape,E'.output,E'.size,fun x hx hno=>E'.same x hx (fun c hc=>hno c (hdom c hc)),fun x o hx hm=>E'.cell x o hx (fun h=>hm (hmutd x o h)),?_,?_,?_,?_,?_⟩
  ·intro x o hx hm
   rcases hmut0 x o hm with h | ⟨h1,h⟩
   ·exact hmutd x o (E'.mu x o hx h)
   ·by_cases hlt:φ t < w.heap.size
    ·rw [hreal hlt] at h1
     exact ⟨t,_,hat,h1.symm,h⟩
    ·have:=hph hlt
     have:=E'.size
     omega
  ·intro c t' q hc hq
   have e1:¬ t=c:=fun e=>by subst e; rw [hat] at hq; cases hq
   obtain ⟨q',h1,h2⟩:=hkk c _ hc e1 hq
   simp only [leB] at h2
   obtain ⟨cs',rfl,_⟩:=h2
   obtain ⟨⟨cs2,h3⟩,h4⟩:=E'.kb c t' cs' hc h1
   refine ⟨?_,by rw [hφc c e1]; exact h4⟩
   by_cases e2:b=c
   ·subst e2
    rw [hb] at h3
    cases h3
    exact ⟨_,h0b⟩
   ·exact ⟨cs2,(h0c c e1 e2).trans h3⟩
  ·intro c t' S' n' hc hq
   by_cases e1:t=c
   ·subst e1
    rw [hat] at hq
    cases hq
    refine ⟨n,h0t,Nat.le_refl _,fun _=>?_⟩
    by_cases hlt:φ t < w.heap.size
    ·exact YJ (hφtt.trans (hreal hlt)) (hsame hlt)
    ·exact DU (ZZ zo) (by rw [hφtt]; exact ZZ (hph hlt))
   ·obtain ⟨q',h1,h2⟩:=hkk c _ hc e1 hq
    simp only [leB] at h2
    subst h2
    obtain ⟨n2,h3,h4,h5⟩:=E'.kt c t' S' n' hc h1
    have e2:¬ b=c:=fun e=>by cases hbc c _ h3 e
    exact ⟨n2,(h0c c e1 e2).trans h3,h4,fun e=>by rw [hφc c e1]; exact h5 e⟩
  ·intro c t' S' es' hc hq
   have e1:¬ t=c:=fun e=>by subst e; rw [hat] at hq; cases hq
   obtain ⟨q',h1,h2⟩:=hkk c _ hc e1 hq
   simp only [leB] at h2
   subst h2
   obtain ⟨n2,h3,h4,h5⟩:=E'.kv c t' S' es' hc h1
   have e2:¬ b=c:=fun e=>by cases hbc c _ h3 e
   exact ⟨n2,(h0c c e1 e2).trans h3,h4,fun e=>⟨by rw [hφc c e1]; exact (h5 e).1,(h5 e).2⟩⟩
  ·intro c q x hc hq ho
   have e1:¬ t=c:=fun e=>by subst e; rw [hat] at hq; cases hq; cases ho
   obtain ⟨q',h1,h2⟩:=hkk c _ hc e1 hq
   obtain ⟨⟨q2,h3,h4⟩,h5⟩:=E'.ko c q' x hc h1 (Xr h2 ho)
   have e2:¬ b=c:=fun e=>by rw [hbc c _ h3 e] at h4; cases h4
   exact ⟨⟨q2,(h0c c e1 e2).trans h3,h4⟩,by rw [hφc c e1]; exact h5⟩
section
variable {R:Type} {a:Option R} {P:Program} {N:Nat} {f:FuncId} {args:List AV} {dst:Option Tmp} {s:St} {K:R→St→Prop} {Q:R→AX→St→Prop}
def tC {R:Type} (b k t:Nat) (x:AV) (q:Blk) (u:Value) (K:R→St→Prop):R→St→Prop:=fun r=>tu b k t x q u (K r)
def tF {R:Type} (b k t:Nat) (x:AV) (q:Blk) (u:Value) (Q:R→AX→St→Prop):R→AX→St→Prop:=fun r e=>tu b k t x q u (Q r e)
theorem BR (b k t ty S n:Nat) (es:List (List PV)) (C:Gf) (hb:cellAt b k s=some (.tsl S es t)) (hat:look s.H t=some (.arr ty S n)) (hn:es.length=n) (hok:∀ aw al ac,(SY t (UC b k (.p (.val (.slice aw al ac))) s) (shr C (UC b k (.p (.val (.slice aw al ac))) s))&&Kj (look (shr C (UC b k (.p (.val (.slice aw al ac))) s)).H) args)=true)
  (h:∀ aw al ac,Dr a P N f args dst (shr C (UC b k (.p (.val (.slice aw al ac))) s)) (tC b k t (.tsl S es t) (.arr ty S n) (.slice aw al ac) K) (tF b k t (.tsl S es t) (.arr ty S n) (.slice aw al ac) Q)):Dr a P N f args dst s K Q:=by
 refine ⟨fun r hr=>?_⟩
 intro φ M0 D ac w vs r1 ha
 obtain ⟨qG,cs,hq,Lr⟩:=G8 hb
 obtain ⟨c,g1,g2⟩:=r1.hp.blk b _ hq
 obtain ⟨u,g3,g4⟩:=Hr g2 Lr
 have hsl:∃ aw al ac,u=.slice aw al ac:=by
  have g5:=g4
  simp only [Qf] at g5
  obtain ⟨p1,Vq,n2,p2,p3,p4⟩:=g5
  rw [hat] at p2
  cases p2
  rcases p4 hn with ⟨_,q1,_⟩ | ⟨cap,c2,q1,_⟩
  ·exact ⟨_,_,_,q1⟩
  ·exact ⟨_,_,_,q1⟩
 obtain ⟨aw,al,ac1,hsl⟩:=hsl
 have hbt:¬ b=t:=fun e=>by subst e; rw [hq] at hat; cases hat
 have hU:look (UC b k (.p (.val u)) s).H=upd (look s.H) b (.box qG (cs.set k (.p (.val u)))):=SX hq
 have hk:∀ x o v,w.cell? ⟨x,o,none⟩=some v→¬ MM φ (look s.H) M0 x o→w.cell? ⟨x,o,none⟩=some v∧¬ MM φ (upd (look s.H) b (.box qG (cs.set k (.p (.val u))))) M0 x o:=fun x o v g1 g2=>⟨g1,fun hm=>g2 (hm.imp (BP hq x o) id)⟩
 have r2:Zw φ M0 N D (look (UC b k (.p (.val u)) s).T) (look (UC b k (.p (.val u)) s).H) ac w:=by
  rw [hU]
  refine O3 r1 hq fun c2 hc2=>?_
  rw [g1] at hc2
  cases hc2
  exact Ub g2 g3 (by simp [Qf,Q5])
 have hut:look (UC b k (.p (.val u)) s).H t=some (.arr ty S n):=by rw [hU]; simp [upd,hbt,hat]
 have hold:Qf φ (look (UC b k (.p (.val u)) s).H) w (MM φ (look (UC b k (.p (.val u)) s).H) M0) (.tsl S es t) u:=by
  rw [hU]
  exact (QX hk (Tz hq)).1 _ _ g4
 have E1:Zg φ (look s.H) w φ (look (UC b k (.p (.val u)) s).H) w:=by rw [hU]; exact BQ hq
 have ha2:Qi φ (look (UC b k (.p (.val u)) s).H) w (MM φ (look (UC b k (.p (.val u)) s).H) M0) args vs:=by
  rw [hU]
  exact (QX hk (Tz hq)).2 _ _ ha
 have hok0:=hok aw al ac1
 rw [← hsl] at hok0
 simp only [Ki] at hok0
 obtain ⟨hok1,hok2⟩:=hok0
 obtain ⟨r3,c1,hh,hMd⟩:=ku r2 hut hok1
 have ha3:=(BB (φ:=φ) (w:=w) hMd hh).2 _ _ hok2 ha2
 have hu:=h aw al ac1
 rw [← hsl] at hu
 refine Calls.mono (hu.h r hr φ _ D ac w vs r3 ha3) fun e w' he=>?_
 cases e with
 | returned v =>
  obtain ⟨φ',s',⟨k1,k2,k3⟩,r',E'⟩:=he
  obtain ⟨φ'',r4,E4,_⟩:=kw r2 hut hok1 hn hbt hold k1 k2 r' E'
  exact ⟨φ'',_,k3,r4,E1.trans E4⟩
 | panicked chain =>
  obtain ⟨φ',x,s',⟨k1,k2,k3⟩,r',E',hx⟩:=he
  obtain ⟨φ'',r4,E4,hX⟩:=kw r2 hut hok1 hn hbt hold k1 k2 r' E'
  refine ⟨φ'',x,_,k3,r4,E1.trans E4,?_⟩
  cases x with
  | panic v =>
   obtain ⟨y,e1,e2⟩:=hx
   exact ⟨y,e1,hX _ _ e2⟩
  | _=>exact hx
 | outgrown=>exact he
theorem S9 {b k t:Nat} {x:AV} {q:Blk} {u:Value} {s':St} (s0:St) (e:Ih b k t x q s'=s0) (hb:cellAt b k s'=some (.p (.val u))) (ht:look s'.H t=none) (h:F7 a K s0):F7 a (tC b k t x q u K) s':=by
 subst e
 exact ⟨fun r hr=>⟨hb,ht,h.h r hr⟩⟩
theorem af {b k t:Nat} {x:AV} {q:Blk} {u:Value} {s':St} {ex:AX} (s0:St) (e:Ih b k t x q s'=s0) (hb:cellAt b k s'=some (.p (.val u))) (ht:look s'.H t=none) (h:Zy a Q ex s0):Zy a (tF b k t x q u Q) ex s':=by
 subst e
 exact ⟨fun r hr=>⟨hb,ht,h.h r hr⟩⟩
end
section
variable {P:Program} {o:Oper} {T:Nat→Option AV} {h:Qv}
theorem kz (l:List UInt8) (a b:Nat):(RG l).extract a b=RG ((l.take b).drop a):=by
 apply ByteArray.ext
 simp [RG,ByteArray.data_extract,List.drop_take]
theorem mR (l:List UInt8):(RG l).size=l.length:=by simp [RG,ByteArray.size]
theorem YI {α β:Type} {P:Program} {s:Sem α} {a:α} (f:α→Sem β) (h:Yp P s=some a):Yp P (s >>= f)=Yp P (f a):=by
 induction s with
 | pure b=>simp only [Yp,Zd] at h; subst h; rfl
 | program k ih=>exact ih P h
 | mark m k ih=>exact ih h
 | _=>simp [Yp] at h
theorem DK {t:TypeId} {d:TypeDesc} (h:P.underlying t=some d):Yp P (underlying t)=some d:=by
 unfold underlying
 rw [YI (a:=P) _ rfl,h]
 rfl
theorem BU {k:IntKind} {i:Int} {y:Nat} {c:BoundsCode} (h0:0≤i) (h1:i≤y):Yp P (Instr.sliceBound (.int k i) y c)=some i.toNat:=by
 simp [Instr.sliceBound,asIntOf,h0,h1]
 rfl
def uL (T:Nat→Option AV) (x:Option Operand):Option Value:=x.map fun y=>(known T y).getD undef
theorem Aa {x:Operand} {d n:Int} (h:BK T d (some x)=some n):∃ k,known T x=some (.int k n):=by
 simp only [BK] at h
 split at h
 ·rename_i k m hx
  cases h
  exact ⟨k,by simp [known,hx]; rfl⟩
 ·cases h
theorem ug {lo hi:Option Operand} {len:Nat} {a b:Int} (hlo:BK T 0 lo=some a) (hhi:BK T len hi=some b) (h0:0≤a) (h1:a≤b) (h2:b≤len):Yp P (Instr.sliceBounds false len len (uL T lo) (uL T hi) none)=some (a.toNat,b.toNat,len):=by
 have hb:(b.toNat:Int)=b:=by omega
 cases hi with
 | none =>
  simp only [BK,Zd] at hhi
  subst hhi
  cases lo with
  | none =>
   simp only [BK,Zd] at hlo
   subst hlo
   simp [Instr.sliceBounds,uL]
   rfl
  | some x =>
   obtain ⟨k,hk⟩:=Aa hlo
   simp only [Instr.sliceBounds,uL,Option.map_some,Option.map_none,hk,Option.getD_some,pure_bind]
   rw [YI _ (BU h0 h1)]
   rfl
 | some y =>
  obtain ⟨k',hk'⟩:=Aa hhi
  cases lo with
  | none =>
   simp only [BK,Zd] at hlo
   subst hlo
   simp only [Instr.sliceBounds,uL,Option.map_some,Option.map_none,hk',Option.getD_some,pure_bind]
   rw [YI _ (BU zo h2)]
   rfl
  | some x =>
   obtain ⟨k,hk⟩:=Aa hlo
   simp only [Instr.sliceBounds,uL,Option.map_some,hk,hk',Option.getD_some,pure_bind]
   rw [YI _ (BU zo h2)]
   rw [YI _ (BU h0 zo)]
   rfl
theorem Cf {t:TypeId} {x:Operand} {lo hi:Option Operand} {l:List UInt8} {a b:Int} (ho:o.op=.slice t x lo hi none) (ht:P.underlying t=some .string) (hx:Zr T x=some (.p (.val (.string (RG l))))) (hlo:BK T 0 lo=some a) (hhi:BK T l.length hi=some b)
  (hc:sliceB a b l.length=true):VA P o T h=some (.p (.val (.string (RG ((l.take b.toNat).drop a.toNat)))),none,[]):=by
 simp only [sliceB,decide_eq_true_eq] at hc
 obtain ⟨c1,c2,c3⟩:=hc
 have h1:LC P T t x lo hi none=none:=by simp [LC,ht,hx]
 have hk:known T x=some (.string (RG l)):=by simp [known,hx]; rfl
 have hall:(allKnown T o.op.operands.toList&&Xf o.op)=true:=by
  rw [ho]
  have e1:∀ y,lo=some y→(known T y).isSome=true:=by
   rintro y rfl
   obtain ⟨k,hk⟩:=Aa hlo
   rw [hk]; rfl
  have e2:∀ y,hi=some y→(known T y).isSome=true:=by
   rintro y rfl
   obtain ⟨k,hk⟩:=Aa hhi
   rw [hk]; rfl
  cases lo with
  | none =>
   cases hi with
   | none=>simp [Op.operands,allKnown,Xf,hk]
   | some y=>simp [Op.operands,allKnown,Xf,hk,e2 y rfl]
  | some x =>
   cases hi with
   | none=>simp [Op.operands,allKnown,Xf,hk,e1 x rfl]
   | some y=>simp [Op.operands,allKnown,Xf,hk,e1 x rfl,e2 y rfl]
 have hrun:Yp P (execOp (fun x=>(known T x).getD undef) o)=some (.value (.string (RG ((l.take b.toNat).drop a.toNat)))):=by
  unfold execOp
  rw [ho]
  dsimp only
  have:Yp P (Instr.sliceAt t ((known T x).getD undef) (uL T lo) (uL T hi) none)=some (.string (RG ((l.take b.toNat).drop a.toNat))):=by
   rw [hk]
   unfold Instr.sliceAt
   rw [YI _ (DK ht)]
   show Yp P (Instr.slice t (.string (RG l)) (uL T lo) (uL T hi) none)=_
   unfold Instr.slice
   rw [YI _ (DK ht)]
   have hB:=ug (P:=P) (T:=T) hlo hhi c1 c2 c3
   rw [← mR l] at hB
   have:Yp P (Instr.sliceBounds false (RG l).size (RG l).size (uL T lo) (uL T hi) none >>= fun x=>(pure (.string ((RG l).extract x.1 x.2.1)):Sem Value))=some (.string (RG ((l.take b.toNat).drop a.toNat))):=by
    rw [YI _ hB,kz]
    rfl
   exact this
  exact (YI _ this)
 simp only [VA,ho,h1,RA]
 unfold U0
 rw [if_pos hall,hrun]
 rfl
end
def dh:AV→Bool
 | .p (.val (.slice none 0 0))=>true
 | .vnil=>true
 | _=>false
theorem kC {φ:Nat→Nat} {h:Qv} {w:World} {M:QR} {x:AV} {v:Value} (hx:dh x=true) (hr:Qf φ h w M x v):v=.slice none 0 0:=by
 unfold dh at hx
 split at hx
 ·simpa [Qf,Q5] using hr
 ·simpa [Qf] using hr
 ·cases hx
def pnC (S t:Nat):List (Nat × Nat)→St→St
 | [],s=>s
 | (b,k) :: l,s=>pnC S t l (UC b k (.tsl S [] t) s)
def dm (S t:Nat):List (Nat × Nat)→St→Bool
 | [],_=>true
 | (b,k) :: l,s=>(match cellAt b k s with | some x=>dh x | none=>false)&&dm S t l (UC b k (.tsl S [] t) s)
def pnS (ty S t:Nat) (ts:List Nat) (bs:List (Nat × Nat)) (s:St):St:=pnC S t bs ⟨ts.map (fun x=>(x,AV.tsl S [] t))++s.T,(t, .arr ty S 0) :: s.H⟩
def QaJ (ty S t:Nat) (ts:List Nat) (bs:List (Nat × Nat)) (s:St):Bool :=
 (look s.H t).isNone&&ts.all (fun x=>match look s.T x with | some v=>dh v | none=>false)&&dm S t bs ⟨ts.map (fun x=>(x,AV.tsl S [] t))++s.T,(t, .arr ty S 0) :: s.H⟩
def dn (φ:Nat→Nat) (h:Qv) (w:World) (ty S t:Nat):Prop:=w.heap[φ t]?=none∧h t=some (.arr ty S 0)
theorem mU {φ:Nat→Nat} {h:Qv} {w:World} {M:QR} {ty S t:Nat} (p:dn φ h w ty S t):Qf φ h w M (.tsl S [] t) (.slice none 0 0):=by
 simp only [Qf,Q5]
 exact ⟨.inr ⟨trivial,none,0,rfl⟩,ty,0,p.2,Nat.le_refl _,fun _=>.inl (by simp [p.1])⟩
theorem mV {N:Nat} {D:DB} {φ:Nat→Nat} {M0:QR} {a:Act} {w:World} {ty S t:Nat}:∀ (bs:List (Nat × Nat)) (s:St),dm S t bs s=true→dn φ (look s.H) w ty S t→Zw φ M0 N D (look s.T) (look s.H) a w →
  Zw φ M0 N D (look (pnC S t bs s).T) (look (pnC S t bs s).H) a w∧Zg φ (look s.H) w φ (look (pnC S t bs s).H) w
 | [],s,_,_,r=>⟨r,Zg.refl _ _ _⟩
 | (b,k) :: bs,s,h,p,r=>by
  simp only [dm,Ki] at h
  obtain ⟨h1,h2⟩:=h
  cases hc:cellAt b k s with
  | none=>rw [hc] at h1; cases h1
  | some x =>
   rw [hc] at h1
   obtain ⟨qG,cs,hb,hcs⟩:=G8 hc
   have hU:=SX (k:=k) (x:=.tsl S [] t) hb
   have hbt:¬ b=t:=fun e=>by rw [e,p.2] at hb; cases hb
   have p':dn φ (look (UC b k (.tsl S [] t) s).H) w ty S t:=⟨p.1,by rw [hU]; simp [upd,hbt,p.2]⟩
   have r':Zw φ M0 N D (look (UC b k (.tsl S [] t) s).T) (look (UC b k (.tsl S [] t) s).H) a w:=by
    rw [hU]
    refine O3 r hb fun c hcc=>?_
    obtain ⟨c0,g1,g2⟩:=r.hp.blk b _ hb
    rw [g1] at hcc
    cases hcc
    obtain ⟨u,g3,g4⟩:=Hr g2 hcs
    rw [kC h1 g4] at g3
    exact Ub g2 g3 (mU p)
   obtain ⟨r2,E2⟩:=mV bs (UC b k (.tsl S [] t) s) h2 p' r'
   have E1:Zg φ (look s.H) w φ (look (UC b k (.tsl S [] t) s).H) w:=by rw [hU]; exact BQ hb
   exact ⟨r2,E1.trans E2⟩
theorem kD {S t:Nat} {T:List (Nat × AV)}:∀ (ts:List Nat) (x:Nat),look (ts.map (fun x=>(x,AV.tsl S [] t))++T) x=if x ∈ ts then some (.tsl S [] t) else look T x
 | [],x=>by simp
 | y :: ts,x=>by
  simp only [List.map_cons,List.cons_append,look,List.mem_cons]
  by_cases e:y=x
  ·simp [e]
  ·have e':¬ x=y:=fun h=>e h.symm
   simp only [e,e',if_false,false_or]
   exact kD ts x
theorem KZ {N:Nat} {s:St} (ty S t:Nat) (ts:List Nat) (bs:List (Nat × Nat)) (hok:QaJ ty S t ts bs s=true):Weak N s (pnS ty S t ts bs s):=by
 intro φ M0 D a w r
 simp only [QaJ,Ki] at hok
 obtain ⟨⟨h1,h2⟩,h3⟩:=hok
 have hn:look s.H t=none:=by cases e:look s.H t with | none=>rfl | some x=>rw [e] at h1; cases h1
 obtain ⟨f,hf⟩:∃ f,f=w.heap.size+((s.H.map (·.1)).map φ).foldr max 0+1:=⟨_,rfl⟩
 have hfn:∀ c,look s.H c ≠ none→φ c ≠ f:=by
  intro c hc e
  have:=U6 ((s.H.map (·.1)).map φ) (φ c) (List.mem_map_of_mem (YE.1 hc))
  omega
 have hff:w.heap.size≤f:=by omega
 have hne:∀ c q,look s.H c=some q→¬ t=c:=fun c q hc e=>by rw [e] at hn; rw [hn] at hc; cases hc
 have hφt:QK φ t f t=f:=by simp [QK]
 have X:YM φ (look s.H) w (QK φ t f) (upd (look s.H) t (.arr ty S 0)) w:=by
  refine ⟨fun c t' cs' hc=>?_,fun c t' S n hc=>?_,fun c t' S n hc=>?_,fun c k' x hc ho=>?_⟩
  ·have:=hne c _ hc
   exact ⟨⟨t',cs',by simp [upd,this,hc]⟩,by simp [QK,this]⟩
  ·have:=hne c _ hc
   exact ⟨n,by simp [upd,this,hc],Nat.le_refl _,fun _=>YJ (by simp [QK,this]) rfl⟩
  ·have:=hne c _ hc
   exact ⟨n,by simp [upd,this,hc],Nat.le_refl _,fun _=>⟨by simp [QK,this],fun c hcc=>⟨c,hcc,rfl⟩⟩⟩
  ·have:=hne c _ hc
   exact ⟨⟨k',by simp [upd,this,hc],ho⟩,by simp [QK,this]⟩
 have hmut:∀ x o,x < w.heap.size→RF (QK φ t f) (upd (look s.H) t (.arr ty S 0)) x o→RF φ (look s.H) x o:=by
  rintro x o hx ⟨c,q,g1,g2,g3⟩
  by_cases e:t=c
  ·simp only [QK,e,if_true] at g2
   omega
  ·simp only [upd,QK,e,if_false] at g1 g2
   exact ⟨c,q,g1,g2,g3⟩
 have E:Zg φ (look s.H) w (QK φ t f) (upd (look s.H) t (.arr ty S 0)) w :=
  ⟨rfl,rfl,rfl,Nat.le_refl _,fun _ _ _=>rfl,fun _ _ _ _=>rfl,fun x o hx hm=>hmut x o hx hm,
   fun c t' cs _ hc=>by have:=hne c _ hc; exact ⟨⟨cs,by simp [upd,this,hc]⟩,by simp [QK,this]⟩,fun c t' S n _ hc=>X.t c t' S n hc,fun c t' S n _ hc=>X.v c t' S n hc,fun c k x _ hc ho=>X.o c k x hc ho⟩
 have hp:ZN (QK φ t f) (upd (look s.H) t (.arr ty S 0)) w M0:=by
  refine ⟨fun c d hc hd e=>?_,fun c q hc=>?_,fun c hc o hm=>?_,r.hp.lt,r.hp.gm.evol E⟩
  ·by_cases e1:t=c <;> by_cases e2:t=d
   ·exact e1.symm.trans e2
   ·have e3:¬ c=d:=fun x=>e2 (e1.trans x)
    simp only [QK,e1,if_true,e3,if_false] at e
    simp only [upd,e2,if_false] at hd
    exact absurd e.symm (hfn d hd)
   ·have e3:¬ d=c:=fun x=>e1 (e2.trans x)
    simp only [QK,e2,if_true,e3,if_false] at e
    simp only [upd,e1,if_false] at hc
    exact absurd e (hfn c hc)
   ·simp only [QK,e1,e2,if_false] at e
    simp only [upd,e1,e2,if_false] at hc hd
    exact r.hp.inj c d hc hd e
  ·by_cases e:t=c
   ·have:q=.arr ty S 0:=by simpa [upd,e] using hc.symm
    subst this
    rw [← e,hφt]
    exact .inl ⟨rfl,ZZ hff⟩
   ·have hc':look s.H c=some q:=by simpa [upd,e] using hc
    have h3:QK φ t f c=φ c:=by simp [QK,e]
    rw [h3]
    exact ZW (E.keeps M0) X rfl (r.hp.blk c q hc')
  ·by_cases e:t=c
   ·rw [← e,hφt] at hm
    have:=r.hp.lt _ _ hm
    omega
   ·have h3:QK φ t f c=φ c:=by simp [QK,e]
    rw [h3] at hm
    exact r.hp.fr c (by simpa [upd,e] using hc) o hm
 have r1:=r.keep E X hp
 have pa:dn (QK φ t f) (upd (look s.H) t (.arr ty S 0)) w ty S t:=⟨by rw [hφt]; exact ZZ hff,by simp [upd]⟩
 let s1:St:=⟨ts.map (fun x=>(x,AV.tsl S [] t))++s.T,(t, .arr ty S 0) :: s.H⟩
 have r2:Zw (QK φ t f) M0 N D (look s1.T) (look s1.H) a w:=by
  refine ⟨r1.dfs,r1.siz,r1.hp,fun x v hx=>?_⟩
  rw [kD] at hx
  by_cases hm:x ∈ ts
  ·rw [if_pos hm] at hx
   cases hx
   have h4:=List.all_eq_true.1 h2 x hm
   cases hl:look s.T x with
   | none=>rw [hl] at h4; cases h4
   | some y =>
    rw [hl] at h4
    obtain ⟨g1,g2⟩:=r1.tm x y hl
    refine ⟨g1,?_⟩
    rw [kC h4 g2]
    exact mU pa
  ·rw [if_neg hm] at hx
   exact r1.tm x v hx
 obtain ⟨r3,E3⟩:=mV (ty:=ty) bs s1 h3 pa r2
 exact ⟨_,r3,E.trans E3⟩
section
variable {P:Program} {o:Oper} {T:Nat→Option AV} {h:Qv}
theorem Jh {w k:List UInt8} {f:Bool} {x:AV} {l:List (Bool × List UInt8 × AV)} (h:(Q8 w k&&f)=true):GU w ((f,k,x) :: l)=some x:=by simp only [GU,h,if_true]
theorem Qx {w k:List UInt8} {f:Bool} {x:AV} {l:List (Bool × List UInt8 × AV)} {q:Option AV} (h:(Q8 w k&&f)=false) (h2:GU w l=q):GU w ((f,k,x) :: l)=q:=by simp only [GU,h,Bool.false_eq_true,if_false]; exact h2
theorem dw {w:List UInt8}:GU w []=none:=rfl
theorem Ji {t kt e:TypeId} {x ix:Operand} {ok:Bool} {b:Nat} {w:List UInt8} {es:List (Bool × List UInt8 × AV)} {v:AV} (ho:o.op=.lookup t x ix ok) (ht:P.underlying t=some (.map kt e)) (hk:P.underlying kt=some .string) (hx:Zr T x=some (.mv b)) (hi:Zr T ix=some (.p (.val (.string (RG w))))) (hb:h b=some (.mf es)) (hf:GU w es=some v) :
  VA P o T h=some (R6 ok v true,none,[b]):=by
 simp [VA,RA,ho,JV,Jd,ht,hk,hx,hi,hb,TS,hf]
theorem dx {t kt e:TypeId} {x ix:Operand} {ok:Bool} {b:Nat} {w:List UInt8} {es:List (Bool × List UInt8 × AV)} {z:Value} (ho:o.op=.lookup t x ix ok) (ht:P.underlying t=some (.map kt e)) (hk:P.underlying kt=some .string) (hx:Zr T x=some (.mv b)) (hi:Zr T ix=some (.p (.val (.string (RG w))))) (hb:h b=some (.mf es)) (hz:(P.info? e).bind (·.zero)=some z) (hf:GU w es=none) :
  VA P o T h=some (R6 ok (Es z) false,none,[b]):=by
 simp [VA,RA,ho,JV,Jd,ht,hk,hx,hi,hb,TS,hf,hz]
end
def ah (b:Nat) (k:Blk) (s:St):St:=⟨s.T,s.H.map fun p=>if p.1=b then (p.1,k) else p⟩
theorem I8 {b:Nat} {k k0:Blk}:∀ (H:List (Nat × Blk)) (c:Nat),look H b=some k0→look (H.map fun p=>if p.1=b then (p.1,k) else p) c=upd (look H) b k c
 | H,c,h0=>by
  have:∀ (H:List (Nat × Blk)) (c:Nat),look (H.map fun p=>if p.1=b then (p.1,k) else p) c=if b=c then (look H c).map (fun _=>k) else look H c:=by
   intro H
   induction H with
   | nil=>intro c; simp [look]
   | cons p H ih =>
    intro c
    obtain ⟨d,q⟩:=p
    rw [List.map_cons]
    by_cases hdb:d=b
    ·subst hdb
     simp only [if_true,look]
     by_cases e:d=c
     ·simp [e]
     ·simp only [e,if_false]; rw [ih]; simp [e]
    ·simp only [hdb,if_false,look]
     by_cases e:d=c
     ·subst e; simp [Ne.symm hdb]
     ·simp only [e,if_false]; exact ih c
  rw [this]
  by_cases e:b=c
  ·subst e; simp [upd,h0]
  ·simp [upd,e]
theorem Za {P:Program} {kt:TypeId} (hk:P.underlying kt=some .string) (a b:List UInt8):eqV P 4 kt (.string (RG a)) (.string (RG b))=some (Q8 a b):=by
 have:=wL hk (RG a) b
 rw [TS] at this
 exact this
end Go.Abs
namespace Go.Abs
open Go Go.ChangeShapes Go.WideShapes
def BV (P:Program) (total:Nat):Nat→List Field→Bool
 | off,[]=>off == total
 | off,f :: r=>f.offset == off&&BV P total (off+P.cellsOf f.type) r
def U1 (P:Program):Nat→TypeId→Bool
 | 0,_=>false
 | d+1,t=>match P.underlying t with
  | some .bool=>P.cellsOf t == 1
  | some (.int _)=>P.cellsOf t == 1
  | some .string=>P.cellsOf t == 1
  | some (.slice e)=>P.cellsOf t == 1&&Nat.blt 0 (P.cellsOf e)&&U1 P d e
  | some (.struct fs)=>BV P (P.cellsOf t) 0 fs.toList&&fs.toList.all (fun f=>U1 P d f.type)
  | some (.array n e)=>n * P.cellsOf e == P.cellsOf t&&U1 P d e
  | _=>false
def dz (S:TypeId→List PV→Prop):List Field→List PV→Prop
 | [],cs=>cs=[]
 | f :: r,cs=>∃ a b,cs=a++b∧S f.type a∧dz S r b
def ShN (S:List PV→Prop):Nat→List PV→Prop
 | 0,cs=>cs=[]
 | n+1,cs=>∃ a b,cs=a++b∧S a∧ShN S n b
def Sh (P:Program):Nat→TypeId→List PV→Prop
 | 0,_,_=>False
 | d+1,t,cs=>match P.underlying t with
  | some .bool=>∃ b,cs=[.val (.bool b)]
  | some (.int k)=>∃ n,cs=[.val (.int k n)]∧(Lit.int k n).wf=true
  | some .string=>∃ s:List UInt8,cs=[.val (.string (RG s))]∧s.length≤maxLen
  | some (.slice e)=>∃ es,cs=[.sl (P.cellsOf e) es]∧es.length≤maxLen∧∀ x ∈ es,Sh P d e x
  | some (.struct fs)=>dz (Sh P d) fs.toList cs
  | some (.array n e)=>ShN (Sh P d e) n cs
  | _=>False
section
variable {H:Type} {enc:TypeId × Value→H} {P:Program} {w:World} {held:Bool} {φ:Nat→Nat} {M:QR}
theorem Ab {base:Nat} {a:Addr} {n:Nat} {vs:List Value} (h:w.cells? base a n=some vs):vs.length=n∧∀ i,i < n→w.cell? (a.add i)=vs[i]?:=by
 unfold World.cells? at h
 split at h
 ·have h1:=mapM_some_length h
  refine ⟨by simpa using h1,fun i hi=>?_⟩
  exact mapM_some_get h i i (by simp [hi])
 ·cases h
def Got (P:Program) (w:World) (φ:Nat→Nat) (M:QR) (d:Nat) (t:TypeId) (vs:List Value):Prop :=
 ∃ cs:List PV,Sh P d t cs∧Qi φ GV w M (cs.map .p) vs∧(∀ v ∈ vs,v.oneCell'=true)
theorem BX {d:Nat} {t:TypeId} {c:PV} {v:Value} (h1:Sh P d t [c]) (h2:Q5 w M c v) (h3:v.oneCell'=true):Got P w φ M d t [v] :=
 ⟨[c],h1,by simp only [List.map_cons,List.map_nil,Qi,Qf]; exact ⟨v,[],rfl,h2,rfl⟩,by simpa using h3⟩
theorem I9 {φ:Nat→Nat} {h:Qv} {w:World} {M:QR} {a b:List AV} {l m:List Value} (h1:Qi φ h w M a l) (h2:Qi φ h w M b m):Qi φ h w M (a++b) (l++m):=ZA h1 h2
theorem add_zero (a:Addr):a.add 0=a:=rfl
theorem kE {b off n:Nat}:(⟨b,off,none⟩:Addr).add n=⟨b,off+n,none⟩:=by
 unfold Addr.add
 split
 ·rename_i h; subst h; rfl
 ·rfl
theorem cell?_spot {a:Addr} {v:Value} (h:w.cell? a=some v):a.spot=none:=by
 unfold World.cell? at h
 split at h
 ·split at h
  ·cases h
  ·rename_i h2; cases hs:a.spot with
   | none=>rfl
   | some s=>simp [hs] at h2
 ·cases h
theorem Oa {Q:Nat→List PV→Prop}:∀ (n:Nat),(∀ i,i < n→∃ c,Q i c)→∃ es:List (List PV),es.length=n∧∀ i c,es[i]?=some c→Q i c
 | 0,_=>⟨[],rfl,by simp⟩
 | n+1,h=>by
  obtain ⟨es,h1,h2⟩:=Oa n (fun i hi=>h i zo)
  obtain ⟨c,hc⟩:=h n zo
  refine ⟨es++[c],by simp [h1],fun i c' hi=>?_⟩
  rcases Nat.lt_or_ge i n with hlt | hge
  ·rw [List.getElem?_append_left zo] at hi
   exact h2 i c' hi
  ·have:i < n+1:=by have:=(List.getElem?_eq_some_iff.1 hi).1; simp [h1] at this; omega
   obtain rfl:i=n:=by omega
   rw [List.getElem?_append_right zo] at hi
   simp [h1] at hi
   subst hi
   exact hc
theorem kF {S r:Nat}:∀ (es:List (List PV)) (o:Nat),(∀ i e,es[i]?=some e→e.length=S∧Vx w M r (o+i * S) e)→VP w M S r o es
 | [],o,_=>by simp [VP]
 | e :: es,o,h=>by
  simp only [VP]
  refine ⟨by have:=h 0 e zq; simpa using this,kF es (o+S) fun i e' he=>?_⟩
  have:=h (i+1) e' (by simpa using he)
  rwa [show o+(i+1) * S=o+S+i * S from by rw [Nat.add_mul]; omega] at this
theorem mW (hM:∀ r o,¬ M r o):∀ (d fuel:Nat) (t:TypeId) (vs:List Value) (x:DataW H × List MemPlace),U1 P d t=true→DataW.trod enc P w 0 (fun _=>true) held fuel t vs=some x→Got P w φ M d t vs∧vs.length=P.cellsOf t:=by
 intro d
 induction d with
 | zero=>intro fuel t vs x hp; cases hp
 | succ d ih =>
  intro fuel t vs x hp h
  have hfs:∀ (fs:List Field) (off total:Nat) (vs:List Value),vs.length=total→BV P total off fs=true→fs.all (fun f=>U1 P d f.type)=true →
    (∀ f ∈ fs,∃ n y,DataW.trod enc P w 0 (fun _=>true) held n f.type ((vs.drop f.offset).take (P.cellsOf f.type))=some y)→∃ cs,dz (Sh P d) fs cs∧Qi φ GV w M (cs.map .p) (vs.drop off)∧(∀ v ∈ vs.drop off,v.oneCell'=true):=by
   intro fs
   induction fs with
   | nil =>
    intro off total vs hl ht _ _
    simp only [BV,beq_iff_eq] at ht
    have:vs.drop off=[]:=List.drop_eq_nil_of_le zo
    exact ⟨[],rfl,by rw [this]; simp [Qi],by rw [this]; simp⟩
   | cons f fs ihf =>
    intro off total vs hl ht ha hm
    simp only [BV,Ki,beq_iff_eq] at ht
    simp only [List.all_cons,Ki] at ha
    obtain ⟨n,y,hy⟩:=hm f zq
    rw [ht.1] at hy
    obtain ⟨⟨c1,g1,g2,g3⟩,_⟩:=ih n f.type _ y ha.1 hy
    obtain ⟨c2,k1,k2,k3⟩:=ihf (off+P.cellsOf f.type) total vs hl ht.2 ha.2 (fun f hf=>hm f (by simp [hf]))
    have e:vs.drop off=(vs.drop off).take (P.cellsOf f.type)++vs.drop (off+P.cellsOf f.type):=by
     rw [← List.drop_drop]; exact (List.take_append_drop _ _).symm
    refine ⟨c1++c2,⟨c1,c2,rfl,g1,k1⟩,?_,?_⟩
    ·rw [e,List.map_append]; exact I9 g2 k2
    ·rw [e]; intro v hv
     rcases List.mem_append.1 hv with hv | hv
     ·exact g3 v hv
     ·exact k3 v hv
  have har:∀ (e:TypeId) (n k:Nat) (vs:List Value),vs.length=(k+n) * P.cellsOf e→U1 P d e=true →
    (∀ i,k≤i→i < k+n→∃ m y,DataW.trod enc P w 0 (fun _=>true) held m e ((vs.drop (i * P.cellsOf e)).take (P.cellsOf e))=some y)→∃ cs,ShN (Sh P d e) n cs∧Qi φ GV w M (cs.map .p) (vs.drop (k * P.cellsOf e))∧(∀ v ∈ vs.drop (k * P.cellsOf e),v.oneCell'=true):=by
   intro e n
   induction n with
   | zero =>
    intro k vs hl _ _
    have:vs.drop (k * P.cellsOf e)=[]:=List.drop_eq_nil_of_le (by simp at hl; omega)
    exact ⟨[],rfl,by rw [this]; simp [Qi],by rw [this]; simp⟩
   | succ n ihn =>
    intro k vs hl hpe hm
    obtain ⟨m,y,hy⟩:=hm k zo zo
    obtain ⟨⟨c1,g1,g2,g3⟩,_⟩:=ih m e _ y hpe hy
    obtain ⟨c2,k1,k2,k3⟩:=ihn (k+1) vs (by rw [hl]; congr 1; omega) hpe (fun i h1 h2=>hm i zo zo)
    have e':vs.drop (k * P.cellsOf e)=(vs.drop (k * P.cellsOf e)).take (P.cellsOf e)++vs.drop ((k+1) * P.cellsOf e):=by
     rw [Nat.add_mul,Nat.one_mul,← List.drop_drop]; exact (List.take_append_drop _ _).symm
    refine ⟨c1++c2,⟨c1,c2,rfl,g1,k1⟩,?_,?_⟩
    ·rw [e',List.map_append]; exact I9 g2 k2
    ·rw [e']; intro v hv
     rcases List.mem_append.1 hv with hv | hv
     ·exact g3 v hv
     ·exact k3 v hv
  unfold U1 at hp
  cases hu:P.underlying t with
  | none=>rw [hu] at hp; cases hp
  | some td =>
   rw [hu] at hp
   cases td with
   | bool =>
    obtain ⟨b,rfl,_⟩:=DataW.trod_bool hu h
    simp only [beq_iff_eq] at hp
    exact ⟨BX (c:=.val (.bool b)) (by simp only [Sh,hu]; exact ⟨b,rfl⟩) (by simp [Q5]) rfl,by simp [hp]⟩
   | int k =>
    obtain ⟨n,rfl,_,hw⟩:=DataW.trod_int hu h
    simp only [beq_iff_eq] at hp
    exact ⟨BX (c:=.val (.int k n)) (by simp only [Sh,hu]; exact ⟨n,rfl,hw⟩) (by simp [Q5]) rfl,by simp [hp]⟩
   | string =>
    obtain ⟨b,rfl,_,hw⟩:=DataW.trod_string hu h
    simp only [beq_iff_eq] at hp
    refine ⟨BX (c:=.val (.string b)) ?_ (by simp [Q5]) rfl,by simp [hp]⟩
    simp only [Sh,hu]
    exact ⟨b.data.toList,by simp [RG],by simpa using hw⟩
   | slice e =>
    simp only [Ki,beq_iff_eq,Nat.blt_eq] at hp
    rcases DataW.trod_slice hu h with ⟨rfl,_⟩ | ⟨a,len,cap,elems,rest,n,_,rfl,_,_,hlc,hcm,hel,hrest⟩
    ·refine ⟨BX (c:=.sl (P.cellsOf e) []) ?_ (by simp only [Q5]; exact .inr ⟨trivial,none,0,rfl⟩) rfl,by simp [hp.1.1]⟩
     simp only [Sh,hu]
     exact ⟨[],rfl,by simp,by simp⟩
    ·have hget:=hrest.1
     have hone:∀ i,i < len→∃ (vs:List Value) (cs:List PV),w.cells? 0 (a.add (i * P.cellsOf e)) (P.cellsOf e)=some vs∧Sh P d e cs∧Qi φ GV w M (cs.map .p) vs∧(∀ v ∈ vs,v.oneCell'=true):=by
      intro i hi
      have h1:elems[i]?=some elems[i]:=List.getElem?_eq_getElem zo
      have h2:=hget i hi
      rw [h1] at h2
      obtain ⟨vs,h3,h4⟩:=Option.bind_eq_some_iff.1 h2
      obtain ⟨⟨cs,g1,g2,g3⟩,_⟩:=ih _ e vs _ hp.2 h4
      exact ⟨vs,cs,h3,g1,g2,g3⟩
     obtain ⟨es,hes,hq⟩:=Oa (Q:=fun i cs=>∃ vs,w.cells? 0 (a.add (i * P.cellsOf e)) (P.cellsOf e)=some vs∧Sh P d e cs∧Qi φ GV w M (cs.map .p) vs∧(∀ v ∈ vs,v.oneCell'=true)) len (fun i hi=>by
      obtain ⟨vs,cs,h1,h2⟩:=hone i hi
      exact ⟨cs,vs,h1,h2⟩)
     refine ⟨BX (c:=.sl (P.cellsOf e) es) ?_ ?_ rfl,by simp [hp.1.1]⟩
     ·simp only [Sh,hu]
      refine ⟨es,rfl,by omega,fun x hx=>?_⟩
      obtain ⟨i,hi,rfl⟩:=List.getElem_of_mem hx
      obtain ⟨vs,_,h2,_⟩:=hq i es[i] (List.getElem?_eq_getElem hi)
      exact h2
     ·simp only [Q5]
      by_cases h0:len=0
      ·subst h0
       exact .inr ⟨List.eq_nil_of_length_eq_zero hes,some a,cap,rfl⟩
      ·have hspot:a.spot=none:=by
        obtain ⟨vs,h1,_⟩:=hq 0 es[0] (List.getElem?_eq_getElem zo)
        obtain ⟨g1,g2⟩:=Ab h1
        have h3:=g2 0 hp.1.2
        simp only [Nat.zero_mul,add_zero] at h3
        rw [List.getElem?_eq_getElem zo] at h3
        exact cell?_spot h3
       obtain ⟨ab,ao,aas⟩:=a
       simp only at hspot
       subst hspot
       refine .inl ⟨ab,ao,cap,by rw [hes],by omega,kF es ao fun i c hi=>?_⟩
       obtain ⟨vs,h1,h2,h3,h4⟩:=hq i c hi
       obtain ⟨g1,g2⟩:=Ab h1
       have hlen:=ZH h3
       refine ⟨by simp at hlen; omega,?_⟩
       rw [Hg]
       intro j q hj
       obtain ⟨v,k1,k2⟩:=Ga h3 j q hj
       have hj':j < P.cellsOf e:=by have:=(List.getElem?_eq_some_iff.1 k1).1; omega
       have k3:=g2 j hj'
       rw [kE,kE,k1] at k3
       exact ⟨v,k3,hM _ _,h4 v (List.mem_of_getElem? k1),k2⟩
   | struct fs =>
    simp only [Ki] at hp
    obtain ⟨xs,n,_,_,hl,hx,hall⟩:=DataW.trod_struct hu h
    obtain ⟨cs,g1,g2,g3⟩:=hfs fs.toList 0 (P.cellsOf t) vs hl hp.1 hp.2 (by
     intro f hf
     obtain ⟨i,hi,rfl⟩:=List.getElem_of_mem hf
     have h1:fs[i]?=some fs.toList[i]:=by simp
     have h2:=hall i _ h1
     have h3:i < xs.length:=by rw [hx]; simpa using hi
     exact ⟨n,xs[i],by rw [h2]; exact List.getElem?_eq_getElem h3⟩)
    simp only [List.drop_zero] at g2 g3
    exact ⟨⟨cs,by simp only [Sh,hu]; exact g1,g2,g3⟩,hl⟩
   | array n e =>
    simp only [Ki,beq_iff_eq] at hp
    obtain ⟨xs,m,_,_,hl,hx,hall⟩:=DataW.trod_array hu h
    obtain ⟨cs,g1,g2,g3⟩:=har e n 0 vs (by rw [hl,Nat.zero_add,hp.1]) hp.2 (by
     intro i _ hi
     have hi':i < n:=by omega
     have h3:i < xs.length:=by omega
     exact ⟨m,xs[i],by rw [hall i hi']; exact List.getElem?_eq_getElem h3⟩)
    simp only [Nat.zero_mul,List.drop_zero] at g2 g3
    exact ⟨⟨cs,by simp only [Sh,hu]; exact g1,g2,g3⟩,hl⟩
   | _=>cases hp
end
end Go.Abs
namespace Go.Abs
open Go Go.ChangeShapes Go.WideShapes Go.ChangeAt Go.RowKit
def ai:List PV→AV
 | [c]=>.p c
 | cs=>ag cs
def vK (P:Program) (t:TypeId) (cs:List PV):AV :=
 match P.underlying t with
 | some (.struct _)=>ag cs
 | some (.array _ _)=>ag cs
 | _=>ai cs
def O4 (P:Program) (d:Nat):List TypeId→List AV→Prop
 | [],aas=>aas=[]
 | t :: ts,aas=>∃ cs r,aas=vK P t cs :: r∧Sh P d t cs∧O4 P d ts r
section
variable {H:Type} {enc:TypeId × Value→H} {P:Program} {w:World} {φ:Nat→Nat} {M:QR}
theorem dA (hM:∀ r o,¬ M r o) {d base:Nat} {t:TypeId} {v:Value} {x:DataW H} {ps:List MemPlace} (hp:U1 P d t=true) (hv:Value.okWide P w .any base t v)
  (h:DataW.Trod enc P w 0 (fun _=>true) true t v x ps):∃ cs,Sh P d t cs∧Qf φ GV w M (vK P t cs) v:=by
 obtain ⟨fuel,h⟩:=h
 obtain ⟨⟨cs,h1,h2,h3⟩,hl⟩:=mW (φ:=φ) hM d fuel t _ _ hp h
 refine ⟨cs,h1,?_⟩
 cases d with
 | zero=>cases hp
 | succ d =>
  unfold Value.okWide at hv
  unfold vK
  cases hu:P.underlying t with
  | none=>simp [U1,hu] at hp
  | some td =>
   rw [hu] at hv
   have one:(∀ c,v ≠ .agg c)→P.cellsOf t=1→Qf φ GV w M (ai cs) v:=by
    intro ha hc
    have e:v.cells=#[v]:=by cases v <;> first | rfl | exact absurd rfl (ha _)
    rw [e] at h2
    match cs,h2 with
    | [c],h2 =>
     simp only [List.map_cons,List.map_nil,Qi] at h2
     obtain ⟨y,ys,e1,e2,e3⟩:=h2
     simp at e1
     obtain ⟨rfl,rfl⟩:=e1
     exact e2
    | [],h2=>simp [Qi] at h2
    | _ :: _ :: _,h2 =>
     simp only [List.map_cons,Qi] at h2
     obtain ⟨y,ys,e1,_,z,zs,e2,_⟩:=h2
     subst e2
     simp at e1
   have agg:(∃ c,v=.agg c)→Qf φ GV w M (ag cs) v:=by
    rintro ⟨c,rfl⟩
    exact ⟨c.toList,by simp,h2⟩
   cases td with
   | bool =>
    simp only [U1,hu,beq_iff_eq] at hp
    exact one (fun c hc=>by subst hc; simp [Cell.okWide,Cell.ok,hu] at hv) hp
   | int k =>
    simp only [U1,hu,beq_iff_eq] at hp
    exact one (fun c hc=>by subst hc; simp [Cell.okWide,Cell.ok,hu] at hv) hp
   | string =>
    simp only [U1,hu,beq_iff_eq] at hp
    exact one (fun c hc=>by subst hc; simp [Cell.okWide,Cell.ok,hu] at hv) hp
   | slice e =>
    simp only [U1,hu,Ki,beq_iff_eq] at hp
    exact one (fun c hc=>by subst hc; simp [Cell.okWide,Cell.ok,hu] at hv) hp.1.1
   | struct fs =>
    obtain ⟨c,rfl,_⟩:=hv
    exact agg ⟨c,rfl⟩
   | array n e =>
    obtain ⟨c,rfl,_⟩:=hv
    exact agg ⟨c,rfl⟩
   | _=>simp [U1,hu] at hp
theorem kG (hM:∀ r o,¬ M r o) {d base:Nat}:∀ {ts:List TypeId} {vs:List Value} {ds:List (DataW H)} {ps:List MemPlace},ts.all (U1 P d)=true →
  (∀ (j:Nat) t v,ts[j]?=some t→vs[j]?=some v→Value.okWide P w .any base t v)→DataW.TrodAll enc P w 0 (fun _=>true) true ts vs ds ps→∃ aas,O4 P d ts aas∧Qi φ GV w M aas vs
 | [],vs,ds,ps,_,_,h=>by
  obtain ⟨rfl,_,_⟩:=trodAll_nil h
  exact ⟨[],rfl,rfl⟩
 | t :: ts,vs,ds,ps,hp,hv,h=>by
  obtain ⟨v,vs',d',ds',p,q,rfl,rfl,rfl,h1,h2⟩:=trodAll_cons h
  simp only [List.all_cons,Ki] at hp
  obtain ⟨cs,g1,g2⟩:=dA (φ:=φ) hM hp.1 (hv 0 t v rfl rfl) h1
  obtain ⟨aas,g3,g4⟩:=kG hM hp.2 (fun j t v a b=>hv (j+1) t v (by simpa using a) (by simpa using b)) h2
  exact ⟨_,⟨cs,aas,rfl,g1,g3⟩,v,vs',rfl,g2,g4⟩
structure Over (w w':World):Prop where
 os:w'.os=w.os
 output:w'.output=w.output
 same:∀ r,r < w.heap.size→w'.heap[r]?=w.heap[r]?
theorem O5 {φ φ':Nat→Nat} {h':Qv} {w w':World} (E:Zg φ GV w φ' h' w'):Over w w' :=
 ⟨E.os,E.output,fun r hr=>E.same r hr (fun b hb=>absurd rfl hb)⟩
theorem Over.kept {w w':World} (o:Over w w') (may:MemPlace→Prop):w.keptBut w' may:=by
 refine ⟨o.os,o.output,fun i hi=>?_⟩
 rw [o.same i hi]
 cases h:w.heap[i]? with
 | none=>rfl
 | some x=>cases x <;> simp
theorem Over.at {w w':World} (o:Over w w') {p:MemPlace} (h:p.block < w.heap.size):w.sameAt w' p:=by
 cases p with
 | cell b off=>simp only [World.sameAt,World.cell?]; rw [o.same b h]
 | map b=>exact o.same b h
theorem Over.frozen {w w':World} (o:Over w w') {a:Addr} (h:a.block < w.heap.size):w'.frozen? a=w.frozen? a:=by
 simp only [World.frozen?]; rw [o.same _ h]
theorem LW {w w':World} (hl:laidOutB P=true) {sp:Nat→Bool} (hsp:∀ b,b < w.heap.size→sp b=true) (o:Over w w'):∀ {ts:List TypeId} {vs:List Value} {ds:List (DataW H)} {ps:List MemPlace},ts.all (fun t=>P.readableRec t&&Nat.blt t P.types.size)=true→(∀ p ∈ ps,p.block < w.heap.size) →
  DataW.TrodAll enc P w 0 (fun _=>true) true ts vs ds ps→DataW.TrodAll enc P w' 0 sp true ts vs ds ps
 | [],vs,ds,ps,_,_,h=>by
  obtain ⟨rfl,rfl,rfl⟩:=trodAll_nil h
  exact rfl
 | t :: ts,vs,ds,ps,hp,hb,h=>by
  obtain ⟨v,vs',d',ds',p,q,rfl,rfl,rfl,h1,h2⟩:=trodAll_cons h
  simp only [List.all_cons,Ki,Nat.blt_eq] at hp
  refine ⟨p,q,Go.WideElems.Trod_stays hl hp.1.1 hp.1.2 h1 (fun p hp=>o.at (hb p (by simp [hp]))) (fun p hp=>hsp _ (hb p (by simp [hp]))),LW hl hsp o (by simpa using hp.2) (fun p hp=>hb p (by simp [hp])) h2,rfl⟩
theorem Ii {f:FuncId} {fn:Func} {s:ChangeSpec} {tb:TypeId} {d:Nat} {apart fresh handsOn again:Bool}
  (hl:laidOutB P=true) (hpure:fn.params.toList.all (U1 P d)=true) (hread:fn.params.toList.all (fun t=>P.readableRec t&&Nat.blt t P.types.size)=true)
  (hres:fn.resultTypes=#[tb]) (htb:P.underlying tb=some .bool) (hvars:s.vars=[])
  (hspec:∀ ds:List (DataW H),ds.length=fn.params.size→s.fn H ds={ results:=[.lit (.bool true)],args:=ds })
  {W:World} {base:Nat} {args:Array Value} {ds gs:List (DataW H)} {before:List MemPlace}
  (hval:∀ (j:Nat) t v,fn.params[j]?=some t→args[j]?=some v→Value.okWide P W .any base t v)
  (hW:DataW.Whole enc P fn.params.toList s.vars apart W args.toList ds gs before)
  (hcall:∀ aas,O4 P d fn.params.toList aas→Qi (fun x=>x) GV W (MM (fun x=>x) GV (fun _ _=>False)) aas args.toList→Q0 P f aas (.ret (.p (.val (.bool true))))) (hg:lS W:=by exact trivial) :
  Calls P f args W fun e W'=>∃ v,e=.returned v∧s.post enc P fn apart fresh handsOn again W args v W':=by
 have hW':=hW
 obtain ⟨p,q,hA,hV,rfl,hfz,hnd⟩:=hW
 rw [hvars] at hV
 obtain ⟨rfl,rfl⟩:=trodVars_none hV
 have hlen:ds.length=fn.params.size:=by
  have:∀ {ts:List TypeId} {vs:List Value} {ds:List (DataW H)} {ps:List MemPlace},DataW.TrodAll enc P W 0 (fun _=>true) true ts vs ds ps→ds.length=ts.length:=by
   intro ts
   induction ts with
   | nil=>intro vs ds ps h; obtain ⟨_,rfl,_⟩:=trodAll_nil h; rfl
   | cons t ts ih=>intro vs ds ps h; obtain ⟨v,vs',d',ds',p,q,rfl,rfl,rfl,h1,h2⟩:=trodAll_cons h; simp [ih h2]
  simpa using this hA
 obtain ⟨aas,g1,g2⟩:=kG (φ:=fun x=>x) (M:=MM (fun x=>x) GV (fun _ _=>False)) (base:=base) (fun r o h=>h.elim VQ id) hpure
  (fun j t v a b=>hval j t v (by simpa using a) (by simpa using b)) hA
 have hc:=hcall aas g1 g2 (fun x=>x) (fun _ _=>False) W args.toList (Ux (fun _ _ h=>h.elim) hg (fun _ _ _ h=>h)) g2
 simp only [Array.toArray_toList] at hc
 refine hc.mono ?_
 rintro e w' ⟨φ',r',h',⟨rfl,rfl⟩,hH',E,hv⟩
 obtain ⟨v,rfl,hv⟩:=hv
 simp only [Qf,Q5] at hv
 subst hv
 have o:=O5 E
 have hlt:∀ x ∈ p,x.block < W.heap.size:=fun x hx=>hW'.lt x (by simpa using hx)
 refine ⟨_,rfl,?_⟩
 have hsp:s.fn H (ds++[])={ results:=[.lit (.bool true)],args:=ds }:=by rw [List.append_nil]; exact hspec ds hlen
 have hr:∀ (b:Nat) (sp:Nat→Bool) (hd:Bool),DataW.TrodAll enc P w' b sp hd fn.resultTypes.toList ((Value.bool true).resultList fn.resultTypes.size) [.lit (.bool true)] []:=fun b sp hd=>by
  rw [hres]; exact trodAll_cons_mk (shut_bool htb _) trodAll_mk0
 refine ⟨ds,[],p++[],[],p,[],hW',by rw [hsp]; exact hr _ _ _,by rw [hsp]; exact LW hl (fun b hb=>by simpa using hb) o hread hlt hA,by rw [hsp,hvars]; rfl,o.kept _,fun _=>?_⟩
 refine ⟨ok_one hres rfl (okWide_bool_mk htb _),[.lit (.bool true)]++ds,[],([]++p)++[],⟨[]++p,[],?_,?_,rfl,?_,?_⟩,?_⟩
 ·exact trodAll_append (LW hl (fun b hb=>rfl) o hread hlt hA) (hr _ _ _)
 ·rw [hvars]; rfl
 ·intro b off hp
  rw [o.frozen (by exact hlt (.cell b off) (by simpa using hp))]
  exact hfz b off (by simpa using hp)
 ·intro ha; simpa using hnd ha
 ·intro x hx _; simpa using hx
end
def UO (x:Int):Prop:=-9223372036854775808≤x∧x≤9223372036854775807
def uh (l:List UInt8):Prop:=l.length≤maxLen
def Ac {α:Type} (W:α→Prop) (l:List α):Prop:=l.length≤maxLen∧∀ x ∈ l,W x
section
variable {P:Program} {d:Nat} {t:TypeId} {cs:List PV}
theorem Y0 (hu:P.underlying t=some (.int .i64)) (h:Sh P (d+1) t cs):∃ n,cs=[.val (.int .i64 n)]∧UO n:=by
 simp only [Sh,hu] at h
 obtain ⟨n,rfl,hw⟩:=h
 exact ⟨n,rfl,by simpa [Lit.wf,IntKind.min,IntKind.max,IntKind.signed,IntKind.bits,UO] using hw⟩
theorem Ad (hu:P.underlying t=some .string) (h:Sh P (d+1) t cs):∃ s:List UInt8,cs=[.val (.string (RG s))]∧uh s:=by
 simp only [Sh,hu] at h
 exact h
theorem Xk {fs:Array Field} (hu:P.underlying t=some (.struct fs)) (h:Sh P (d+1) t cs):dz (Sh P d) fs.toList cs:=by
 simpa only [Sh,hu] using h
theorem Dj {e:TypeId} {S:Nat} {α:Type} {f:α→List PV} {W:α→Prop} (hu:P.underlying t=some (.slice e)) (hS:P.cellsOf e=S) (he:∀ c,Sh P d e c→∃ r,c=f r∧W r) (h:Sh P (d+1) t cs) :
  ∃ l:List α,cs=[.sl S (List.map f l)]∧Ac W l:=by
 simp only [Sh,hu] at h
 obtain ⟨es,rfl,hl,hx⟩:=h
 have:∃ l:List α,es=List.map f l∧∀ x ∈ l,W x:=by
  clear hl
  induction es with
  | nil=>exact ⟨[],rfl,by simp⟩
  | cons e es ih =>
   obtain ⟨r,rfl,hr⟩:=he e (hx e zq)
   obtain ⟨l,rfl,hl⟩:=ih (fun x h=>hx x (by simp [h]))
   exact ⟨r :: l,rfl,by simpa using ⟨hr,hl⟩⟩
 obtain ⟨l,rfl,hw⟩:=this
 exact ⟨l,by rw [hS],by simpa using hl,hw⟩
theorem PG {fs:Array Field} (hu:P.underlying t=some (.struct fs)):vK P t cs=ag cs:=by simp only [vK,hu]
theorem vL {e:TypeId} {c:PV} (hu:P.underlying t=some (.slice e)):vK P t [c]=.p c:=by simp only [vK,hu,ai]
end
end Go.Abs
namespace Go.Abs
open Go
section
variable {R:Type} {a:Option R} {P:Program} {N:Nat} {ops:Array Oper} {o:Oper} {l:List Oper} {acc:List Yw} {s:St} {Q:R→AX→St→Prop}
theorem Ae (hw:ZF ops o (look s.T)=some true) (hp:(plain o.op&&Ku N o.dst)=true) (hnd:∀ c,o.op ≠ .defer c)
  (h:∀ φ M0 D ac w,Zw φ M0 N D (look (mk ops o s true).T) (look s.H) ac w→∃ x s',look s'.T=look (mk ops o s true).T∧KX a P N ops Q false ((none,[]) :: acc) l (St.put s' o.dst x)∧Yield P o φ M0 (look s.H) ac w x (look s'.H)):KX a P N ops Q false acc (o :: l) s:=by
 simp only [Ki] at hp
 refine ⟨fun r hr=>?_⟩
 show Yi P N ops (Q r) (o :: l) s
 simp only [Yi,hw,ZQ,DD hp.1]
 show XN P N o _ _ _
 unfold XN
 have key:fe P N o (mk ops o s true) (Yi P N ops (Q r) l):=by
  refine ⟨hnd,hp.2,fun φ M0 D ac w hrel=>?_⟩
  ·obtain ⟨x,s',h1,h2,h3⟩:=h φ M0 D ac w hrel
   exact ⟨x,s',h1,h2.h r hr,h3⟩
 have hp:=hp.1
 split
 ·rename_i ho; rw [ho] at hp; cases hp
 ·rename_i ho; rw [ho] at hp; cases hp
 ·rename_i ho; rw [ho] at hp; cases hp
 ·exact .inr key
theorem O6:KX (none:Option R) P N ops Q false acc l s:=⟨fun r hr=>by cases hr⟩
end
section
variable {φ:Nat→Nat} {M0:QR} {h:Qv} {w:World}
theorem jf {b:Nat} {k0 k1:Blk} (hb0:h b=some k0) (hob:k0.ob=some .mp) (hob1:k1.ob=some .mp) (r:ZN φ h w M0)
  (hnew:∀ h' M',(∀ x o v,w.cell? ⟨x,o,none⟩=some v→¬ MM φ h M0 x o→w.cell? ⟨x,o,none⟩=some v∧¬ M' x o)→YM φ h w φ h' w→RelB φ h' w M' (φ b) k1) :
  ZN φ (upd h b k1) w M0∧Zg φ h w φ (upd h b k1) w∧YM φ h w φ (upd h b k1) w:=by
 have hmut:∀ x o,RF φ (upd h b k1) x o→RF φ h x o:=by
  rintro x y ⟨d,q,g1,g2,g3⟩
  by_cases e:b=d
  ·refine ⟨b,_,hb0,by rw [e]; exact g2,?_⟩
   cases k0 <;> first | trivial | cases hob
  ·exact ⟨d,q,by simpa [upd,e] using g1,g2,g3⟩
 have hne:∀ c k,h c=some k→k.ob=none→¬ b=c:=fun c k hc hk e=>by rw [← e,hb0] at hc; cases hc; rw [hk] at hob; cases hob
 have X:YM φ h w φ (upd h b k1) w:=by
  refine ⟨fun c t q hc=>⟨⟨t,q,?_⟩,rfl⟩,fun c t S n hc=>⟨n,?_,Nat.le_refl _,fun _=>YJ rfl rfl⟩,fun c t S n hc=>⟨n,?_,Nat.le_refl _,fun _=>⟨rfl,fun c hc=>⟨c,hc,rfl⟩⟩⟩,fun c k x hc ho=>⟨?_,rfl⟩⟩
  ·simp [upd,hne c _ hc rfl,hc]
  ·simp [upd,hne c _ hc rfl,hc]
  ·simp [upd,hne c _ hc rfl,hc]
  ·by_cases e:b=c
   ·subst e
    rw [hb0] at hc
    cases hc
    rw [hob] at ho
    cases ho
    exact ⟨k1,by simp [upd],hob1⟩
   ·exact ⟨k,by simp [upd,e,hc],ho⟩
 have E:Zg φ h w φ (upd h b k1) w :=
  ⟨rfl,rfl,rfl,Nat.le_refl _,fun _ _ _=>rfl,fun _ _ _ _=>rfl,fun x o _ hm=>hmut x o hm,
   fun c t cs _ hc=>⟨⟨cs,by simp [upd,hne c _ hc rfl,hc]⟩,rfl⟩,fun c t S n _ hc=>X.t c t S n hc,fun c t S n _ hc=>X.v c t S n hc,fun c k x _ hc ho=>X.o c k x hc ho⟩
 have g:∀ d,upd h b k1 d ≠ none→h d ≠ none:=fun d hd=>by
  by_cases e:b=d
  ·rw [← e,hb0]; simp
  ·simpa [upd,e] using hd
 refine ⟨⟨fun c d hc hd e=>r.inj c d (g c hc) (g d hd) e,fun c q hc=>?_,fun c hc=>r.fr c (g c hc),r.lt,r.gm.evol E⟩,E,X⟩
 by_cases e:b=c
 ·subst e
  have:q=k1:=by simpa [upd] using hc.symm
  subst this
  exact hnew _ _ (E.keeps M0) X
 ·have hc':h c=some q:=by simpa [upd,e] using hc
  exact ZW (E.keeps M0) X rfl (r.blk c q hc')
end
def Zb (en:Array MapEntry) (i:Nat):Nat:=((en[i]?).map (·.born)).getD 0
theorem mX:∀ {l:List Nat},l.Pairwise (· < ·)→l.Nodup:=fun h=>h.imp fun h=>Nat.ne_of_lt h
theorem mY {es:List (Bool × List UInt8 × AV)} (h:es.all (·.1)=true):Lu es=es:=List.filter_eq_self.2 fun e he=>List.all_eq_true.1 h e he
section
variable {R:Type} {a:Option R} {P:Program} {N:Nat} {ops:Array Oper} {o:Oper} {l:List Oper} {acc:List Yw} {s:St} {Q:R→AX→St→Prop}
theorem mZ {t m b:Nat} {es:List (Bool × List UInt8 × AV)} {x:Operand} {kt e:TypeId} (hw:ZF ops o (look s.T)=some true) (ho:o.op=.range t x) (ht:P.underlying t=some (.map kt e)) (hd:Ku N o.dst=true)
  (hx:Zr (look (mk ops o s true).T) x=some (.mv m)) (hm:look s.H m=some (.mf es)) (hb:look s.H b=none) (hne:(m == b)=false)
  (h:∀ en ck,UL en ck→KX a P N ops Q false ((none,[]) :: acc) l (St.put ⟨(mk ops o s true).T,(b, .it m ck #[]) :: (m, .mg en ck es) :: s.H⟩ o.dst (.iv b))):KX a P N ops Q false acc (o :: l) s:=by
 refine Ae hw (by rw [ho,hd]; rfl) (fun c hc=>by rw [ho] at hc; cases hc) fun φ M0 D ac w r=>?_
 have hmb:¬ m=b:=by simpa using hne
 obtain ⟨r1,E1,X1,hC⟩:=r.lift 1
 obtain ⟨en,ck,hw1,hk,hv,hbn⟩:=r1.hp.blk m _ hm
 refine ⟨.iv b,⟨(mk ops o s true).T,(b, .it m ck #[]) :: (m, .mg en ck es) :: s.H⟩,rfl,h en ck hbn,?_⟩
 have hxr:=r1.ev hx
 simp only [Qf] at hxr
 generalize K7 φ w.heap.size 1=φ1 at r1 E1 X1 hC hw1 hv hxr
 obtain ⟨H2,E2,X2⟩:=jf (k1:=.mg en ck es) hm rfl rfl r1.hp fun h' M' hk' X=>⟨hw1,hk,(QX hk' X).2 _ _ hv,hbn⟩
 have hC2:Clear φ1 (upd (look s.H) m (.mg en ck es)) w 1:=fun c hc=>hC c (by
  by_cases e:m=c
  ·subst e; rw [hm]; simp
  ·simpa [upd,e] using hc)
 have hb2:upd (look s.H) m (.mg en ck es) b=none:=by simp [upd,hmb,hb]
 obtain ⟨E3,X3⟩:=JL (w':=w.alloc (.mapIter (some (φ1 m)) ck #[] ck)) (o:=.mapIter (some (φ1 m)) ck #[] ck) (b:=b) (k:=.it m ck #[]) (M0:=M0) rfl rfl rfl rfl hb2 H2 hC2
 have hnew:RelB (QK φ1 b w.heap.size) (upd (upd (look s.H) m (.mg en ck es)) b (.it m ck #[])) (w.alloc (.mapIter (some (φ1 m)) ck #[] ck)) (MM (QK φ1 b w.heap.size) (upd (upd (look s.H) m (.mg en ck es)) b (.it m ck #[])) M0) w.heap.size (.it m ck #[]):=by
  refine ⟨?_, .mg en ck es,by simp [upd,Ne.symm hmb],rfl⟩
  have:QK φ1 b w.heap.size m=φ1 m:=by simp [QK,Ne.symm hmb]
  rw [this]
  show (w.heap.push _)[w.heap.size]?=_
  simp
 refine ⟨_, .pointer (some ⟨w.heap.size,0,none⟩),_,QK φ1 b w.heap.size,?_, .inl rfl,?_,JM rfl hb2 H2 hC2 E3 X3 hnew,E1.trans (E2.trans E3),YM.trans (Nat.le_refl _) X1 (YM.trans (Nat.le_refl _) X2 X3)⟩
 ·simp [execOp,ho,hxr.1,run_range_map w t kt e _ en ck ht hw1]
 ·simp only [Qf]
  exact ⟨by simp [QK], .it m ck #[],by simp [look],rfl⟩
theorem VF {b m:Nat} {en:Array MapEntry} {ck:Nat} {es:List (Bool × List UInt8 × AV)} {sn:Array Nat} {x:Operand} {k:List UInt8} {v:AV} (i:Nat) (hB:UL en ck) (hw:ZF ops o (look s.T)=some true) (ho:o.op=.entry x) (hd:Ku N o.dst=true)
  (hx:Zr (look (mk ops o s true).T) x=some (.iv b)) (hb:look s.H b=some (.it m ck (sn.push (Zb en i)))) (hm:look s.H m=some (.mg en ck es)) (hall:es.all (·.1)=true) (hi:es[i]?=some (true,k,v))
  (h:KX a P N ops Q false ((none,[]) :: acc) l (St.put (mk ops o s true) o.dst (.tup [.p (.val (Ry k)),v]))):KX a P N ops Q false acc (o :: l) s:=by
 refine Ae hw (by rw [ho,hd]; rfl) (fun c hc=>by rw [ho] at hc; cases hc) fun φ M0 D ac w r=>⟨_,mk ops o s true,rfl,h,?_⟩
 obtain ⟨h1,_⟩:=r.hp.blk b _ hb
 obtain ⟨h2,hk,hv,_⟩:=r.hp.blk m _ hm
 rw [mY hall] at hk hv
 have hlt:i < es.length:=(List.getElem?_eq_some_iff.1 hi).1
 have hle:en.toList.length=es.length:=by simpa using congrArg List.length hk
 have hei:en.toList[i]?=some (en.toList[i]'zo):=List.getElem?_eq_getElem _
 generalize en.toList[i]'zo=e at hei
 have hei2:en[i]?=some e:=by rw [← Array.getElem?_toList]; exact hei
 have hbe:Zb en i=e.born:=by simp [Zb,hei2]
 rw [hbe] at h1
 have hxr:=r.ev hx
 simp only [Qf] at hxr
 have hkey:e.key=Ry k:=by
  have:=congrArg (·[i]?) hk
  simp only [List.getElem?_map,hei,hi,Option.map_some,Zd] at this
  exact this
 refine Qr r (v:=.tuple #[e.key,e.val]) ?_ ?_
 ·simp [execOp,ho,hxr.1,run_entry_at w _ _ _ _ en ck e h1 h2 (List.mem_of_getElem? hei) (mX hB.1)]
 ·simp only [Qf]
  refine ⟨[e.key,e.val],by simp,_,_,rfl,?_,_,_,rfl,?_,rfl⟩
  ·simp [Qf,Q5,hkey]
  ·exact R7 (i:=i) hv (by rw [List.getElem?_map,hi]; rfl) (by rw [List.getElem?_map,hei]; rfl)
end
def yj {R:Type} (F:Option R) (t:Option R→Option R):Prop:=(∀ q,t q=q)∨(∀ q,t q=none)∨(∀ q,t q=F)
theorem aj {R:Type} {F:Option R}:yj F (fun q=>q):=.inl fun _=>rfl
theorem QaK {R:Type} {F:Option R}:yj F (fun _=>F):=.inr (.inr fun _=>rfl)
theorem kH {R:Type} {F:Option R}:yj F (fun _=>none):=.inr (.inl fun _=>rfl)
theorem ng {R:Type} {F:Option R} {b:Bool} {x y:Option R→Option R} (hx:yj F x) (hy:yj F y):yj F (fun q=>cond b (x q) (y q)):=by cases b <;> assumption
theorem ni {R V:Type} {F:Option R} {m:Option V} {x:V→Option R→Option R} (hx:∀ v,yj F (x v)):yj F (fun q=>m.bind fun v=>x v q):=by
 cases m with
 | none=>exact kH
 | some v=>exact hx v
def nk {R:Type} (F D:Option R) (ts:List (Option R→Option R)):Option R:=if ts.all (fun t=>(t F).isSome) then ts.foldr (fun t q=>t q) D else none
theorem Ob {R:Type} {F D:Option R} {r:R}:∀ {ts:List (Option R→Option R)},(∀ t ∈ ts,yj F t)→(∀ t ∈ ts,(t F).isSome=true)→ts.foldr (fun t q=>t q) D=some r →
  (D=some r∧∀ t ∈ ts,∀ q,t q=q)∨F=some r
 | [],_,_,h=>.inl ⟨h,fun _ ht=>by cases ht⟩
 | t :: ts,hC,hS,h=>by
  rw [List.foldr_cons] at h
  rcases hC t zq with h1 | h1 | h1
  ·rw [h1] at h
   rcases Ob (fun u hu=>hC u (by simp [hu])) (fun u hu=>hS u (by simp [hu])) h with ⟨h2,h3⟩ | h2
   ·refine .inl ⟨h2,fun u hu=>?_⟩
    rcases List.mem_cons.1 hu with rfl | hu
    ·exact h1
    ·exact h3 u hu
   ·exact .inr h2
  ·have:=hS t zq
   rw [h1] at this
   cases this
  ·rw [h1] at h
   exact .inr h
theorem jg {R:Type} {D:Option R}:∀ {ts:List (Option R→Option R)},(∀ t ∈ ts,∀ q,t q=q)→ts.foldr (fun t q=>t q) D=D
 | [],_=>rfl
 | t :: ts,h=>by rw [List.foldr_cons,h t zq]; exact jg fun u hu=>h u (by simp [hu])
theorem vM {R:Type} {F D:Option R} {r:R} {ts:List (Option R→Option R)} (hC:∀ t ∈ ts,yj F t) (h:nk F D ts=some r) :
  (∀ t ∈ ts,(∀ q,t q=q)∨∀ q,t q=some r)∧((∀ t ∈ ts,∀ q,t q=q)→D=some r):=by
 unfold nk at h
 split at h
 rotate_left
 ·cases h
 rename_i hS
 have hS:∀ t ∈ ts,(t F).isSome=true:=List.all_eq_true.1 hS
 have h2:=Ob hC hS h
 constructor
 ·intro t ht
  rcases hC t ht with h1 | h1 | h1
  ·exact .inl h1
  ·have:=hS t ht
   rw [h1] at this
   cases this
  ·rcases h2 with ⟨_,h3⟩ | h3
   ·exact .inl (h3 t ht)
   ·exact .inr fun q=>by rw [h1,h3]
 ·intro hid
  rw [jg hid] at h
  exact h
structure Nx {R:Type} (N:Nat) (q:Option R) (S:St) (Q Qn:R→AX→St→Prop):Prop where
 n:∀ r s',q=some r→Weak N s' S→Qn r .normal s'
 x:∀ r e s',e ≠ .normal→Q r e s'→Qn r e s'
section
variable {R:Type} {o:Option R} {P:Program} {N:Nat} {q:Option R} {S s:St} {Q Qn:R→AX→St→Prop}
theorem NF (hN:Nx N q S Q Qn) (K:Gf) (h:F4 K s=some S):Zy q Qn .normal s:=⟨fun r hr=>hN.n r s hr (Xu h)⟩
theorem QcG {i:Nat} (hN:Nx N q S Q Qn) (h:Zy o Q (.exit i) s):Zy o Qn (.exit i) s:=⟨fun r hr=>hN.x r _ s (by intro h; cases h) (h.h r hr)⟩
theorem Af {v:AV} (hN:Nx N q S Q Qn) (h:Zy o Q (.panic v) s):Zy o Qn (.panic v) s:=⟨fun r hr=>hN.x r _ s (by intro h; cases h) (h.h r hr)⟩
end
theorem ui {N:Nat} {s s':St} (hT:look s'.T=look s.T) (hH:look s'.H=look s.H):Weak N s s':=fun φ M0 D a w r=>⟨φ,by rw [hT,hH]; exact r,by rw [hH]; exact Zg.refl _ _ _⟩
def Ag (en:Array MapEntry) (sn:Array Nat):Nat:=(leftOf en sn).size
theorem uj {en:Array MapEntry} {sn:Array Nat} {e:MapEntry} (he:e ∈ (leftOf en sn).toList):Ag en (sn.push e.born) < Ag en sn:=by
 have e0:∀ sn:Array Nat,Ag en sn=(en.toList.filter fun x=>!sn.contains x.born).length:=fun sn=>by
  unfold Ag leftOf
  rw [← Array.toList_filter,Array.length_toList]
 unfold leftOf at he
 rw [Array.toList_filter] at he
 rw [e0,e0]
 have h1:(en.toList.filter fun x=>!(sn.push e.born).contains x.born)=(en.toList.filter fun x=>!sn.contains x.born).filter fun x=>!(x.born == e.born):=by
  rw [List.filter_filter]
  congr 1
  funext x
  simp only [Array.contains_push]
  cases sn.contains x.born <;> cases hq:(x.born == e.born) <;> simp_all
 rw [h1]
 generalize (en.toList.filter fun x=>!sn.contains x.born)=L at he ⊢
 exact List.length_filter_lt_length_iff_exists.2 ⟨e,he,by simp⟩
section
variable {R:Type} {P:Program} {N:Nat} {ro:Option Nat} {n:Nat} {ops:Array Oper} {o:Oper} {l:List Oper} {B:Code} {s0:St} {Q:R→AX→St→Prop} {x:Operand}
def Gj (b m ck:Nat) (sn:Array Nat) (s:St):St:=ah b (.it m ck sn) s
theorem uk {b m:Nat} {en:Array MapEntry} {ck:Nat} {es:List (Bool × List UInt8 × AV)} {F D:Option R} (ts:List (Option R→Option R)) (hB:UL en ck)
  (hops:ops.toList=o :: l) (ho:o.op=.next x false) (hw:ZF ops o (look s0.T)=some true) (hd:Ku N o.dst=true)
  (hT:Zr (look (Zv ops o s0.T true)) x=some (.iv b)) (hHb:look s0.H b=some (.it m ck #[])) (hHm:look s0.H m=some (.mg en ck es)) (hmb:(m == b)=false) (hall:es.all (·.1)=true) (hlen:ts.length=es.length) (hC:∀ t ∈ ts,yj F t)
  (hover:∀ (sn:Array Nat) (Qn:R→AX→St→Prop),Nx N (none:Option R) s0 Q Qn→KX D P N ops (Ig P N ro B Qn) false [(none,[])] l (St.put (mk ops o (Gj b m ck sn s0) true) o.dst (.tup [.p (.val (.bool false))])))
  (hent:∀ (i:Nat) (t:Option R→Option R) (k:List UInt8) (v:AV),ts[i]?=some t→es[i]?=some (true,k,v)→∀ (sn:Array Nat) (q:Option R) (Qn:R→AX→St→Prop),Nx N q (Gj b m ck (sn.push (Zb en i)) s0) Q Qn→KX (t q) P N ops (Ig P N ro B Qn) false [(none,[])] l (St.put (mk ops o (Gj b m ck (sn.push (Zb en i)) s0) true) o.dst (.tup [.p (.val (.bool true)), .p (.val (Ry k)),v]))) :
  QU (nk F D ts) P N ro (.loop (.seq (.region n ops false) B)) s0 Q:=by
 refine ⟨fun r hr=>?_⟩
 obtain ⟨c1,c2⟩:=vM hC hr
 have hmb:¬ m=b:=by simpa using hmb
 let good:Nat→Prop:=fun i=>∃ t,ts[i]?=some t∧∀ q,t q=q
 let ι:={ sn:Array Nat // ∀ y ∈ sn.toList,∃ i,good i∧y=Zb en i }
 have hl0:∀ sn,look (Gj b m ck sn s0).H=upd (look s0.H) b (.it m ck sn):=fun sn=>by funext c; exact I8 s0.H c hHb
 refine fI (fun j:ι=>Gj b m ck j.1 s0) (fun j:ι=>Ag en j.1) ⟨#[],fun y hy=>by simp at hy⟩ (ui rfl ?_) ?_
 ·rw [hl0]
  funext c
  by_cases e:b=c
  ·subst e; simp [upd,hHb]
  ·simp [upd,e]
 rintro ⟨sn,hsn⟩ K hK
 have key:QU (some r) P N ro (.seq (.region n ops false) B) (Gj b m ck sn s0) (fun r' e s'=>r'=r→andThen K (Q r) e s'):=by
  refine sS (sG ?_)
  rw [hops]
  refine Ae hw (by rw [ho,hd]; rfl) (fun c hc=>by rw [ho] at hc; cases hc) fun φ M0 D' ac w rr=>?_
  have hbb:look (Gj b m ck sn s0).H b=some (.it m ck sn):=by rw [hl0]; simp [upd]
  have hmm:look (Gj b m ck sn s0).H m=some (.mg en ck es):=by rw [hl0]; simp [upd,Ne.symm hmb,hHm]
  obtain ⟨h1,hq⟩:=rr.hp.blk b _ hbb
  obtain ⟨h2,hk,hv,_⟩:=rr.hp.blk m _ hmm
  rw [mY hall] at hk hv
  have hle:en.toList.length=es.length:=by simpa using congrArg List.length hk
  have hxr:=rr.ev (x:=x) (v:=.iv b) hT
  simp only [Qf] at hxr
  rcases run_next_at (P:=P) w o.type (φ b) (φ m) ck ck sn en ck h1 h2 hB.2 (Nat.le_refl _) with ⟨g1,g2⟩ | ⟨e,g1,w1,g2,g3⟩
  ·
   have hD:D=some r:=by
    refine c2 fun t ht=>?_
    obtain ⟨i,hi⟩:=List.getElem?_of_mem ht
    have hlt:i < en.toList.length:=by rw [hle,← hlen]; exact (List.getElem?_eq_some_iff.1 hi).1
    have hmem:(en.toList[i]).born ∈ sn.toList:=by
     have h5:en.toList[i] ∈ en.toList:=List.getElem_mem _
     apply Classical.byContradiction
     intro hno
     have:en.toList[i] ∈ (leftOf en sn).toList:=by
      simp only [leftOf,Array.toList_filter,List.mem_filter,Bool.not_eq_true']
      refine ⟨h5,?_⟩
      rw [← Bool.not_eq_true,Array.contains_iff_mem]
      exact fun h=>hno (Array.mem_toList_iff.2 h)
     have h6:(leftOf en sn).toList=[]:=by
      rw [← List.length_eq_zero_iff,Array.length_toList]; exact g1
     rw [h6] at this
     cases this
    obtain ⟨j,⟨t',ht',hid⟩,hj⟩:=hsn _ hmem
    have hlj:j < en.toList.length:=by rw [hle,← hlen]; exact (List.getElem?_eq_some_iff.1 ht').1
    have hbj:Zb en j=(en.toList[j]).born:=by
     have:en[j]?=some (en.toList[j]):=by rw [← Array.getElem?_toList]; exact List.getElem?_eq_getElem _
     simp only [Zb,this,Option.map_some,Option.getD_some]
    rw [hbj] at hj
    have hij:i=j:=by
     have hp:=List.pairwise_iff_getElem.1 hB.1
     have h8:i < (en.toList.map (·.born)).length:=by simpa using hlt
     have h9:j < (en.toList.map (·.born)).length:=by simpa using hlj
     rcases Nat.lt_trichotomy i j with h | h | h
     ·have:=hp i j h8 h9 h
      rw [List.getElem_map,List.getElem_map] at this
      omega
     ·exact h
     ·have:=hp j i h9 h8 h
      rw [List.getElem_map,List.getElem_map] at this
      omega
    subst hij
    rw [hi] at ht'
    cases ht'
    exact hid
   refine ⟨.tup [.p (.val (.bool false))],mk ops o (Gj b m ck sn s0) true,rfl,?_,?_⟩
   ·have:=hover sn (fun r' e s'=>r'=r→andThen K (Q r) e s') ⟨fun _ _ h=>(by cases h),fun r' e s' hne h hr'=>(by
     subst hr'
     cases e with
     | normal=>exact absurd rfl hne
     | _=>exact h)⟩
    exact ⟨fun r' hr'=>by cases hr'; exact this.h r hD⟩
   ·refine Qr rr (v:=.tuple #[.bool false]) ?_ ?_
    ·simp [execOp,ho,hxr.1,g2]
    ·simp only [Qf]
     exact ⟨[.bool false],rfl,_,_,rfl,by simp [Qf,Q5],rfl⟩
  ·obtain ⟨i,hi⟩:=List.getElem?_of_mem ((by simpa [leftOf] using g1:e ∈ en.toList∧_).1)
   have hlt:i < en.toList.length:=(List.getElem?_eq_some_iff.1 hi).1
   obtain ⟨t,ht⟩:∃ t,ts[i]?=some t:=⟨_,List.getElem?_eq_getElem zo⟩
   obtain ⟨⟨fl,k,v⟩,he⟩:∃ q,es[i]?=some q:=⟨_,List.getElem?_eq_getElem zo⟩
   have hfl:fl=true:=List.all_eq_true.1 hall _ (List.mem_of_getElem? he)
   subst hfl
   have hei2:en[i]?=some e:=by rw [← Array.getElem?_toList]; exact hi
   have hbe:Zb en i=e.born:=by simp [Zb,hei2]
   have hkey:e.key=Ry k:=by
    have:=congrArg (·[i]?) hk
    simp only [List.getElem?_map,hi,he,Option.map_some,Zd] at this
    exact this
   obtain ⟨q,Dt,Lr⟩:∃ q:Option R,t q=some r∧(q=none∨∀ q,t q=q):=by
    rcases c1 t (List.mem_of_getElem? ht) with h | h
    ·exact ⟨some r,h _, .inr h⟩
    ·exact ⟨none,h _, .inl rfl⟩
   refine ⟨.tup [.p (.val (.bool true)), .p (.val (Ry k)),v],mk ops o (Gj b m ck (sn.push (Zb en i)) s0) true,rfl,?_,?_⟩
   ·have:=hent i t k v ht he sn q (fun r' e s'=>r'=r→andThen K (Q r) e s') ⟨fun r' s' h3 h4 h5=>(by
      rcases Lr with rfl | hid
      ·cases h3
      ·refine hK s' ⟨⟨sn.push (Zb en i),fun y hy=>?_⟩,?_,h4⟩
       ·rw [Array.toList_push,List.mem_append,List.mem_singleton] at hy
        rcases hy with hy | rfl
        ·exact hsn y hy
        ·exact ⟨i,⟨t,ht,hid⟩,rfl⟩
       ·show Ag en (sn.push (Zb en i)) < Ag en sn
        rw [hbe]; exact uj g1),fun r' e s' hne h hr'=>(by
     subst hr'
     cases e with
     | normal=>exact absurd rfl hne
     | _=>exact h)⟩
    exact ⟨fun r' hr'=>by cases hr'; exact this.h r Dt⟩
   ·have E0:Zg φ (look (Gj b m ck sn s0).H) w φ (look (Gj b m ck sn s0).H) w1:=by
     rcases g2 with rfl | rfl
     ·exact Zg.refl _ _ _
     ·exact FR rfl rfl rfl rfl
    have X0:YM φ (look (Gj b m ck sn s0).H) w φ (look (Gj b m ck sn s0).H) w1:=by
     rcases g2 with rfl | rfl
     ·exact YM.refl _ _ _
     ·exact Hf rfl
    have hp1:ZN φ (look (Gj b m ck sn s0).H) w1 M0:=by
     rcases g2 with rfl | rfl
     ·exact rr.hp
     ·exact TN (w:=w) (w':=w.drew) rfl E0 rr.hp
    have hh1:w1.heap[φ b]?=some (.mapIter (some (φ m)) ck sn ck):=by rcases g2 with rfl | rfl <;> exact h1
    obtain ⟨E,X⟩:=Bj (k1:=.it m ck (sn.push e.born)) (ob:=.mapIter (some (φ m)) ck (sn.push e.born) ck) hbb rfl rfl hp1
    have hup:look (mk ops o (Gj b m ck (sn.push (Zb en i)) s0) true).H=upd (look (Gj b m ck sn s0).H) b (.it m ck (sn.push e.born)):=by
     show look (Gj b m ck (sn.push (Zb en i)) s0).H=_
     rw [hl0,hl0,hbe]
     funext c
     by_cases e:b=c
     ·subst e; simp [upd]
     ·simp [upd,e]
    rw [hup]
    have hnew:RelB φ (upd (look (Gj b m ck sn s0).H) b (.it m ck (sn.push e.born))) (w1.putObj (φ b) (.mapIter (some (φ m)) ck (sn.push e.born) ck)) (MM φ (upd (look (Gj b m ck sn s0).H) b (.it m ck (sn.push e.born))) M0) (φ b) (.it m ck (sn.push e.born)) :=
     ⟨World.putObj_heap_same (Rn.1 hh1).1, .mg en ck es,by simp [upd,Ne.symm hmb,hmm],rfl⟩
    have hv1:=(QX (E.keeps M0) X).2 _ _ ((QX (E0.keeps M0) X0).2 _ _ hv)
    refine ⟨_, .tuple #[.bool true,e.key,e.val],w1.putObj (φ b) (.mapIter (some (φ m)) ck (sn.push e.born) ck),φ,?_, .inl rfl,?_,P9 hbb rfl rfl hp1 hnew,E0.trans E,YM.trans E0.size X0 X⟩
    ·simp [execOp,ho,hxr.1,g3]
     rfl
    ·simp only [Qf]
     refine ⟨[.bool true,e.key,e.val],rfl,_,_,rfl,by simp [Qf,Q5],_,_,rfl,by simp [Qf,Q5,hkey],_,_,rfl,?_,rfl⟩
     exact R7 (i:=i) hv1 (by rw [List.getElem?_map,he]; rfl) (by rw [List.getElem?_map,hi]; rfl)
 exact P8 (key.h r rfl) fun e s' h=>h rfl
def Ci {R:Type} (f:Nat→(Option R→Option R)→List UInt8→AV→Prop):Nat→List (Option R→Option R)→List (Bool × List UInt8 × AV)→Prop
 | i,t :: ts,e :: es=>f i t e.2.1 e.2.2∧Ci f (i+1) ts es
 | _,_,_=>True
theorem dB {R:Type} {f:Nat→(Option R→Option R)→List UInt8→AV→Prop} {i:Nat} {es:List (Bool × List UInt8 × AV)}:Ci f i [] es:=by unfold Ci; trivial
theorem VG {R:Type} {f:Nat→(Option R→Option R)→List UInt8→AV→Prop} {i:Nat} {t:Option R→Option R} {ts:List (Option R→Option R)} {e:Bool × List UInt8 × AV} {es:List (Bool × List UInt8 × AV)} (h:f i t e.2.1 e.2.2) (hs:Ci f (i+1) ts es):Ci f i (t :: ts) (e :: es):=⟨h,hs⟩
theorem jh {R:Type} {f:Nat→(Option R→Option R)→List UInt8→AV→Prop}:∀ {ts:List (Option R→Option R)} {es:List (Bool × List UInt8 × AV)} {j i:Nat} {t:Option R→Option R} {e:Bool × List UInt8 × AV},Ci f j ts es→ts[i]?=some t→es[i]?=some e→f (j+i) t e.2.1 e.2.2
 | [],_,_,_,_,_,_,h,_=>by simp at h
 | _ :: _,[],_,_,_,_,_,_,h=>by simp at h
 | t0 :: ts,e0 :: es,j,0,t,e,h,h1,h2=>by
  simp only [List.getElem?_cons_zero,Zd] at h1 h2
  subst h1 h2
  exact h.1
 | t0 :: ts,e0 :: es,j,i+1,t,e,h,h1,h2=>by
  have:=jh h.2 (by simpa using h1) (by simpa using h2) (i:=i)
  rwa [show j+1+i=j+(i+1) by omega] at this
theorem nu {R:Type} {F:Option R}:∀ t ∈ ([]:List (Option R→Option R)),yj F t:=fun _ h=>by cases h
theorem ul {R:Type} {F:Option R} {t:Option R→Option R} {ts:List (Option R→Option R)} (h:yj F t) (hs:∀ u ∈ ts,yj F u):∀ u ∈ t :: ts,yj F u:=fun u hu=>by
 rcases List.mem_cons.1 hu with rfl | hu
 ·exact h
 ·exact hs u hu
theorem vN {b m:Nat} {en:Array MapEntry} {ck:Nat} {es:List (Bool × List UInt8 × AV)} {F D:Option R} (ts:List (Option R→Option R)) (hB:UL en ck)
  (hops:ops.toList=o :: l) (ho:o.op=.next x false) (hw:ZF ops o (look s0.T)=some true) (hd:Ku N o.dst=true)
  (hT:Zr (look (Zv ops o s0.T true)) x=some (.iv b)) (hHb:look s0.H b=some (.it m ck #[])) (hHm:look s0.H m=some (.mg en ck es)) (hmb:(m == b)=false) (hall:es.all (·.1)=true) (hlen:ts.length=es.length) (hC:∀ t ∈ ts,yj F t)
  (hover:∀ (sn:Array Nat) (Qn:R→AX→St→Prop),Nx N (none:Option R) s0 Q Qn→KX D P N ops (Ig P N ro B Qn) false [(none,[])] l (St.put (mk ops o (Gj b m ck sn s0) true) o.dst (.tup [.p (.val (.bool false))])))
  (hent:Ci (fun i t k v=>∀ (sn:Array Nat) (q:Option R) (Qn:R→AX→St→Prop),Nx N q (Gj b m ck (sn.push (Zb en i)) s0) Q Qn→KX (t q) P N ops (Ig P N ro B Qn) false [(none,[])] l (St.put (mk ops o (Gj b m ck (sn.push (Zb en i)) s0) true) o.dst (.tup [.p (.val (.bool true)), .p (.val (Ry k)),v]))) 0 ts es) :
  QU (nk F D ts) P N ro (.loop (.seq (.region n ops false) B)) s0 Q :=
 uk ts hB hops ho hw hd hT hHb hHm hmb hall hlen hC hover fun i t k v h1 h2=>by
  have:=jh hent h1 h2
  rwa [Nat.zero_add] at this
end
section
variable {R:Type} {a:Option R} {P:Program} {N:Nat} {ops:Array Oper} {o:Oper} {l:List Oper} {acc:List Yw} {s:St} {Q:R→AX→St→Prop}
def ak (P:Program) (T:Nat→Option AV) (h:Qv) (t:TypeId) (x ix y:Operand):Kn:=(Je P T h t x ix y).getD (.p (.val undef),none,[])
theorem Ah {t:TypeId} {x ix y:Operand} (hw:ZF ops o (look s.T)=some true) (ho:o.op=.insert t x ix y) (hd:Ku N o.dst=true)
  (hu:(Je P (look (mk ops o s true).T) (look s.H) t x ix y).isSome=true)
  (h:KX a P N ops Q false ((none,[]) :: acc) l (Ju (mk ops o s true) o.dst (ak P (look (mk ops o s true).T) (look s.H) t x ix y))):KX a P N ops Q false acc (o :: l) s:=by
 refine Ae hw (by rw [ho,hd]; rfl) (fun c hc=>by rw [ho] at hc; cases hc) fun φ M0 D ac w r=>?_
 obtain ⟨u,hu⟩:=Ls.1 hu
 have e:ak P (look (mk ops o s true).T) (look s.H) t x ix y=u:=by unfold ak; rw [hu]; rfl
 rw [e] at h
 have hY:=Pm (o:={ o with op:=.mapUpdate t x ix y }) r rfl hu
 obtain ⟨v,q,m⟩:=u
 cases q with
 | none=>exact ⟨v,mk ops o s true,rfl,(show Ju (mk ops o s true) o.dst (v,none,m)=St.put (mk ops o s true) o.dst v by cases o.dst <;> rfl) ▸ h,by
   obtain ⟨nx,v',w',φ',h1,h2⟩:=hY
   exact ⟨nx,v',w',φ',by rw [← h1]; simp [execOp,ho],h2⟩⟩
 | some q =>
  obtain ⟨b,k⟩:=q
  exact ⟨v,⟨(mk ops o s true).T,(b,k) :: s.H⟩,rfl,(show Ju (mk ops o s true) o.dst (v,some (b,k),m)=St.put ⟨(mk ops o s true).T,(b,k) :: s.H⟩ o.dst v by cases o.dst <;> rfl) ▸ h,by
   obtain ⟨nx,v',w',φ',h1,h2⟩:=hY
   refine ⟨nx,v',w',φ',by rw [← h1]; simp [execOp,ho],?_⟩
   show _∧_
   rw [show look ((b,k) :: s.H)=ap (look s.H) (some (b,k)) from gq _ _ _]
   exact h2⟩
end
section
variable {P:Program} {ops:Array Oper} {Q:Exit→Act→World→Prop} {k:Nat} {ok:Oper}
theorem um (h:Eh k ops=true) (hq:¬ LetsOut Q) (hp:∀ c a w v,Q (.panic c) (a.put ((ops[k]?).bind (·.dst)) v) w→Q (.panic c) a w) {a:Act} {w:World} (hh:wpAny P .any (JN k ops) Q (JN k ops).size (Array.replicate (JN k ops).size false) a w) :
    wpAny P .any ops Q ops.size (Array.replicate ops.size false) a w:=by
  unfold Eh at h
  cases hk:ops[k]? with
  | none=>rw [hk] at h; cases h
  | some ok =>
    rw [hk] at h
    simp only [Ki] at h
    obtain ⟨⟨⟨hmv,haf⟩,hns⟩,hfr⟩:=h
    have hkl:k < ops.size:=(Array.getElem?_eq_some_iff.1 hk).1
    rw [vC hk] at hh
    obtain ⟨n,hn⟩:∃ n,ops.size=n+1:=⟨ops.size - 1,by omega⟩
    have hmv':∃ x,ok.op=.move x∧ok.guard=none:=by
      unfold vz at hmv
      split at hmv
      · exact ⟨_,by assumption,by assumption⟩
      · cases hmv
    obtain ⟨x,hop,hgu⟩:=hmv'
    have hrun:∀ w,(execOp a.eval ok).run P w=.ok (.value (a.eval x)) w:=by
      intro w
      simp [execOp,hop]
    have hy:Yields P ops ok (a.eval x) a:=.inl ⟨by simp [Region.wanted,hgu],hrun⟩
    have hr0:(0:Nat) ∈ Region.ready .any (JN k ops) (Array.replicate (n+1) false):=by
      rw [mem_ready]
      exact ⟨by simp,_,D8 hk,fun e he=>by simp at he⟩
    have hrk:k ∈ Region.ready .any ops (Array.replicate (n+1) false):=by
      rw [mem_ready]
      refine ⟨by have:k < n+1:=by omega
                 simp [this],ok,hk,fun e he hb=>?_⟩
      have:=List.all_eq_true.1 haf e (by simpa using he)
      rw [hb] at this
      cases this
    rw [hn] at hh ⊢
    have h2:=hh.2 0 hr0
    unfold wpOp at h2
    rw [D8 hk] at h2
    simp only [Region.wanted,hgu,if_true] at h2
    have h3:wpAny P .any (JN k ops) Q n ((Array.replicate (n+1) false).setIfInBounds 0 true) (a.put ok.dst (a.eval x)) w:=by
      rcases h2 with h2 | ⟨_,h2⟩
      · unfold Oper.wp at h2
        rw [show ∀ g,execOp a.eval { dst:=ok.dst,op:=ok.op,type:=ok.type,pos:=ok.pos,after:=#[],guard:=g }=execOp a.eval ok from fun _=>rfl,hrun w] at h2
        exact h2
      · exact absurd h2 hq
    have h4:wpAny P .any ops Q n ((Array.replicate (n+1) false).setIfInBounds k true) (a.put ok.dst (a.eval x)) w:=by
      refine vD hk n _ _ _ w (by simp [hn]) (by simp [hn]) (by simp) ?_ ?_ h3
      · have:k < n+1:=by omega
        simp [this]
      · intro i hi
        rw [getD_set_ne false (mD hi).symm,getD_set_ne false (Ne.symm hi)]
        simp [Array.getElem?_replicate]
        split <;> split <;> rfl
    exact wpAny_first hk (Region.noSelect_spec hns) (fun c a w h=>hp c a w _ (by rw [hk]; exact h)) n _ a w (fun j oj hj hne hun hno=>Region.free_spec hk (by rw [hn] at hfr; exact hfr) j oj hj hne hun hno) hrk hy h4
end
def G9 (d:Option Tmp) (s:St):St:=⟨s.T.filter fun p=>some p.1 != d,s.H⟩
theorem Lh {d:Option Tmp} {t:Nat} {x:AV}:∀ {T:List (Nat × AV)},look (T.filter fun p=>some p.1 != d) t=some x→look T t=some x∧d ≠ some t
 | [],h=>by cases h
 | (c,y) :: T,h=>by
  by_cases e:some c=d
  ·have hf:((c,y) :: T).filter (fun p=>some p.1 != d)=T.filter fun p=>some p.1 != d:=by simp [e]
   rw [hf] at h
   have ih:=Lh h
   refine ⟨?_,ih.2⟩
   have hct:c ≠ t:=fun h2=>ih.2 (by rw [← e,h2])
   simp [look,hct,ih.1]
  ·have hf:((c,y) :: T).filter (fun p=>some p.1 != d)=(c,y) :: T.filter fun p=>some p.1 != d:=by simp [e]
   rw [hf] at h
   simp only [look] at h ⊢
   by_cases hct:c=t
   ·subst hct
    simp only [if_true] at h ⊢
    exact ⟨h,fun h2=>e h2.symm⟩
   ·simp only [hct,if_false] at h ⊢
    exact Lh h
def qd {R:Type} (d:Option Tmp) (Q:R→AX→St→Prop):R→AX→St→Prop:=fun r x s=>match x with | .normal=>Q r .normal s | .panic v=>Q r (.panic v) (G9 d s) | _=>False
theorem ny {φ:Nat→Nat} {M0:QR} {N:Nat} {D:DB} {s:St} {a:Act} {w:World} {d:Option Tmp} {v:Value} (r:Zw φ M0 N D (look s.T) (look s.H) (a.put d v) w):Zw φ M0 N D (look (G9 d s).T) (look (G9 d s).H) a w:=by
 cases d with
 | none =>
  refine ⟨r.dfs,r.siz,r.hp,fun t x ht=>r.tm t x (Lh ht).1⟩
 | some d =>
  refine ⟨r.dfs,by have:=r.siz; simpa [Act.put] using this,r.hp,fun t x ht=>?_⟩
  obtain ⟨h1,h2⟩:=Lh ht
  have h3:=r.tm t x h1
  have:d ≠ t:=fun e=>h2 (by rw [e])
  have e:(a.put (some d) v).tmps.getD t undef=a.tmps.getD t undef:=by simp [Act.put,Array.getElem?_setIfInBounds_ne this]
  rw [e] at h3
  exact h3
theorem uo {φ:Nat→Nat} {M0:QR} {N:Nat} {D:DB} {s:St} {a:Act} {w:World} {d:Option Tmp} (r:Zw φ M0 N D (look s.T) (look s.H) a w):Zw φ M0 N D (look (G9 d s).T) (look (G9 d s).H) a w :=
 ⟨r.dfs,r.siz,r.hp,fun t x ht=>r.tm t x (Lh ht).1⟩
theorem drop_drop (d:Option Tmp) (s:St):G9 d (G9 d s)=G9 d s:=by simp [G9,List.filter_filter]
theorem nz {P:Program} {N:Nat} {ro:Option Nat} {id:Nat} {ops:Array Oper} {s:St} {R:Type} {r0:R} {Q:R→AX→St→Prop} (k:Nat) (hm:P.follows .mixedOrders=true) (hnd:Ul ops=true) (hf:Eh k ops=true) (h:KA P N (JN k ops) (qd ((ops[k]?).bind (·.dst)) Q r0) (JN k ops).toList [] s):Ex P N ro (.region id ops true) s (Q r0):=by
 intro φ M0 D a w r
 refine wpIn_region_any hm (DZ hnd VW _ _ _ _ ?_)
 have h1:=EX h r
 have h2:=um hf VW (fun c a' w' v hc=>by
  obtain ⟨φ',x,s',g1,g2,g3,g4⟩:=hc
  cases x with
  | normal=>cases g4
  | exit i=>cases g4
  | ret=>cases g4
  | panic u =>
   refine ⟨φ', .panic u,G9 ((ops[k]?).bind (·.dst)) s',?_,ny g2,g3,g4⟩
   show Q r0 (.panic u) (G9 _ (G9 _ s'))
   rw [drop_drop]
   exact g1) h1
 refine Xi ?_ _ _ _ _ h2
 rintro e a' w' ⟨φ',x,s',g1,g2,g3,g4⟩
 cases x with
 | normal=>exact ⟨φ', .normal,s',g1,g2,g3,g4⟩
 | exit i=>exact g1.elim
 | ret=>exact g1.elim
 | panic v=>exact ⟨φ', .panic v,G9 ((ops[k]?).bind (·.dst)) s',g1,uo g2,g3,g4⟩
section
variable {R:Type} {a:Option R} {P:Program} {N:Nat} {ro:Option Nat} {id:Nat} {ops:Array Oper} {s s':St} {Q:R→AX→St→Prop} {d:Option Tmp} {v:AV}
theorem nA (k:Nat) (hm:P.follows .mixedOrders=true) (hd:Ul ops=true) (hf:Eh k ops=true) (h:KX a P N (JN k ops) (qd ((ops[k]?).bind (·.dst)) Q) true [] (JN k ops).toList s):QU a P N ro (.region id ops true) s Q:=⟨fun r hr=>nz k hm hd hf (h.h r hr)⟩
theorem QcH (h:Zy a Q .normal s):Zy a (qd d Q) .normal s:=⟨fun r hr=>h.h r hr⟩
theorem QcI (e:G9 d s=s') (h:Zy a Q (.panic v) s'):Zy a (qd d Q) (.panic v) s:=by
 subst e
 exact ⟨fun r hr=>h.h r hr⟩
end
abbrev FV:=Fn × Array Value × Array Value
def fv (x:FV):Value:=.func x.1 x.2.1 x.2.2
def isFn:Option AV→Bool
 | some (.fn _ _ _)=>true
 | _=>false
theorem kI {φ:Nat→Nat} {h:Qv} {w:World} {M:QR} {o:Option AV} (hk:isFn o=true):∃ x,o=some x∧∀ v,Qf φ h w M x v→∃ u:FV,v=fv u:=by
 match o,hk with
 | some (.fn f a b),_ =>
  refine ⟨_,rfl,fun v hv=>?_⟩
  simp only [Qf] at hv
  obtain ⟨l,m,rfl,_⟩:=hv
  exact ⟨(f,l.toArray,m.toArray),rfl⟩
theorem BZ {R:Type} {a:Option R} {P:Program} {N:Nat} {ro:Option Nat} {c:Code} {s:St} {Q:R→AX→St→Prop} (b k:Nat) (hb:isFn (cellAt b k s)=true) (h:∀ u:FV,QU a P N ro c (UC b k (.p (.val (fv u))) s) Q):QU a P N ro c s Q:=by
 refine ⟨fun r hr=>?_⟩
 intro φ M0 D ac w r1
 obtain ⟨y,hy,hyf⟩:=kI (φ:=φ) (h:=look s.H) (w:=w) (M:=MM φ (look s.H) M0) hb
 obtain ⟨qG,cs,hq,Lr⟩:=G8 hy
 obtain ⟨c1,g1,g2⟩:=r1.hp.blk b _ hq
 obtain ⟨u,g3,g4⟩:=Hr g2 Lr
 obtain ⟨u,rfl⟩:=hyf u g4
 have hU:look (UC b k (.p (.val (fv u))) s).H=upd (look s.H) b (.box qG (cs.set k (.p (.val (fv u))))):=SX hq
 have r2:Zw φ M0 N D (look (UC b k (.p (.val (fv u))) s).T) (look (UC b k (.p (.val (fv u))) s).H) ac w:=by
  rw [hU]
  refine O3 r1 hq fun c2 hc2=>?_
  rw [g1] at hc2
  cases hc2
  exact Ub g2 g3 (by simp [Qf,Q5])
 have E1:Zg φ (look s.H) w φ (look (UC b k (.p (.val (fv u))) s).H) w:=by rw [hU]; exact BQ hq
 exact wpIn_mono ((h u).h r hr φ M0 D ac w r2) fun _ _ _ p=>p.trans E1
theorem Ai {R:Type} {a:Option R} {P:Program} {N:Nat} {f:FuncId} {args:List AV} {dst:Option Tmp} {s:St} {K:R→St→Prop} {Q:R→AX→St→Prop} {cs:List AV} (k:Nat) (hk:isFn (cs[k]?)=true) (h:∀ u:FV,Dr a P N f (.agg (cs.set k (.p (.val (fv u)))) :: args) dst s K Q):Dr a P N f (.agg cs :: args) dst s K Q:=by
 refine ⟨fun r hr=>?_⟩
 intro φ M0 D ac w vs r1 ha
 simp only [Qi] at ha
 obtain ⟨y,ys,rfl,hy,hys⟩:=ha
 simp only [Qf] at hy
 obtain ⟨l,rfl,hl⟩:=hy
 obtain ⟨x,hx,hxf⟩:=kI (φ:=φ) (h:=look s.H) (w:=w) (M:=MM φ (look s.H) M0) hk
 obtain ⟨u,g1,g2⟩:=Hr hl hx
 obtain ⟨u,rfl⟩:=hxf u g2
 refine (h u).h r hr φ M0 D ac w _ r1 ?_
 simp only [Qi]
 refine ⟨_,ys,rfl,?_,hys⟩
 simp only [Qf]
 exact ⟨l,rfl,by have:=Ub (k:=k) (x:=.p (.val (fv u))) (u:=fv u) hl g1 (by simp [Qf,Q5]); exact this⟩
theorem J2 {N:Nat} {s:St} (m:Nat) (es:List (Bool × List UInt8 × AV)) {en:Array MapEntry} {ck:Nat} (hm:look s.H m=some (.mg en ck es)):Weak N s (ah m (.mf es) s):=by
 intro φ M0 D a w r
 have hH:look (ah m (.mf es) s).H=upd (look s.H) m (.mf es):=by funext c; exact I8 s.H c hm
 obtain ⟨h1,h2,h3,h4⟩:=r.hp.blk m _ hm
 obtain ⟨H2,E2,X2⟩:=jf (k1:=.mf es) hm rfl rfl r.hp fun h' M' hk' X=>⟨en,ck,h1,h2,(QX hk' X).2 _ _ h3,h4⟩
 rw [hH]
 exact ⟨φ,r.keep E2 X2 H2,E2⟩
def iX (s:St):Gf:=⟨s.T.map (·.1),s.H.map (·.1),[],[]⟩
section
variable {R V:Type} {o:Option R} {P:Program} {N:Nat} {ro:Option Nat} {c y:Code} {s:St} {Q:R→AX→St→Prop} {ops:Array Oper} {draw:Bool} {id:Nat}
theorem Qg (hm:P.follows .mixedOrders=true) (s':St) (h1:(Tm P N ops draw s).bind (F4 (iX s'))=some s') (h:QU o P N ro y s' Q):QU o P N ro (.seq (.region id ops draw) y) s Q:=sR hm _ s' h1 h
theorem Qk (s':St) (hw:F4 (iX s') s=some s') (h:QU o P N ro y s' Q):Zy o (Ig P N ro y Q) .normal s:=sN _ s' hw h
theorem M3 (s':St) (hw:F4 (iX s') s=some s') (h:QU o P N ro c s' Q):QU o P N ro c s Q:=sP _ s' hw h
theorem QV {S:V→St} (v:V) (hw:F4 (iX (S v)) s=some (S v)):Zy (some v) (xH N S) .normal s:=bN v _ hw
theorem Ky {k:V→Option R} {S:V→St} (v:V) (hw:F4 (iX (S v)) s=some (S v)):Zy (k v) (kQ N k S Q) .normal s:=QaC v _ hw
theorem Wq {s':St} (h:F4 (iX s') s=some s'):Weak N s s':=Xu h
end
section
variable {R V:Type} {a a1 a2:Option R} {P:Program} {N:Nat} {ops:Array Oper} {o:Oper} {l l':List Oper} {acc:List Yw} {s:St} {Q:R→AX→St→Prop}
theorem Yt {T:Nat→Option AV} {h:Qv} {t e:TypeId} {x ix:Operand} {S tk len sz kk g:Nat} {ty:TypeId} {es:List (List PV)} {k:IntKind} {n:Int} (ho:o.op=.indexAddr t x ix) (hn:Zr T ix=some (.p (.val (.int k n)))) (hx:Zr T x=some (.vptr tk es.length kk g)) (hb:h tk=some (.vec ty S es))
  (ht:P.underlying t=some (.array len e)) (hi:(P.info? e).map (·.size)=some sz) (hj:decide (0≤n∧n < len)=true):VA P o T h=some (.vptr tk es.length kk (g+n.toNat * sz),none,[tk]):=by
 obtain ⟨i,hi1,hi2⟩:=FQ.1 hi
 have hj:=of_decide_eq_true hj
 simp [VA,ho,Ia,hx,VV,hn,ht,hb,hi1,hi2,hj.1,hj.2]
theorem JP {α:Type} {l:List α} {n:Int} {x y:α} (h:Zc l n=some x):Zc (List.set l (Int.toNat n) y) n=some y:=by
 unfold Zc at h ⊢
 split at h
 ·cases h
 ·rename_i hn
  rw [if_neg hn]
  obtain ⟨h1,_⟩:=List.getElem?_eq_some_iff.1 h
  rw [List.getElem?_set_self h1]
theorem dC {α:Type} {t e ty:TypeId} {x y:Operand} {S:Nat} {enc:α→List PV} {l:List α} (hw:ZF ops o (look s.T)=some true) (ho:o.op=.binOp .eql t x y ty) (hd:Ku N o.dst=true) (ht:P.underlying t=some (.slice e)) (hx:Zr (look (mk ops o s true).T) x=some (.p (.sl S (List.map enc l)))) (hy:Zr (look (mk ops o s true).T) y=some (.p (.val (.slice none 0 0)))) (hg:(!List.isEmpty l)=true)
  (h:KX a P N ops Q false ((none,[]) :: acc) l' (St.put (mk ops o s true) o.dst (.p (.val (.bool false))))):KX a P N ops Q false acc (o :: l') s:=by
 refine Ae hw (by rw [ho,hd]; rfl) (fun c hc=>by rw [ho] at hc; cases hc) fun φ M0 D ac w r=>⟨_,mk ops o s true,rfl,h,?_⟩
 have hxr:=r.ev hx
 have hyr:=r.ev hy
 simp only [Qf,Q5] at hxr hyr
 rcases hxr with ⟨rr,oo,cap,hv,_⟩ | ⟨he,_⟩
 ·obtain ⟨g1,_⟩:=IP (P:=P) (w:=w) ho ht hv hyr
  exact Qr r (g1 rfl) (by simp [Qf,Q5])
 ·have:l=[]:=by simpa using he
  subst this
  cases hg
theorem UD {T:Nat→Option AV} {h:Qv} {x:Operand} {tk k f S nn:Nat} {ty:TypeId} {es:List (List PV)} (hnn:nn=es.length) (ho:o.op=.nilCheck x) (hx:Zr T x=some (.vptr tk nn k f)) (hb:h tk=some (.vec ty S es)):VA P o T h=some (.vptr tk es.length k f,none,[tk]):=by
 subst hnn
 exact LQ ho hx hb
end
end Go.Abs
namespace Go.Proofs
open Go Go.Abs
set_option maxRecDepth 100000
abbrev VI (n:Int):PV:=.val (.int .i64 n)
abbrev VU (n:Int):PV:=.val (.int .u64 n)
abbrev VB (b:Bool):PV:=.val (.bool b)
abbrev VS (s:List UInt8):PV:=.val (.string (RG s))
abbrev I (n:Int):AV:=.p (.val (.int .i64 n))
abbrev B8 (n:Int):AV:=.p (.val (.int .u8 n))
abbrev B (b:Bool):AV:=.p (.val (.bool b))
abbrev S (s:List UInt8):AV:=.p (.val (.string (RG s)))
def ci (n:Int):List PV:=[VI n]
abbrev zS:AV:=.p (.val (.slice none 0 0))
abbrev mI:List (List PV)→List (List PV):=List.map YC
abbrev hS (w:Option Addr) (l c:Nat):Go.Abs.AV:=.p (.val (.slice w l c))
abbrev Ka:Go.Abs.AV:=.ptr 1000 0
abbrev Gl:Go.Abs.AV:=.ptr 1001 0
abbrev Jo:Go.Abs.AV:=.ptr 1002 0
abbrev NG:Go.Abs.AV:=.ptr 1003 0
abbrev qq (n:Nat):Nat × Go.Abs.AV:=(n, .ptr n 0)
def cb (n:Bool):List PV:=[VB n]
def Zo (n:List UInt8):List PV:=[VS n]
theorem Qe:Tryz.prog.follows .mixedOrders=true:=by kernel_rfl
structure Y1 where
 Kind:Int
 Text:List UInt8
 N:Int
 At:Int
deriving DecidableEq
def Y1.cs (x:Y1):List PV:=[VI x.Kind,VS x.Text,VI x.N,VI x.At]
abbrev GH:List Y1→List (List PV):=List.map Y1.cs
structure KG where
 Err:Int
 At:Int
deriving DecidableEq
def KG.cs (x:KG):List PV:=[VI x.Err,VI x.At]
abbrev Fa:List KG→List (List PV):=List.map KG.cs
structure GN where
 Kind:Int
 Name:List UInt8
 N:Int
 At:Int
 Kids:List (List PV)
def GN.cs (x:GN):List PV:=[VI x.Kind,VS x.Name,VI x.N,VI x.At, .sl 5 (List.map YC x.Kids)]
def GN.of:List PV→Option GN
 | [.val (.int .i64 v0), .val (.string v1), .val (.int .i64 v2), .val (.int .i64 v3), .sl s4 v4]=>if s4=5 then some ⟨v0,JG v1,v2,v3,v4⟩ else none
 | _=>none
theorem GN.of_cs (r:List PV) (x:GN) (h:GN.of r=some x):GN.cs x=r:=by
 unfold GN.of at h
 split at h
 ·split at h
  ·rename_i hs
   cases h
   simp [GN.cs,OC,w9,hs]
  ·cases h
 ·cases h
structure KL where
 tks:List Y1
 pos:Int
 length:Int
 dg:List KG
deriving DecidableEq
def KL.cs (x:KL):List PV:=[.sl 4 (List.map Y1.cs x.tks),VI x.pos,VI x.length, .sl 2 (List.map KG.cs x.dg)]
structure UE where
 Rated:Int
 Heat:Int
deriving DecidableEq
def UE.cs (x:UE):List PV:=[VI x.Rated,VI x.Heat]
structure KN where
 Ambient:Int
 Most:Int
 Gain:Int
 Loss:Int
 Den:Int
deriving DecidableEq
def KN.cs (x:KN):List PV:=[VI x.Ambient,VI x.Most,VI x.Gain,VI x.Loss,VI x.Den]
structure ZI where
 Name:List UInt8
 Up:Int
 Limit:Int
 Neutral:Int
 Fuse:UE
 Cable:KN
deriving DecidableEq
def ZI.cs (x:ZI):List PV:=[VS x.Name,VI x.Up,VI x.Limit,VI x.Neutral,VI x.Fuse.Rated,VI x.Fuse.Heat,VI x.Cable.Ambient,VI x.Cable.Most,VI x.Cable.Gain,VI x.Cable.Loss,VI x.Cable.Den]
abbrev XM:List ZI→List (List PV):=List.map ZI.cs
structure Zf where
 Name:List UInt8
deriving DecidableEq
def Zf.cs (x:Zf):List PV:=[VS x.Name]
abbrev K3:List Zf→List (List PV):=List.map Zf.cs
structure Kq where
 Name:List UInt8
 Owner:Int
 Rank:Int
 Card:Int
deriving DecidableEq
def Kq.cs (x:Kq):List PV:=[VS x.Name,VI x.Owner,VI x.Rank,VI x.Card]
abbrev Fw:List Kq→List (List PV):=List.map Kq.cs
structure ZL where
 Name:List UInt8
 At:Int
 Phases:Int
 Min:Int
 Max:Int
 Step:Int
 Fallback:Int
 Owner:Int
deriving DecidableEq
def ZL.cs (x:ZL):List PV:=[VS x.Name,VI x.At,VI x.Phases,VI x.Min,VI x.Max,VI x.Step,VI x.Fallback,VI x.Owner]
abbrev Z5:List ZL→List (List PV):=List.map ZL.cs
structure Zt where
 Name:List UInt8
 Charger:Int
deriving DecidableEq
def Zt.cs (x:Zt):List PV:=[VS x.Name,VI x.Charger]
abbrev Wx:List Zt→List (List PV):=List.map Zt.cs
structure Qj where
 Conductors:List ZI
 Owners:List Zf
 Contracts:List Kq
 Chargers:List ZL
 Bays:List Zt
deriving DecidableEq
def Qj.cs (x:Qj):List PV:=[.sl 11 (List.map ZI.cs x.Conductors), .sl 1 (List.map Zf.cs x.Owners), .sl 4 (List.map Kq.cs x.Contracts), .sl 8 (List.map ZL.cs x.Chargers), .sl 2 (List.map Zt.cs x.Bays)]
structure KP where
 kind:Int
 index:Int
deriving DecidableEq
def KP.cs (x:KP):List PV:=[VI x.kind,VI x.index]
def Q6 (x:List UInt8):Value:=.string (RG x)
def Q7 (x:Bool):PV:=VB x
def Qd (x y:List UInt8):Bool:=Q8 x y
def VH (x:List UInt8):Value:=.string (RG x)
def VJ (x:KP):PV:=.val (.agg #[.int .i64 x.kind, .int .i64 x.index])
def QE (x y:List UInt8):Bool:=Q8 x y
structure Kc where
 from_:Int
 to_:Int
deriving DecidableEq
def Kc.cs (x:Kc):List PV:=[VI x.from_,VI x.to_]
abbrev NH:List Kc→List (List PV):=List.map Kc.cs
def U8 (x0 x1 x2 x3 x4 x5 x6 x7 x8 x9:Nat):List (Bool × List UInt8 × AV):=[(true,[108,105,109,105,116], .agg [.tsl 1 (List.map ci [1,2]) x0,B false, .fn (.func 130) [] [.ptr x1 0]]),(true,[110,101,117,116,114,97,108], .agg [.tsl 1 (List.map ci [1,2]) x0,B false, .fn (.func 131) [] [.ptr x1 0]]),(true,[102,117,115,101], .agg [.tsl 1 (List.map ci [1,2]) x0,B true, .fn (.func 132) [] [.ptr x1 0]]),(true,[116,104,101,114,109,97,108], .agg [.tsl 1 (List.map ci [1,2]) x0,B true, .p (.val (.func (.func 133) #[] #[]))]),(true,[102,114,111,109], .agg [.tsl 1 (List.map ci [2]) x2,B false, .fn (.func 134) [] [.ptr x3 0]]),(true,[111,119,110,101,114], .agg [.tsl 1 (List.map ci [4,5]) x4,B false, .p (.val (.func (.func 83) #[] #[]))]),(true,[114,97,110,107], .agg [.tsl 1 (List.map ci [4]) x5,B false, .p (.val (.func (.func 85) #[] #[]))]),(true,[99,97,114,100], .agg [.tsl 1 (List.map ci [4]) x6,B false, .p (.val (.func (.func 87) #[] #[]))]),(true,[97,116], .agg [.tsl 1 (List.map ci [5]) x7,B false, .p (.val (.func (.func 89) #[] #[]))]),(true,[112,104,97,115,101,115], .agg [.tsl 1 (List.map ci [5]) x7,B false, .p (.val (.func (.func 90) #[] #[]))]),(true,[97,109,112,115], .agg [.tsl 1 (List.map ci [5]) x7,B false, .fn (.func 92) [] [.ptr x8 0]]),(true,[102,97,108,108,98,97,99,107], .agg [.tsl 1 (List.map ci [5]) x7,B false, .p (.val (.func (.func 93) #[] #[]))]),(true,[99,104,97,114,103,101,114], .agg [.tsl 1 (List.map ci [6]) x9,B false, .p (.val (.func (.func 94) #[] #[]))])]
structure Oc where
 diag:KG
deriving DecidableEq
def Oc.cs (x:Oc):List PV:=[VI x.diag.Err,VI x.diag.At]
def QcJ (x0 x1 x2 x3 x4 x5 x6 x7 x8:Nat):List (Bool × List UInt8 × AV):=[(true,[108,105,109,105,116], .agg [.tsl 1 (List.map ci [1,2]) x0,B false, .fn (.func 130) [] [.ptr x1 0]]),(true,[110,101,117,116,114,97,108], .agg [.tsl 1 (List.map ci [1,2]) x0,B false, .fn (.func 131) [] [.ptr x1 0]]),(true,[102,117,115,101], .agg [.tsl 1 (List.map ci [1,2]) x0,B true, .fn (.func 132) [] [.ptr x1 0]]),(true,[116,104,101,114,109,97,108], .agg [.tsl 1 (List.map ci [1,2]) x0,B true, .p (.val (.func (.func 133) #[] #[]))]),(true,[102,114,111,109], .agg [.tsl 1 (List.map ci [2]) x2,B false, .fn (.func 134) [] [.ptr x3 0]]),(true,[111,119,110,101,114], .agg [.tsl 1 (List.map ci [4,5]) x4,B false, .p (.val (.func (.func 83) #[] #[]))]),(true,[114,97,110,107], .agg [.tsl 1 (List.map ci [4]) x5,B false, .p (.val (.func (.func 85) #[] #[]))]),(true,[99,97,114,100], .agg [.tsl 1 (List.map ci [4]) x6,B false, .p (.val (.func (.func 87) #[] #[]))]),(true,[97,116], .agg [.tsl 1 (List.map ci [5]) x7,B false, .p (.val (.func (.func 89) #[] #[]))]),(true,[112,104,97,115,101,115], .agg [.tsl 1 (List.map ci [5]) x7,B false, .p (.val (.func (.func 90) #[] #[]))]),(true,[97,109,112,115], .agg [.tsl 1 (List.map ci [5]) x7,B false, .fn (.func 92) [] [.ptr x8 0]]),(true,[102,97,108,108,98,97,99,107], .agg [.tsl 1 (List.map ci [5]) x7,B false, .p (.val (.func (.func 93) #[] #[]))])]
def QcK (x0 x1 x2 x3 x4 x5 x6 x7 x8:Nat):List (Bool × List UInt8 × AV):=[(true,[108,105,109,105,116], .agg [.tsl 1 (List.map ci [1,2]) x0,B false, .fn (.func 130) [] [.ptr x1 0]]),(true,[110,101,117,116,114,97,108], .agg [.tsl 1 (List.map ci [1,2]) x0,B false, .fn (.func 131) [] [.ptr x1 0]]),(true,[102,117,115,101], .agg [.tsl 1 (List.map ci [1,2]) x0,B true, .fn (.func 132) [] [.ptr x1 0]]),(true,[116,104,101,114,109,97,108], .agg [.tsl 1 (List.map ci [1,2]) x0,B true, .p (.val (.func (.func 133) #[] #[]))]),(true,[102,114,111,109], .agg [.tsl 1 (List.map ci [2]) x2,B false, .fn (.func 134) [] [.ptr x3 0]]),(true,[111,119,110,101,114], .agg [.tsl 1 (List.map ci [4,5]) x4,B false, .p (.val (.func (.func 83) #[] #[]))]),(true,[114,97,110,107], .agg [.tsl 1 (List.map ci [4]) x5,B false, .p (.val (.func (.func 85) #[] #[]))]),(true,[99,97,114,100], .agg [.tsl 1 (List.map ci [4]) x6,B false, .p (.val (.func (.func 87) #[] #[]))]),(true,[97,116], .agg [.tsl 1 (List.map ci [5]) x7,B false, .p (.val (.func (.func 89) #[] #[]))]),(true,[112,104,97,115,101,115], .agg [.tsl 1 (List.map ci [5]) x7,B false, .p (.val (.func (.func 90) #[] #[]))]),(true,[97,109,112,115], .agg [.tsl 1 (List.map ci [5]) x7,B false, .fn (.func 92) [] [.ptr x8 0]])]
def QcL (x0 x1 x2 x3 x4 x5 x6 x7:Nat):List (Bool × List UInt8 × AV):=[(true,[108,105,109,105,116], .agg [.tsl 1 (List.map ci [1,2]) x0,B false, .fn (.func 130) [] [.ptr x1 0]]),(true,[110,101,117,116,114,97,108], .agg [.tsl 1 (List.map ci [1,2]) x0,B false, .fn (.func 131) [] [.ptr x1 0]]),(true,[102,117,115,101], .agg [.tsl 1 (List.map ci [1,2]) x0,B true, .fn (.func 132) [] [.ptr x1 0]]),(true,[116,104,101,114,109,97,108], .agg [.tsl 1 (List.map ci [1,2]) x0,B true, .p (.val (.func (.func 133) #[] #[]))]),(true,[102,114,111,109], .agg [.tsl 1 (List.map ci [2]) x2,B false, .fn (.func 134) [] [.ptr x3 0]]),(true,[111,119,110,101,114], .agg [.tsl 1 (List.map ci [4,5]) x4,B false, .p (.val (.func (.func 83) #[] #[]))]),(true,[114,97,110,107], .agg [.tsl 1 (List.map ci [4]) x5,B false, .p (.val (.func (.func 85) #[] #[]))]),(true,[99,97,114,100], .agg [.tsl 1 (List.map ci [4]) x6,B false, .p (.val (.func (.func 87) #[] #[]))]),(true,[97,116], .agg [.tsl 1 (List.map ci [5]) x7,B false, .p (.val (.func (.func 89) #[] #[]))]),(true,[112,104,97,115,101,115], .agg [.tsl 1 (List.map ci [5]) x7,B false, .p (.val (.func (.func 90) #[] #[]))])]
def J3 (x:Int):Value:=.int .i64 x
def J4 (x:Bool):PV:=VB x
def Zk (x y:Int):Bool:=Qs x y
def Qb (x:Int × Int × Int):List PV:=[VI x.1,VI x.2.1,VI x.2.2]
structure ZT where
 Conductor:Int
 Phase:Int
 Amps:Int
deriving DecidableEq
def ZT.cs (x:ZT):List PV:=[VI x.Conductor,VI x.Phase,VI x.Amps]
structure Z6 where
 Cable:KN
 now:Int
deriving DecidableEq
def Z6.cs (x:Z6):List PV:=[VI x.Cable.Ambient,VI x.Cable.Most,VI x.Cable.Gain,VI x.Cable.Loss,VI x.Cable.Den,VI x.now]
structure Md where
 conductor:Int
 phase:Int
deriving DecidableEq
def Md.cs (x:Md):List PV:=[VI x.conductor,VI x.phase]
structure Cj where
 Sums:List (Int × Int × Int)
deriving DecidableEq
def Cj.cs (x:Cj):List PV:=[.sl 3 (List.map Qb x.Sums)]
def Dk (n:Nat) (a0b:Int):Option Bool :=
 cond (Qs a0b 32)
  (some true)
  (cond (Qs a0b 9)
   (some true)
   (some (Qs a0b 10)))
theorem Me (n:Nat) (a0b:Int):∀ r,Dk n a0b=some r→Q0 Tryz.prog 75 [B8 a0b] (.ret (B r)):=by
 refine Qp Tryz.func75 rfl Tryz.ntmps75 rfl ?_
 unfold Dk
 exact Qg Qe ⟨[(0,B8 a0b)],[]⟩ Qa (sS (sG (xR 3 Qa (xS (Qs a0b 32) (fun h1=>xN (QB Qa h1) Qa (xR 7 Qa (xE (Qk ⟨[(2,B true)],[]⟩ Qa (sT (qR (.id) Qa Qa Qa)))))) (fun h1=>xO (QA Qa h1) Qa (xR 3 Qa (xS (Qs a0b 9) (fun h2=>xN (QB Qa h2) Qa (xR 3 Qa (xE (Qk ⟨[(2,B true)],[]⟩ Qa (sT (qR (.id) Qa Qa Qa)))))) (fun h2=>xO (QA Qa h2) Qa (xR 3 Qa (xE (Qk ⟨[(2,B (Qs a0b 10))],[]⟩ Qa (sT (qR (.id) Qa Qa Qa)))))))))))))
def Fb (n:Nat) (a0b:Int):Option Bool :=
 cond (leI 97 a0b)
  (some (leI a0b 122))
  (some false)
theorem TA (n:Nat) (a0b:Int):∀ r,Fb n a0b=some r→Q0 Tryz.prog 111 [B8 a0b] (.ret (B r)):=by
 refine Qp Tryz.func111 rfl Tryz.ntmps111 rfl ?_
 unfold Fb
 exact Qg Qe ⟨[(0,B8 a0b)],[]⟩ Qa (sS (sG (xR 3 Qa (xS (leI 97 a0b) (fun h1=>xO (Qt Qa h1) Qa (xR 3 Qa (xE (Qk ⟨[(2,B (leI a0b 122))],[]⟩ Qa (sT (qR (.id) Qa Qa Qa)))))) (fun h1=>xN (Qu Qa h1) Qa (xR 3 Qa (xE (Qk ⟨[(2,B false)],[]⟩ Qa (sT (qR (.id) Qa Qa Qa))))))))))
def UF (n:Nat) (a0b:Int):Option Bool :=
 cond (leI 48 a0b)
  (some (leI a0b 57))
  (some false)
theorem Gm (n:Nat) (a0b:Int):∀ r,UF n a0b=some r→Q0 Tryz.prog 112 [B8 a0b] (.ret (B r)):=by
 refine Qp Tryz.func112 rfl Tryz.ntmps112 rfl ?_
 unfold UF
 exact Qg Qe ⟨[(0,B8 a0b)],[]⟩ Qa (sS (sG (xR 3 Qa (xS (leI 48 a0b) (fun h1=>xO (Qt Qa h1) Qa (xR 3 Qa (xE (Qk ⟨[(2,B (leI a0b 57))],[]⟩ Qa (sT (qR (.id) Qa Qa Qa)))))) (fun h1=>xN (Qu Qa h1) Qa (xR 3 Qa (xE (Qk ⟨[(2,B false)],[]⟩ Qa (sT (qR (.id) Qa Qa Qa))))))))))
def TB (n:Nat) (a0b:Int):Option Bool :=
 cond (Qs a0b 59)
  (some true)
  (cond (Qs a0b 123)
   (some true)
   (some (Qs a0b 125)))
theorem Aj (n:Nat) (a0b:Int):∀ r,TB n a0b=some r→Q0 Tryz.prog 113 [B8 a0b] (.ret (B r)):=by
 refine Qp Tryz.func113 rfl Tryz.ntmps113 rfl ?_
 unfold TB
 exact Qg Qe ⟨[(0,B8 a0b)],[]⟩ Qa (sS (sG (xR 3 Qa (xS (Qs a0b 59) (fun h1=>xN (QB Qa h1) Qa (xR 7 Qa (xE (Qk ⟨[(2,B true)],[]⟩ Qa (sT (qR (.id) Qa Qa Qa)))))) (fun h1=>xO (QA Qa h1) Qa (xR 3 Qa (xS (Qs a0b 123) (fun h2=>xN (QB Qa h2) Qa (xR 3 Qa (xE (Qk ⟨[(2,B true)],[]⟩ Qa (sT (qR (.id) Qa Qa Qa)))))) (fun h2=>xO (QA Qa h2) Qa (xR 3 Qa (xE (Qk ⟨[(2,B (Qs a0b 125))],[]⟩ Qa (sT (qR (.id) Qa Qa Qa)))))))))))))
def Cm (n:Nat) (a0b:Int):Option Int :=
 (Dk n a0b).bind fun r1 =>
 cond r1
  (some 1)
  (cond (Qs a0b 35)
   (some 2)
   ((Fb n a0b).bind fun r2 =>
   cond r2
    (some 3)
    ((UF n a0b).bind fun r3 =>
    cond r3
     (some 4)
     ((TB n a0b).bind fun r4 =>
     cond r4
      (some 5)
      (some 0)))))
theorem Ij (n:Nat) (a0b:Int):∀ r,Cm n a0b=some r→Q0 Tryz.prog 73 [B8 a0b] (.ret (I r)):=by
 refine Qp Tryz.func73 rfl Tryz.ntmps73 rfl ?_
 unfold Cm
 refine Qg Qe ⟨[(0,B8 a0b)],[]⟩ Qa (sS (sB (sS (sG (xR 1 Qa ?_)))))
 refine xC [] Qa (Me n a0b) Qa Qa QW (fun r1=>?_)
 refine xR 1 Qa (xE (Qk ⟨[(0,B8 a0b),(3,B r1)],[]⟩ Qa (sC r1 Qa (Qg Qe ⟨[(2,I 1)],[]⟩ Qa (sT (Q9 (QY (qR (.id) Qa Qa Qa))))) (Qg Qe ⟨[(0,B8 a0b),(6,B (Qs a0b 35))],[]⟩ Qa (sC (Qs a0b 35) Qa (Qg Qe ⟨[(2,I 2)],[]⟩ Qa (sT (Q9 (QY (qR (.id) Qa Qa Qa))))) (sS (sG (xR 1 Qa ?_))))))))
 refine xC [] Qa (TA n a0b) Qa Qa QW (fun r2=>?_)
 refine xR 1 Qa (xE (Qk ⟨[(0,B8 a0b),(9,B r2)],[]⟩ Qa (sC r2 Qa (Qg Qe ⟨[(2,I 3)],[]⟩ Qa (sT (Q9 (QY (qR (.id) Qa Qa Qa))))) (sS (sG (xR 1 Qa ?_))))))
 refine xC [] Qa (Gm n a0b) Qa Qa QW (fun r3=>?_)
 refine xR 1 Qa (xE (Qk ⟨[(0,B8 a0b),(12,B r3)],[]⟩ Qa (sC r3 Qa (Qg Qe ⟨[(2,I 4)],[]⟩ Qa (sT (Q9 (QY (qR (.id) Qa Qa Qa))))) (sS (sG (xR 1 Qa ?_))))))
 refine xC [] Qa (Aj n a0b) Qa Qa QW (fun r4=>?_)
 exact xR 1 Qa (xE (Qk ⟨[(15,B r4)],[]⟩ Qa (sC r4 Qa (Qg Qe ⟨[(2,I 5)],[]⟩ Qa (sT (Q9 (QY (qR (.id) Qa Qa Qa))))) (sK (QT (Qk ⟨[],[]⟩ Qa (Qg Qe ⟨[(2,I 0)],[]⟩ Qa (sT (qR (.id) Qa Qa Qa)))))))))
def TC (n:Nat) (a0z:List UInt8) (recl1:Int→Option Int) (l1:Int):Option Int :=
 (cond (QL l1 (Qc a0z))
  ((Zc a0z l1).bind fun x4 =>
  (Dk n (YY x4)).bind fun r5 =>
  some r5)
  (some false)).bind fun j2 =>
 cond j2
  (recl1 (wi (l1+1)))
  (some l1)
def Ak (n:Nat) (a0z:List UInt8) (a1from:Int):Option Int :=
 Q4 (fun recl1 l1=>TC n a0z recl1 l1) n a1from
def tq0:=fun x0 x1 x2=>([(0,S x0),(1,I x1),(2, .p (.val x2))]:List (Nat × AV))
def tq1:=fun x0 x1 x2=>([(0,S x0),(2, .p (.val x1)),(7,I x2)]:List (Nat × AV))
def uM:=fun x0 x1 x2=>(⟨tq1 x0 x1 x2,[]⟩:St)
def tq2:=fun x0 x1 x2 x3=>([(0,S x0),(2, .p (.val x1)),(7,I x2),(19,B x3)]:List (Nat × AV))
theorem kJ (n:Nat) (a0z:List UInt8) (a1from:Int):∀ r,Ak n a0z a1from=some r→Q0 Tryz.prog 74 [S a0z,I a1from, .p (.val (.func (.func 75) #[] #[]))] (.ret (I r)):=by
 refine Qp Tryz.func74 rfl Tryz.ntmps74 rfl ?_
 unfold Ak
 refine Qg Qe ⟨tq0 a0z a1from (.func (.func 75) #[] #[]),[]⟩ Qa (Qg Qe (uM a0z (.func (.func 75) #[] #[]) a1from) Qa (sS (sB (Qw (fun l1=>(uM a0z (.func (.func 75) #[] #[]) l1):Int→St) (Wq Qa) ?_))))
 rintro recl1 l1
 show QU (TC n a0z recl1 l1) _ _ _ _ _ _
 unfold TC
 refine sS (KM (fun j2=>⟨tq2 a0z (.func (.func 75) #[] #[]) l1 j2,[]⟩:Bool→St) ?_ ?_)
 ·refine sG (xR 5 Qa (xS (QL l1 (Qc a0z)) (fun h3=>?_) (fun h3=>?_)))
  ·refine xO (Qt Qa h3) Qa (xR 2 Qa (xG Qa Qa (WR (l:=a0z) (k:=.i64) (n:=l1) rfl Qa Qa Qa) (fun x4=>?_)))
   refine xC [] Qa (Me n (YY x4)) Qa Qa QW (fun r5=>?_)
   exact xR 1 Qa (xE (QV r5 Qa))
  exact xN (Qu Qa h3) Qa (xR 5 Qa (xE (QV false Qa)))
 rintro j2
 exact sC j2 Qa (sK (Qk (uM a0z (.func (.func 75) #[] #[]) l1) Qa (sB (sL Qe Qa (QT (Ky (wi (l1+1)) Qa)))))) (Qm (Zu (ZP (QG (Qk ⟨[(7,I l1)],[]⟩ Qa (Qg Qe ⟨[(6,I l1)],[]⟩ Qa (sT (qR (.id) Qa Qa Qa))))))))
def NI (n:Nat) (a0b:Int):Option Bool :=
 some (!Qs a0b 10)
theorem O7 (n:Nat) (a0b:Int):∀ r,NI n a0b=some r→Q0 Tryz.prog 72 [B8 a0b] (.ret (B r)):=by
 refine Qp Tryz.func72 rfl Tryz.ntmps72 rfl ?_
 unfold NI
 exact Qg Qe ⟨[(0,B8 a0b)],[]⟩ Qa (Qg Qe ⟨[(2,B (!Qs a0b 10))],[]⟩ Qa (sT (qR (.id) Qa Qa Qa)))
def Fx (n:Nat) (a0z:List UInt8) (recl1:Int→Option Int) (l1:Int):Option Int :=
 (cond (QL l1 (Qc a0z))
  ((Zc a0z l1).bind fun x4 =>
  (NI n (YY x4)).bind fun r5 =>
  some r5)
  (some false)).bind fun j2 =>
 cond j2
  (recl1 (wi (l1+1)))
  (some l1)
def Cn (n:Nat) (a0z:List UInt8) (a1from:Int):Option Int :=
 Q4 (fun recl1 l1=>Fx n a0z recl1 l1) n a1from
theorem Ik (n:Nat) (a0z:List UInt8) (a1from:Int):∀ r,Cn n a0z a1from=some r→Q0 Tryz.prog 74 [S a0z,I a1from, .p (.val (.func (.func 72) #[] #[]))] (.ret (I r)):=by
 refine Qp Tryz.func74 rfl Tryz.ntmps74 rfl ?_
 unfold Cn
 refine Qg Qe ⟨tq0 a0z a1from (.func (.func 72) #[] #[]),[]⟩ Qa (Qg Qe (uM a0z (.func (.func 72) #[] #[]) a1from) Qa (sS (sB (Qw (fun l1=>(uM a0z (.func (.func 72) #[] #[]) l1):Int→St) (Wq Qa) ?_))))
 rintro recl1 l1
 show QU (Fx n a0z recl1 l1) _ _ _ _ _ _
 unfold Fx
 refine sS (KM (fun j2=>⟨tq2 a0z (.func (.func 72) #[] #[]) l1 j2,[]⟩:Bool→St) ?_ ?_)
 ·refine sG (xR 5 Qa (xS (QL l1 (Qc a0z)) (fun h3=>?_) (fun h3=>?_)))
  ·refine xO (Qt Qa h3) Qa (xR 2 Qa (xG Qa Qa (WR (l:=a0z) (k:=.i64) (n:=l1) rfl Qa Qa Qa) (fun x4=>?_)))
   refine xC [] Qa (O7 n (YY x4)) Qa Qa QW (fun r5=>?_)
   exact xR 1 Qa (xE (QV r5 Qa))
  exact xN (Qu Qa h3) Qa (xR 5 Qa (xE (QV false Qa)))
 rintro j2
 exact sC j2 Qa (sK (Qk (uM a0z (.func (.func 72) #[] #[]) l1) Qa (sB (sL Qe Qa (QT (Ky (wi (l1+1)) Qa)))))) (Qm (Zu (ZP (QG (Qk ⟨[(7,I l1)],[]⟩ Qa (Qg Qe ⟨[(6,I l1)],[]⟩ Qa (sT (qR (.id) Qa Qa Qa))))))))
def Gn (n:Nat) (a0b:Int):Option Bool :=
 (Fb n a0b).bind fun r1 =>
 cond r1
  (some true)
  ((UF n a0b).bind fun r3 =>
  cond r3
   (some true)
   (some (Qs a0b 95)))
theorem Mh (n:Nat) (a0b:Int):∀ r,Gn n a0b=some r→Q0 Tryz.prog 114 [B8 a0b] (.ret (B r)):=by
 refine Qp Tryz.func114 rfl Tryz.ntmps114 rfl ?_
 unfold Gn
 refine Qg Qe ⟨[(0,B8 a0b)],[]⟩ Qa (sS (sG (xR 1 Qa ?_)))
 refine xC [] Qa (TA n a0b) Qa Qa QW (fun r1=>?_)
 refine xR 1 Qa (xS r1 (fun h2=>xN (QB Qa h2) Qa (xR 7 Qa (xE (Qk ⟨[(2,B true)],[]⟩ Qa (sT (qR (.id) Qa Qa Qa)))))) (fun h2=>xO (QA Qa h2) Qa ?_))
 refine xC [] Qa (Gm n a0b) Qa Qa QW (fun r3=>?_)
 exact xR 2 Qa (xS r3 (fun h4=>xN (QB Qa h4) Qa (xR 3 Qa (xE (Qk ⟨[(2,B true)],[]⟩ Qa (sT (qR (.id) Qa Qa Qa)))))) (fun h4=>xO (QA Qa h4) Qa (xR 3 Qa (xE (Qk ⟨[(2,B (Qs a0b 95))],[]⟩ Qa (sT (qR (.id) Qa Qa Qa)))))))
def Fy (n:Nat) (a0z:List UInt8) (recl1:Int→Option Int) (l1:Int):Option Int :=
 (cond (QL l1 (Qc a0z))
  ((Zc a0z l1).bind fun x4 =>
  (Gn n (YY x4)).bind fun r5 =>
  some r5)
  (some false)).bind fun j2 =>
 cond j2
  (recl1 (wi (l1+1)))
  (some l1)
def CB (n:Nat) (a0z:List UInt8) (a1from:Int):Option Int :=
 Q4 (fun recl1 l1=>Fy n a0z recl1 l1) n a1from
theorem Il (n:Nat) (a0z:List UInt8) (a1from:Int):∀ r,CB n a0z a1from=some r→Q0 Tryz.prog 74 [S a0z,I a1from, .p (.val (.func (.func 114) #[] #[]))] (.ret (I r)):=by
 refine Qp Tryz.func74 rfl Tryz.ntmps74 rfl ?_
 unfold CB
 refine Qg Qe ⟨tq0 a0z a1from (.func (.func 114) #[] #[]),[]⟩ Qa (Qg Qe (uM a0z (.func (.func 114) #[] #[]) a1from) Qa (sS (sB (Qw (fun l1=>(uM a0z (.func (.func 114) #[] #[]) l1):Int→St) (Wq Qa) ?_))))
 rintro recl1 l1
 show QU (Fy n a0z recl1 l1) _ _ _ _ _ _
 unfold Fy
 refine sS (KM (fun j2=>⟨tq2 a0z (.func (.func 114) #[] #[]) l1 j2,[]⟩:Bool→St) ?_ ?_)
 ·refine sG (xR 5 Qa (xS (QL l1 (Qc a0z)) (fun h3=>?_) (fun h3=>?_)))
  ·refine xO (Qt Qa h3) Qa (xR 2 Qa (xG Qa Qa (WR (l:=a0z) (k:=.i64) (n:=l1) rfl Qa Qa Qa) (fun x4=>?_)))
   refine xC [] Qa (Mh n (YY x4)) Qa Qa QW (fun r5=>?_)
   exact xR 1 Qa (xE (QV r5 Qa))
  exact xN (Qu Qa h3) Qa (xR 5 Qa (xE (QV false Qa)))
 rintro j2
 exact sC j2 Qa (sK (Qk (uM a0z (.func (.func 114) #[] #[]) l1) Qa (sB (sL Qe Qa (QT (Ky (wi (l1+1)) Qa)))))) (Qm (Zu (ZP (QG (Qk ⟨[(7,I l1)],[]⟩ Qa (Qg Qe ⟨[(6,I l1)],[]⟩ Qa (sT (qR (.id) Qa Qa Qa))))))))
def Fz (n:Nat) (a0z:List UInt8) (recl1:Int→Option Int) (l1:Int):Option Int :=
 (cond (QL l1 (Qc a0z))
  ((Zc a0z l1).bind fun x4 =>
  (UF n (YY x4)).bind fun r5 =>
  some r5)
  (some false)).bind fun j2 =>
 cond j2
  (recl1 (wi (l1+1)))
  (some l1)
def CE (n:Nat) (a0z:List UInt8) (a1from:Int):Option Int :=
 Q4 (fun recl1 l1=>Fz n a0z recl1 l1) n a1from
theorem Io (n:Nat) (a0z:List UInt8) (a1from:Int):∀ r,CE n a0z a1from=some r→Q0 Tryz.prog 74 [S a0z,I a1from, .p (.val (.func (.func 112) #[] #[]))] (.ret (I r)):=by
 refine Qp Tryz.func74 rfl Tryz.ntmps74 rfl ?_
 unfold CE
 refine Qg Qe ⟨tq0 a0z a1from (.func (.func 112) #[] #[]),[]⟩ Qa (Qg Qe (uM a0z (.func (.func 112) #[] #[]) a1from) Qa (sS (sB (Qw (fun l1=>(uM a0z (.func (.func 112) #[] #[]) l1):Int→St) (Wq Qa) ?_))))
 rintro recl1 l1
 show QU (Fz n a0z recl1 l1) _ _ _ _ _ _
 unfold Fz
 refine sS (KM (fun j2=>⟨tq2 a0z (.func (.func 112) #[] #[]) l1 j2,[]⟩:Bool→St) ?_ ?_)
 ·refine sG (xR 5 Qa (xS (QL l1 (Qc a0z)) (fun h3=>?_) (fun h3=>?_)))
  ·refine xO (Qt Qa h3) Qa (xR 2 Qa (xG Qa Qa (WR (l:=a0z) (k:=.i64) (n:=l1) rfl Qa Qa Qa) (fun x4=>?_)))
   refine xC [] Qa (Gm n (YY x4)) Qa Qa QW (fun r5=>?_)
   exact xR 1 Qa (xE (QV r5 Qa))
  exact xN (Qu Qa h3) Qa (xR 5 Qa (xE (QV false Qa)))
 rintro j2
 exact sC j2 Qa (sK (Qk (uM a0z (.func (.func 112) #[] #[]) l1) Qa (sB (sL Qe Qa (QT (Ky (wi (l1+1)) Qa)))))) (Qm (Zu (ZP (QG (Qk ⟨[(7,I l1)],[]⟩ Qa (Qg Qe ⟨[(6,I l1)],[]⟩ Qa (sT (qR (.id) Qa Qa Qa))))))))
def LX (a0text:List UInt8) (recl4:(Int × Int)→Option (Int × Int)) (l4_1:Int) (l4_2:Int):Option (Int × Int) :=
 cond (QL l4_2 (Qc a0text))
  ((Zc a0text l4_2).bind fun x5 =>
  cond (QL 1000000 (wi ((wi (10 * l4_1))+(wi (w8 ((YY x5) - 48))))))
   (some (0,3))
   (recl4 (wi ((wi (10 * l4_1))+(wi (w8 ((YY x5) - 48)))),wi (l4_2+1))))
  (some (l4_1,0))
def NJ (n:Nat) (a0text:List UInt8):Option (Int × Int) :=
 (cond (QL 1 (Qc a0text))
  ((Zc a0text 0).bind fun x3 =>
  some (Qs (YY x3) 48))
  (some false)).bind fun j1 =>
 cond j1
  (some (0,7))
  (Q4 (fun recl4 (l4_1,l4_2)=>LX a0text recl4 l4_1 l4_2) n (0,0))
def tq3:=fun x0 x1 x2=>([(0,S x0),(4,I x1),(5,I x2)]:List (Nat × AV))
theorem O8 (n:Nat) (a0text:List UInt8):∀ r,NJ n a0text=some r→Q0 Tryz.prog 115 [S a0text] (.ret (.tup [I r.1,I r.2])):=by
 refine Qp Tryz.func115 rfl Tryz.ntmps115 rfl ?_
 unfold NJ
 refine Qg Qe ⟨[(0,S a0text)],[]⟩ Qa (sS (KM (fun j1=>⟨[(0,S a0text),(13,B j1)],[]⟩:Bool→St) (sG (xR 4 Qa (xS (QL 1 (Qc a0text)) (fun h2=>xO (Qt Qa h2) Qa (xG Qa Qa (WR (l:=a0text) (k:=.i64) (n:=0) rfl Qa Qa Qa) (fun x3=>xR 2 Qa (xE (QV (Qs (YY x3) 48) Qa))))) (fun h2=>xN (Qu Qa h2) Qa (xR 3 Qa (xE (QV false Qa))))))) ?_))
 rintro j1
 refine sC j1 Qa (Qg Qe ⟨[(2,I 0),(3,I 7)],[]⟩ Qa (sT (QY (qR (.id) Qa Qa Qa)))) (sK (Qk ⟨[(0,S a0text)],[]⟩ Qa (Qg Qe ⟨[(0,S a0text),(4,I 0)],[]⟩ Qa (sS (Qg Qe ⟨[(0,S a0text),(4,I 0),(5,I 0)],[]⟩ Qa (sB (Qw (fun (l4_1,l4_2)=>⟨tq3 a0text l4_1 l4_2,[]⟩:(Int × Int)→St) (Wq Qa) ?_)))))))
 rintro recl4 ⟨l4_1,l4_2⟩
 show QU (LX a0text recl4 l4_1 l4_2) _ _ _ _ _ _
 unfold LX
 exact sS (Qg Qe ⟨[(0,S a0text),(4,I l4_1),(5,I l4_2),(17,B (QL l4_2 (Qc a0text)))],[]⟩ Qa (sC (QL l4_2 (Qc a0text)) Qa (sK (Qk ⟨tq3 a0text l4_1 l4_2,[]⟩ Qa (sS (sB (sS (sG (xR 4 Qa (xG Qa Qa (WR (l:=a0text) (k:=.i64) (n:=l4_2) rfl Qa Qa Qa) (fun x5=>xR 4 Qa (xE (Qk ⟨tq3 a0text (wi ((wi (10 * l4_1))+(wi (w8 ((YY x5) - 48))))) l4_2,[]⟩ Qa (Qg Qe ⟨[(0,S a0text),(4,I (wi ((wi (10 * l4_1))+(wi (w8 ((YY x5) - 48)))))),(5,I l4_2),(29,B (QL 1000000 (wi ((wi (10 * l4_1))+(wi (w8 ((YY x5) - 48)))))))],[]⟩ Qa (sC (QL 1000000 (wi ((wi (10 * l4_1))+(wi (w8 ((YY x5) - 48)))))) Qa (Qg Qe ⟨[(2,I 0),(3,I 3)],[]⟩ Qa (sT (Q9 (QY (KC (Q9 (QY (qR (.id) Qa Qa Qa)))))))) (sK (QT (Qk ⟨tq3 a0text (wi ((wi (10 * l4_1))+(wi (w8 ((YY x5) - 48))))) l4_2,[]⟩ Qa (sL Qe Qa (Ky (wi ((wi (10 * l4_1))+(wi (w8 ((YY x5) - 48)))),wi (l4_2+1)) Qa)))))))))))))))))) (Qm (Zu (ZP (QG (Qk ⟨[(4,I l4_1)],[]⟩ Qa (Qg Qe ⟨[(2,I l4_1),(3,I 0)],[]⟩ Qa (sT (qR (.id) Qa Qa Qa))))))))))
end Go.Proofs
