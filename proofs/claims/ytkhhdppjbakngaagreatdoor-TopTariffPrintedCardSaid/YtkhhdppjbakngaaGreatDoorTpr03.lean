/-
  A part of the proof of a statement of the seat YtkhhdppjbakngaaGreatDoor.
-/
import Derived.Test.YtkhhdppjbakngaaGreatDoorTpr02
set_option linter.unusedVariables false
namespace Go.Abs
open Go
variable {D:DB}{H:List (Nat × Blk)}{M M0:Zn}{N:Nat}{P:Program}{Q:AX→St→Prop}{Q':Exit→Act→World→Prop}{T:Nat→Option AV}{a:Act}{args:List AV}{b:Nat}{body c:Code}{cf:FuncId}{d:Nat}{e:TypeId}{α:Type}{enc:α→List PV}{es:List (List PV)}{f:FuncId}{fn:Func}{g:FuncId}{h h0:QG}{hc hc':List (Nat × Blk)}{i id:Nat}{ix:Operand}{j:Nat}{kt:TypeId}{len:Nat}{listed:Array Bool}{lo:Option Operand}{n:Nat}{nf:Di}{o:Oper}{ok:Bool}{ops:Array Oper}{p:AV}{pd:Option Code}{ro:Option Nat}{s s' s1:St}{st:LoopState}{t:TypeId}{tk:Nat}{tx ty:TypeId}{u:Xe}{v:Value}{w w' w0:World}{x y:Operand}{z:Value}{β:Type}{ρ φ φ' φ0:Nat→Nat}
section
variable {R V E:Type} {a a1 a2:Option R} {P:Program} {N:Nat} {ro:Option Nat} {ops:Array Oper} {o:Oper} {l:List Oper} {dr:Bool} {acc:List Yg} {s s':St} {Q:R→AX→St→Prop} {K:R→St→Prop} {f:FuncId} {args args':List AV} {dst:Option Tmp}
theorem JK {m:Option (Except E V)} {k:V→Option R} {ke:E→Option R} {X:V→AV} {Y:E→AV} (C:List Conv)  (hc:∀ v,m=some v→QB P f args' (zM X Y v))
    (Z:∀ v,KS (X v)=true) (O:∀ e,KS (Y e)=true)
  (h:∀ v,K8 (k v) P N ops Q false ((none,[]) :: acc) l (St.put (mk ops o s true) o.dst (X v))) (J:∀ e,Zt (ke e) Q (.panic (Y e)) (mk ops o s true))(U:ZA ops o (look s.T)=some true:=by kernel_rfl)(hf:(ZO (look (Zb ops o s.T true)) o.op).map (fun p=>(p.1,qm C p.2))=some (f,args'):=by kernel_rfl)(hb:(K7 P f&&Ky N o.dst&&YQ args')=true:=by kernel_rfl):K8 (m.bind (F3 k ke)) P N ops Q false acc (o :: l) s:=by
 obtain ⟨⟨f0,args⟩,G,hp⟩:=GK.1 hf;simp only [Prod.mk.injEq] at hp;obtain ⟨rfl,hp⟩:=hp;simp only [Ze] at hb;exact Z9 U G hb.1.1 (QfO C hc hp (by simp [hb]) Z O (fun v=>kr (h v)) J)
theorem xPa (t:TypeId) (v:AV) (Y:ZA ops o (look s.T)=some true) (G:o.op=.panic x) (O:Za (look (Zb ops o s.T true)) x=some (.ifc t v)) (h:Zt a Q (.panic (.ifc t v)) (mk ops o s true)):K8 a P N ops Q false acc (o :: l) s:=by
 refine ⟨fun r J=>?_⟩;show KT P N ops (Q r) (o :: l) s;have U:yieldOf (look (Zb ops o s.T true)) o.op=none:=by simp [yieldOf,G]
 simp only [KT,Y,ZB,U];show XP P N o _ _ _;unfold XP;simp only [G,O];exact h.h r J
def QcL (P:Program) (fn:Func) (X:R→Zz):R→AX→St→Prop:=fun r=>Qad P fn (·=X r)
def Yw:Zz→AV
 | .ret y=>y
 | .panic y=>y
theorem qR {X:V→Zz} {v:V} (C:Conv)   (h:(TH P fn (look s.T) (look s.H)).map (cv C)=some (Yw (X v)):=by kernel_rfl)(Y:X v=.ret (Yw (X v)):=by kernel_rfl)(J:KS (Yw (X v))=true:=by kernel_rfl):Zt (some v) (QcL P fn X) .ret s:=by
 refine ⟨fun r G=>?_⟩;cases G;obtain ⟨x,U,O⟩:=GK.1 h;exact ⟨x,Yw (X v),U,O ▸ yj C x,J,Y.symm⟩
theorem Qjw {X:V→Zz} {v:V} (C:Conv) (h:(TH P fn (look s.T) (look s.H)).map (cv C)=some (Yw (X v))) (Y:X v=.ret (Yw (X v))) (J:KS (Yw (X v))=true):Zt (some v) (QcL P fn X) .normal s:=by
 refine ⟨fun r G=>?_⟩;cases G;obtain ⟨x,U,O⟩:=GK.1 h;exact ⟨x,Yw (X v),U,O ▸ yj C x,J,Y.symm⟩
theorem qy {X:V→Zz} {v:V}  (O:X v=.panic p:=by kernel_rfl)(J:KS p=true:=by kernel_rfl):Zt (some v) (QcL P fn X) (.panic p) s:=by
 refine ⟨fun r G=>?_⟩;cases G;exact ⟨J,O.symm⟩
theorem Qj {X:R→Zz} (hf:P.funcs[f]?=some fn) (hb:fn.body=some c) (J:fn.ntmps=n) (O:Nat.ble args.length n=true) (h:QO a P n none c ⟨YR 0 args,[]⟩ (QcL P fn X)) (r:R) (G:a=some r):QB P f args (X r):=by
 subst J;exact xH hf hb (Nat.le_of_ble_eq_true O) (h.h r G)
end
def QY {α:Type} (l:List α) (i:Int):Option α:=if i < 0 then none else l[i.toNat]?
section
variable {P:Program} {o:Oper} {T:Nat→Option AV} {h:QG}
theorem vS {k:IntKind} {a b:Int} (G:o.op=.binOp .quo tx x y ty) (J:Za T x=some (.p (.val (.int k a)))) (O:Za T y=some (.p (.val (.int k b)))) (hc:(!Qr b 0)=true) :
  WW P o T h=some (.p (.val (.int k (k.wrap (a.tdiv b)))),none,[]):=by
 have hb:¬ b=0:=by simpa [Qr] using hc
 simp [WW,G,Sm,J,O,Gu,Nq,hb,Ti]
theorem QcM {k:IntKind} {a b:Int} (G:o.op=.binOp .rem tx x y ty) (J:Za T x=some (.p (.val (.int k a)))) (O:Za T y=some (.p (.val (.int k b)))) (hc:(!Qr b 0)=true) :
  WW P o T h=some (.p (.val (.int k (a.tmod b))),none,[]):=by
 have hb:¬ b=0:=by simpa [Qr] using hc
 simp [WW,G,Sm,J,O,Gu,Nq,hb,Ti]
theorem QcN {k k':IntKind} {a b:Int} (G:o.op=.binOp .shl tx x y ty) (O:Za T x=some (.p (.val (.int k a)))) (J:Za T y=some (.p (.val (.int k' b)))) (hc:(!Qp b 0)=true) :
  WW P o T h=some (.p (.val (.int k (vv k a b))),none,[]):=by
 have hb:¬ b < 0:=by simpa [Qp] using hc
 simp [WW,G,Sm,O,J,Gu,PK,hb,Ti]
abbrev wi (x:Int):Int:=IntKind.i64.wrap x
abbrev wu (x:Int):Int:=IntKind.u64.wrap x
abbrev w8 (x:Int):Int:=IntKind.u8.wrap x
abbrev Qb {α:Type} (l:List α):Int:=(l.length:Int)
abbrev Zv (x:UInt8):Int:=(x.toNat:Int)
def Jb (a b:Int):Int:=if b > a then b else a
def F4 (a b:Int):Int:=if b < a then b else a
theorem Zx {S:Nat} {l:List α} {k:IntKind} {n:Int} {sv:AV} (Z:o.op=.indexAddr t x ix) (hn:Za T ix=some (.p (.val (.int k n)))) (hx:Za T x=some sv) (hs:elems sv=some (S,List.map enc l))
  (ht:P.underlying t=some (.slice e)) (hi:(P.info? e).map (·.size)=some S) (v:α) (G:QY l n=some v):WW P o T h=some (.eptr (enc v),none,[]):=by
 unfold QY at G;split at G
 ·cases G
 ·rename_i Y;obtain ⟨i,J,U⟩:=GK.1 hi
  have O:pR (some sv)=false:=by
   cases sv with
   | p x=>rfl
   | tsl S es t=>rfl
   | _=>cases hs
  have h0:0≤n:=by omega
  simp [WW,Z,Ti,hx,O,Xg,hn,ht,hs,J,U,h0,G]
def Zy (x:List PV):List PV:=x
theorem Wi (l:List (List PV)):List.map Zy l=l:=List.map_id l
theorem K9 {S:Nat} {dec:List PV→Option α} {l:List (List PV)} {k:IntKind} {n:Int} {sv:AV} (O:∀ r v,dec r=some v→enc v=r) (G:o.op=.indexAddr t x ix) (Y:Za T ix=some (.p (.val (.int k n)))) (J:Za T x=some sv) (hs:elems sv=some (S,List.map Zy l))
  (ht:P.underlying t=some (.slice e)) (hi:(P.info? e).map (·.size)=some S) (v:α) (U:(QY l n).bind dec=some v):WW P o T h=some (.eptr (enc v),none,[]):=by
 obtain ⟨r,h1,Z⟩:=Option.bind_eq_some_iff.1 U;rw [O r v Z];exact Zx G Y J hs ht hi r h1
theorem JU {l:List UInt8} {k:IntKind} {n:Int} (O:o.op=.index t x ix) (U:Za T ix=some (.p (.val (.int k n)))) (Z:Za T x=some (.p (.val (.string (JI l)))))
  (Y:P.underlying t=some .string) (v:UInt8) (G:QY l n=some v):WW P o T h=some (.p (.val (.int .u8 v.toNat)),none,[]):=by
 unfold QY at G;split at G
 ·cases G
 ·rename_i J;have h0:0≤n:=by omega
  simp [WW,O,Ti,Si,BK,Z,U,Y,h0,Tv,G]
def sF (P:Program):Nat→TypeId→Value→Value→Option Bool
 | 0,_,_,_=>none
 | d+1,t,x,y =>
  match P.underlying t with
  | some .bool=>match x,y with | .bool a, .bool b=>some (a == b) | _,_=>none
  | some (.int _)=>match x,y with | .int k a, .int k' b=>if k=k' then some (Qr a b) else none | _,_=>none
  | some .string=>match x,y with | .string a, .string b=>some (Qt (JO a) (JO b)) | _,_=>none
  | some (.struct fields)=>match x,y with
   | .agg xs, .agg ys=>if P.stoodInHeld t then none else fields.toList.foldr (fun f r=>if f.name="_" then r else
     match Cj P f.type xs.toList f.offset,Cj P f.type ys.toList f.offset with
     | some a,some b=>match sF P d f.type a b,r with | some p,some q=>some (p&&q) | _,_=>none
     | _,_=>none) (some true)
   | _,_=>none
  | _=>none
theorem bJ (P:Program):∀ (d:Nat) (t:TypeId) (x y:Value),sF P d t x y=eqV P d t x y
  | 0,t,x,y=>by simp [sF,eqV]
  | d+1,t,x,y=>by
    have hf:∀ (xs ys:List Value) (G:List Field),G.foldr (fun f r=>if f.name="_" then r else
          match Cj P f.type xs f.offset,Cj P f.type ys f.offset with
          | some a,some b=>match sF P d f.type a b,r with | some p,some q=>some (p&&q) | _,_=>none
          | _,_=>none) (some true)=eqV.eqFs P d xs ys G:=by
      intro xs ys G
      induction G with
      | nil=>simp [eqV.eqFs]
      | cons f G Z =>
        simp only [List.foldr_cons,eqV.eqFs,Z];split
        · rfl
        · split
          · rename_i a b O J; simp only [O,J,bJ P d f.type a b]; cases eqV P d f.type a b <;> cases eqV.eqFs P d xs ys G <;> rfl
          · rename_i O
            split
            · rename_i J U; exact absurd U (by intro Y; exact O _ _ J Y)
            · rfl
    unfold sF eqV;cases hu:P.underlying t with
    | none=>rfl
    | some td =>
      cases td with
      | bool=>cases x <;> cases y <;> rfl
      | int k=>cases x <;> cases y <;> rfl
      | string=>cases x <;> cases y <;> rfl
      | struct fields =>
        cases x <;> cases y <;> try rfl
        rename_i xs ys;simp only;split
        · rfl
        · exact hf _ _ _
      | _=>rfl
theorem QcO {xs ys:List AV} {vx vy:List Value} {b:Bool} (U:o.op=.binOp .neq tx x y ty) (Z:Za T x=some (.agg xs)) (Y:Za T y=some (.agg ys)) (O:P.eqGuardType P.depth tx=false)
  (G:Nn xs=some vx) (J:Nn ys=some vy) (hb:sF P 4 tx (.agg vx.toArray) (.agg vy.toArray)=some b):WW P o T h=some (.p (.val (.bool (!opq b))),none,[]):=by
 rw [bJ] at hb;simp [WW,U,Sm,Z,Y,Ti,aEq,mi,O,G,J,hb]
end
def Ya {V:Type} (X:V→Zz × List (Nat × Blk)) (v:V):Zz→QG→Prop:=fun r h'=>r=(X v).1∧h'=look (X v).2
theorem P9 {V:Type} {X:V→Zz × List (Nat × Blk)} {v:V} (h:Kw P f args (look []) (Ya X v)) (J:(X v).2=[]):QB P f args (X v).1:=by
 have e:look ([]:List (Nat × Blk))=GL:=by funext t; rfl
 have G:Ya X v=fun r h'=>r=(X v).1∧h'=GL:=by unfold Ya; rw [J,e]
 unfold QB;rw [e,G] at h;exact h
def hQ {V:Type} (P:Program) (fn:Func) (hc:List (Nat × Blk)) (X:V→Zz × List (Nat × Blk)):V→AX→St→Prop:=fun v=>bD P fn hc (Ya X v)
section
variable {R V E:Type} {a a1 a2:Option R} {P:Program} {N:Nat} {ro:Option Nat} {ops:Array Oper} {o:Oper} {l:List Oper} {dr:Bool} {acc:List Yg} {s s':St} {Q:R→AX→St→Prop} {K:R→St→Prop} {f:FuncId} {args args':List AV} {dst:Option Tmp}
theorem Km {X:R→Zz × List (Nat × Blk)} (hc:List (Nat × Blk)) (hf:P.funcs[f]?=some fn) (hb:fn.body=some c) (J:fn.ntmps=n) (O:Nat.ble args.length n=true) (h:QO a P n none c ⟨YR 0 args,hc⟩ (hQ P fn hc X)) (r:R) (G:a=some r) :
  Kw P f args (look hc) (Ya X r):=by
 subst J;exact Aw hf hb (Nat.le_of_ble_eq_true O) (h.h r G)
def CS (hc hc':List (Nat × Blk)) (y:AV):Bool:=ZW (look hc') y&&lQ (look hc') hc'&&KU (look hc') hc
theorem mH {X:V→Zz × List (Nat × Blk)} {v:V} (C:Conv) (bs:List Nat) (cb:List (Nat × List Conv)) (h:(TH P fn (look s.T) (look s.H)).map (cv C)=some (Yw (X v).1)) (Y:(X v).1=.ret (Yw (X v).1))
  (J:KW cb s.H bs=(X v).2) (hok:CS hc (X v).2 (Yw (X v).1)=true):CO P fn hc (Ya X v) s:=by
 obtain ⟨x,U,O⟩:=GK.1 h;simp only [CS,Ze] at hok;refine ⟨x,Yw (X v).1,(X v).2,U,O ▸ yj C x,hok.1.1,?_,hok.2,Y.symm,rfl⟩;have G:=hok.1.2;rw [← J] at G ⊢;exact Y1 G
theorem Kr {X:V→Zz × List (Nat × Blk)} {v:V} (C:Conv) (bs:List Nat) (cb:List (Nat × List Conv))  
   (h:(TH P fn (look s.T) (look s.H)).map (cv C)=some (Yw (X v).1):=by kernel_rfl)(O:(X v).1=.ret (Yw (X v).1):=by kernel_rfl)(J:KW cb s.H bs=(X v).2:=by kernel_rfl)(hok:CS hc (X v).2 (Yw (X v).1)=true:=by kernel_rfl):Zt (some v) (hQ P fn hc X) .ret s:=⟨fun r G=>by cases G; exact mH C bs cb h O J hok⟩
theorem sH {X:V→Zz × List (Nat × Blk)} {v:V} (C:Conv) (bs:List Nat) (cb:List (Nat × List Conv))  
   (h:(TH P fn (look s.T) (look s.H)).map (cv C)=some (Yw (X v).1):=by kernel_rfl)(O:(X v).1=.ret (Yw (X v).1):=by kernel_rfl)(J:KW cb s.H bs=(X v).2:=by kernel_rfl)(hok:CS hc (X v).2 (Yw (X v).1)=true:=by kernel_rfl):Zt (some v) (hQ P fn hc X) .normal s:=⟨fun r G=>by cases G; exact mH C bs cb h O J hok⟩
theorem sI {X:V→Zz × List (Nat × Blk)} {v:V} (bs:List Nat) (cb:List (Nat × List Conv)) 
   (U:(X v).1=.panic p:=by kernel_rfl)(O:KW cb s.H bs=(X v).2:=by kernel_rfl)(hok:CS hc (X v).2 p=true:=by kernel_rfl):Zt (some v) (hQ P fn hc X) (.panic p) s:=by
 refine ⟨fun r J=>?_⟩;cases J;simp only [CS,Ze] at hok;refine ⟨p,(X v).2,le_refl p,hok.1.1,?_,hok.2,U.symm,rfl⟩;have G:=hok.1.2;rw [← O] at G ⊢;exact Y1 G
def VG (L:List (Nat × Nat)) (c:Nat):Nat:=(look L c).getD c
def Qaq (ρ:Nat→Nat):List Nat→Bool
 | []=>true
 | c :: l=>l.all (fun d=>ρ c != ρ d||c == d)&&Qaq ρ l
theorem UB {ρ:Nat→Nat}:∀ {l:List Nat},Qaq ρ l=true→∀ c ∈ l,∀ d ∈ l,ρ c=ρ d→c=d
 | [],_,c,hc,_,_,_=>by cases hc
 | x :: l,h,c,hc,d,O,J=>by
  simp only [Qaq,Ze,List.all_eq_true] at h;rcases List.mem_cons.1 hc with rfl | hc' <;> rcases List.mem_cons.1 O with rfl | G
  ·rfl
  ·have:=h.1 d G; simp [J] at this; exact this
  ·have:=h.1 c hc'; simp [J] at this; exact this.symm
  ·exact UB h.2 c hc' d G J
def J7 (ρ:Nat→Nat) (hc hc' H:List (Nat × Blk)):Bool :=
 (hc.map (·.1)).all (fun c=>(hc'.map (·.1)).contains c)&&(hc'.map (·.1)).all (fun c=>(hc.map (·.1)).contains c||(look H (ρ c)).isNone)&&Qaq ρ (hc'.map (·.1))
theorem XU (h:J7 ρ hc hc' H=true):Fy ρ hc hc' H:=by
 simp only [J7,Ze] at h;refine ⟨fun c hc=>?_,fun c hc=>?_,UB h.2⟩
 ·have:=List.all_eq_true.1 h.1.1 c hc; simpa using this
 ·have:=List.all_eq_true.1 h.1.2 c hc;simp only [Bool.or_eq_true,Option.isNone_iff_eq_none] at this;rcases this with G | G
  ·exact .inl (by simpa using G)
  ·exact .inr G
theorem Ry {h:QG}:∀ {l:List (Nat × Blk)},lQ h l=true→∀ c k,look l c=some k→okRefB h k=true
 | [],_,c,k,G=>by simp [look] at G
 | (b,x) :: l,J,c,k,G=>by
  simp only [lQ,Ze] at J;simp only [look] at G;by_cases e:b=c
  ·simp only [e,if_true,QN] at G; subst G; exact J.1
  ·simp only [e,if_false] at G; exact Ry J.2 c k G
def Rz (H:List (Nat × Blk)) (ρ:Nat→Nat) (cb:List (Nat × List Conv)) (hc:List (Nat × Blk)):List (Option Blk):=hc.map fun p=>(look H (ρ p.1)).map (cvB ((look cb p.1).getD []))
theorem UC {H:List (Nat × Blk)} {ρ:Nat→Nat} {cb:List (Nat × List Conv)}:∀ {hc:List (Nat × Blk)},Rz H ρ cb hc=hc.map (fun p=>some (ZM ρ p.2))→∀ c k,look hc c=some k→∃ J,look H (ρ c)=some J∧leB J (ZM ρ k)
 | [],_,c,k,G=>by simp [look] at G
 | (b,x) :: l,O,c,k,G=>by
  simp only [Rz,List.map_cons,List.cons.injEq] at O;simp only [look] at G;by_cases e:b=c
  ·simp only [e,if_true,QN] at G;subst G e;obtain ⟨J,Y,U⟩:=GK.1 O.1;exact ⟨J,Y,U ▸ Qam _ _⟩
  ·simp only [e,if_false] at G; exact UC (hc:=l) O.2 c k G
def JL (N:Nat) (dst:Option Tmp) (ρ:Nat→Nat) (hc:List (Nat × Blk)) (args':List AV):Bool :=
 Ky N dst&&Z0 (look hc) args'&&(hc.map (·.1)).all (fun c=>decide (1000≤c))&&lQ (look hc) hc&&Qaq ρ (hc.map (·.1))
def Qar (K:St→Prop) (Q:AX→St→Prop) (s:St) (dst:Option Tmp) (ρ:Nat→Nat) (hc':List (Nat × Blk)):Zz→Prop
 | .ret x=>K (St.put ⟨s.T,Z6 ρ hc' s.H⟩ dst (WG ρ x))
 | .panic x=>Q (.panic (WG ρ x)) ⟨s.T,Z6 ρ hc' s.H⟩
theorem SE {P:Program} {N:Nat} {s:St} {K:St→Prop} {Q:AX→St→Prop} {x:Zz} (L:List (Nat × Nat)) (C:List Conv) (cb:List (Nat × List Conv))
  (G:Kw P f args' (look hc) (fun r h'=>r=x∧h'=look hc')) (J:qm C args=Vu (VG L) args') (hok:JL N dst (VG L) hc args'=true) (O:Rz s.H (VG L) cb hc=hc.map (fun p=>some (ZM (VG L) p.2)))
  (U:J7 (VG L) hc hc' s.H=true) (Y:Qar K Q s dst (VG L) hc' x):Xl P N f args dst s K Q:=by
 simp only [JL,Ze] at hok;obtain ⟨⟨⟨⟨h1,h2⟩,Z⟩,h4⟩,h5⟩:=hok;refine Nz (VG L) G (J ▸ UT C args) h2 (fun c hc=>by simpa using List.all_eq_true.1 Z c hc) (Ry h4) (UC O) (UB h5) (ZL h1) ?_;rintro r h' ⟨rfl,rfl⟩;refine ⟨hc',Z6 (VG L) hc' s.H,rfl,XU U,fun _=>rfl,?_⟩;cases r with
 | ret x=>exact Y
 | panic x=>exact Y
theorem Zf {m:Option V} {k:V→Option R} {X:V→Zz × List (Nat × Blk)} (L:List (Nat × Nat)) (C:List Conv) (cb:List (Nat × List Conv)) (G:∀ v,m=some v→Kw P f args' (look hc) (Ya X v))
  (J:qm C args=Vu (VG L) args') (hok:JL N dst (VG L) hc args'=true) (O:Rz s.H (VG L) cb hc=hc.map (fun p=>some (ZM (VG L) p.2))) (U:∀ v,J7 (VG L) hc (X v).2 s.H=true) (hX:∀ v,(X v).1=.ret (Yw (X v).1))
  (h:∀ v,Dv (k v) K (St.put ⟨s.T,Z6 (VG L) (X v).2 s.H⟩ dst (WG (VG L) (Yw (X v).1)))):NB (m.bind k) P N f args dst s K Q:=by
 refine ⟨fun r Z=>?_⟩;obtain ⟨v,hv,Y⟩:=Option.bind_eq_some_iff.1 Z;have h1:=hX v;refine SE L C cb (G v hv) J hok O (U v) ?_;rw [h1];exact (h v).h r Y
theorem xZ {m:Option (Except E V)} {k:V→Option R} {ke:E→Option R} {X:Except E V→Zz × List (Nat × Blk)} (L:List (Nat × Nat)) (C:List Conv) (cb:List (Nat × List Conv)) (G:∀ v,m=some v→Kw P f args' (look hc) (Ya X v))
  (J:qm C args=Vu (VG L) args') (hok:JL N dst (VG L) hc args'=true) (O:Rz s.H (VG L) cb hc=hc.map (fun p=>some (ZM (VG L) p.2))) (Y:∀ v,J7 (VG L) hc (X (.ok v)).2 s.H=true) (U:∀ v,J7 (VG L) hc (X (.error v)).2 s.H=true)
  (hX:∀ v,(X (.ok v)).1=.ret (Yw (X (.ok v)).1)) (hY:∀ v,(X (.error v)).1=.panic (Yw (X (.error v)).1))
  (h:∀ v,Dv (k v) K (St.put ⟨s.T,Z6 (VG L) (X (.ok v)).2 s.H⟩ dst (WG (VG L) (Yw (X (.ok v)).1)))) (he:∀ e,Zt (ke e) Q (.panic (WG (VG L) (Yw (X (.error e)).1))) ⟨s.T,Z6 (VG L) (X (.error e)).2 s.H⟩):NB (m.bind (F3 k ke)) P N f args dst s K Q:=by
 refine ⟨fun r hr=>?_⟩;obtain ⟨v,hv,Z⟩:=Option.bind_eq_some_iff.1 hr;cases v with
 | ok v =>
  refine SE L C cb (G _ hv) J hok O (Y v) ?_;rw [hX v];exact (h v).h r Z
 | error e =>
  refine SE L C cb (G _ hv) J hok O (U e) ?_;rw [hY e];exact (he e).h r Z
theorem UU {m:Option V} {k:V→Option R} {X:V→Zz × List (Nat × Blk)} (L:List (Nat × Nat)) (C:List Conv) (cb:List (Nat × List Conv))  (J:∀ v,m=some v→Kw P f args' (look hc) (Ya X v))
    
  (U:∀ v,J7 (VG L) hc (X v).2 s.H=true) (Z:∀ v,(X v).1=.ret (Yw (X v).1))
  (h:∀ v,K8 (k v) P N ops Q false ((none,[]) :: acc) l (St.put ⟨(mk ops o s true).T,Z6 (VG L) (X v).2 s.H⟩ o.dst (WG (VG L) (Yw (X v).1))))(Y:ZA ops o (look s.T)=some true:=by kernel_rfl)(hf:(ZO (look (Zb ops o s.T true)) o.op).map (fun p=>(p.1,qm C p.2))=some (f,Vu (VG L) args'):=by kernel_rfl)(hok:(K7 P f&&JL N o.dst (VG L) hc args')=true:=by kernel_rfl)(O:Rz s.H (VG L) cb hc=hc.map (fun p=>some (ZM (VG L) p.2)):=by kernel_rfl):K8 (m.bind k) P N ops Q false acc (o :: l) s:=by
 obtain ⟨⟨f0,args⟩,G,hp⟩:=GK.1 hf;simp only [Prod.mk.injEq] at hp;obtain ⟨rfl,hp⟩:=hp;simp only [Ze] at hok;exact Z9 Y G hok.1 (Zf L C cb J hp hok.2 O U Z (fun v=>kr (h v)))
theorem Qas {m:Option (Except E V)} {k:V→Option R} {ke:E→Option R} {X:Except E V→Zz × List (Nat × Blk)} (L:List (Nat × Nat)) (C:List Conv) (cb:List (Nat × List Conv)) (hw:ZA ops o (look s.T)=some true) (J:∀ v,m=some v→Kw P f args' (look hc) (Ya X v))
  (hf:(ZO (look (Zb ops o s.T true)) o.op).map (fun p=>(p.1,qm C p.2))=some (f,Vu (VG L) args')) (hok:(K7 P f&&JL N o.dst (VG L) hc args')=true) (O:Rz s.H (VG L) cb hc=hc.map (fun p=>some (ZM (VG L) p.2)))
  (Y:∀ v,J7 (VG L) hc (X (.ok v)).2 s.H=true) (U:∀ v,J7 (VG L) hc (X (.error v)).2 s.H=true) (hX:∀ v,(X (.ok v)).1=.ret (Yw (X (.ok v)).1)) (hY:∀ v,(X (.error v)).1=.panic (Yw (X (.error v)).1))
  (h:∀ v,K8 (k v) P N ops Q false ((none,[]) :: acc) l (St.put ⟨(mk ops o s true).T,Z6 (VG L) (X (.ok v)).2 s.H⟩ o.dst (WG (VG L) (Yw (X (.ok v)).1))))
  (Z:∀ e,Zt (ke e) Q (.panic (WG (VG L) (Yw (X (.error e)).1))) ⟨(mk ops o s true).T,Z6 (VG L) (X (.error e)).2 s.H⟩):K8 (m.bind (F3 k ke)) P N ops Q false acc (o :: l) s:=by
 obtain ⟨⟨f0,args⟩,G,hp⟩:=GK.1 hf;simp only [Prod.mk.injEq] at hp;obtain ⟨rfl,hp⟩:=hp;simp only [Ze] at hok;exact Z9 hw G hok.1 (xZ L C cb J hp hok.2 O Y U hX hY (fun v=>kr (h v)) Z)
def sJ:List AV→Option (List PV)
 | []=>some []
 | .p x :: l=>(sJ l).map (x :: ·)
 | _=>none
theorem yl:∀ {l:List AV} {ps:List PV},sJ l=some ps→l=ps.map .p
 | [],ps,h=>by simp [sJ] at h; subst h; rfl
 | x :: l,ps,h=>by
  cases x with
  | p x =>
   simp only [sJ] at h;obtain ⟨J,G,rfl⟩:=GK.1 h;simp [yl G]
  | _=>simp [sJ] at h
def roV (H:QG) (cs:List Conv):AV→Option AV
 | .ptr b off=>match H b with
  | some (.box _ l)=>match sJ (qm cs l) with
   | some ps=>if Us (ps.map .p) then some (.eptr (ps.drop off)) else none
   | none=>none
  | _=>none
 | _=>none
inductive RoC where
 | cv (c:Conv)
 | ro (cs:List Conv)
def roA (H:QG):RoC→AV→Option AV
 | .cv c,x=>some (cv c x)
 | .ro cs,x=>roV H cs x
def vU (H:QG):List RoC→List AV→Option (List AV)
 | [],[]=>some []
 | c :: cs,x :: xs=>match roA H c x,vU H cs xs with | some y,some ys=>some (y :: ys) | _,_=>none
 | _,_=>none
theorem Qat {H:QG} {c:RoC} {x y:AV} (h:roA H c x=some y):leR H x y:=by
 cases c with
 | cv c=>simp only [roA,QN] at h; subst h; exact .inl (yj c x)
 | ro cs =>
  simp only [roA,roV] at h;split at h
  ·rename_i b off;split at h
   ·rename_i ty l hb;split at h
    ·rename_i ps G;split at h
     ·rename_i J;simp only [QN] at h;subst h;exact QcH hb (yl G ▸ UT cs l) J rfl
     ·cases h
    ·cases h
   ·cases h
  ·cases h
theorem Md {H:QG}:∀ {cs:List RoC} {xs ys:List AV},vU H cs xs=some ys→mG H xs ys
 | [],[],ys,h=>by simp [vU] at h; subst h; simp [mG]
 | [],_ :: _,ys,h=>by simp [vU] at h
 | _ :: _,[],ys,h=>by simp [vU] at h
 | c :: cs,x :: xs,ys,h=>by
  simp only [vU] at h;split at h
  ·rename_i y G O J;simp only [QN] at h;subst h;exact ⟨y,G,rfl,Qat O,Md J⟩
  ·cases h
theorem Xz {m:Option V} {k:V→Option R} {X:V→AV} (C:List RoC)  (hc:∀ v,m=some v→QB P f args' (.ret (X v)))
    (hx:∀ v,flat (X v)=true)
  (h:∀ v,K8 (k v) P N ops Q false ((none,[]) :: acc) l (St.put (mk ops o s true) o.dst (X v)))(hw:ZA ops o (look s.T)=some true:=by kernel_rfl)(hf:(ZO (look (Zb ops o s.T true)) o.op).bind (fun p=>(vU (look s.H) C p.2).map fun a=>(p.1,a))=some (f,args'):=by kernel_rfl)(hb:(K7 P f&&Ky N o.dst&&YQ args')=true:=by kernel_rfl):K8 (m.bind k) P N ops Q false acc (o :: l) s:=by
 refine ⟨fun r Y=>?_⟩;obtain ⟨v,Z,U⟩:=Option.bind_eq_some_iff.1 Y;obtain ⟨⟨f0,args⟩,G,hp⟩:=Option.bind_eq_some_iff.1 hf;obtain ⟨aa,O,J⟩:=GK.1 hp;simp only [Prod.mk.injEq] at J;obtain ⟨rfl,rfl⟩:=J;simp only [Ze] at hb;show KT P N ops (Q r) (o :: l) s;simp only [KT,hw,ZB,Ja G];exact Xy G hb.1.1 (vO (hc v Z) (Md O) hb.2 (ZL hb.1.2) ⟨hx v,(h v).h r U⟩)
theorem CU {m:Option (Except E V)} {k:V→Option R} {ke:E→Option R} {X:V→AV} {Y:E→AV} (C:List RoC)  (hc:∀ v,m=some v→QB P f args' (zM X Y v))
    (hx:∀ v,flat (X v)=true) (hy:∀ v,flat (Y v)=true)
  (h:∀ v,K8 (k v) P N ops Q false ((none,[]) :: acc) l (St.put (mk ops o s true) o.dst (X v))) (Z:∀ e,Zt (ke e) Q (.panic (Y e)) (mk ops o s true))(hw:ZA ops o (look s.T)=some true:=by kernel_rfl)(hf:(ZO (look (Zb ops o s.T true)) o.op).bind (fun p=>(vU (look s.H) C p.2).map fun a=>(p.1,a))=some (f,args'):=by kernel_rfl)(hb:(K7 P f&&Ky N o.dst&&YQ args')=true:=by kernel_rfl):K8 (m.bind (F3 k ke)) P N ops Q false acc (o :: l) s:=by
 refine ⟨fun r hr=>?_⟩;obtain ⟨v,hv,U⟩:=Option.bind_eq_some_iff.1 hr;obtain ⟨⟨f0,args⟩,G,hp⟩:=Option.bind_eq_some_iff.1 hf;obtain ⟨aa,O,J⟩:=GK.1 hp;simp only [Prod.mk.injEq] at J;obtain ⟨rfl,rfl⟩:=J;simp only [Ze] at hb;show KT P N ops (Q r) (o :: l) s;simp only [KT,hw,ZB,Ja G];refine Xy G hb.1.1 (vO (hc v hv) (Md O) hb.2 (ZL hb.1.2) ?_);cases v with
 | ok v=>exact ⟨hx v,(h v).h r U⟩
 | error e=>exact ⟨hy e,(Z e).h r U⟩
end
def QM (n bytes:Nat):Bool:=decide (n * bytes≤140737488355328∧n≤140737488355328)
section
variable {P:Program} {o:Oper} {T:Nat→Option AV} {h:QG}
theorem YV {s:Operand} {S by_:Nat} {l l2:List α} {xv:AV} (ho:o.op=.call ⟨.builtin .append,#[s,x],#[t,t]⟩) (ht:P.underlying t=some (.slice e))
  (hi:(P.info? e).bind (fun i=>i.zero.map fun z=>(i.size,i.bytes,z.cells.size))=some (S,by_,S)) (hS:Nat.ble 1 S=true) (hs:Za T s=some (.tsl S (List.map enc l) tk)) (hx:Za T x=some xv) (he:Nr S xv=some (List.map enc l2)) (hn:l2.isEmpty=false)
  (hb:h tk=some (.arr e S (List.map enc l).length)) (hc:QM (l++l2).length by_=true):WW P o T h=some (.tsl S (List.map enc (l++l2)) tk,some (tk, .arr e S (List.map enc (l++l2)).length),[tk]):=by
 obtain ⟨i,U,Y⟩:=Option.bind_eq_some_iff.1 hi;obtain ⟨z,Z,G⟩:=GK.1 Y;simp only [Prod.mk.injEq] at G;obtain ⟨rfl,rfl,hz⟩:=G;have J:¬ l2=[]:=by intro e; subst e; cases hn
 have O:0 < i.size:=Nat.le_of_ble_eq_true hS;simp only [QM,decide_eq_true_eq,YY] at hc;simp [WW,ho,pR,hs,hx,F8,ht,U,Z,he,hz,O,isNil,hb,J,hc]
theorem Jc {s:Operand} {S by_:Nat} {l l2:List α} {xv:AV} (ho:o.op=.call ⟨.builtin .append,#[s,x],#[t,t]⟩) (ht:P.underlying t=some (.slice e))
  (hi:(P.info? e).bind (fun i=>i.zero.map fun z=>(i.size,i.bytes,z.cells.size))=some (S,by_,S)) (hS:Nat.ble 1 S=true) (hs:Za T s=some (.tsl S (List.map enc l) tk)) (hx:Za T x=some xv) (he:Nr S xv=some (List.map enc l2))
  (hb:h tk=some (.arr e S (List.map enc l).length)) (hc:QM (l++l2).length by_=true):WW P o T h=some (.tsl S (List.map enc (l++l2)) tk,some (tk, .arr e S (List.map enc (l++l2)).length),[tk]):=by
 obtain ⟨i,O,Z⟩:=Option.bind_eq_some_iff.1 hi;obtain ⟨z,U,Y⟩:=GK.1 Z;simp only [Prod.mk.injEq] at Y;obtain ⟨rfl,rfl,hz⟩:=Y;have J:0 < i.size:=Nat.le_of_ble_eq_true hS;simp only [QM,decide_eq_true_eq,YY] at hc;by_cases G:l2=[]
 ·subst G;simp [WW,ho,pR,hs,hx,F8,ht,O,U,he,hz,J,isNil,hb]
 simp [WW,ho,pR,hs,hx,F8,ht,O,U,he,hz,J,isNil,hb,G,hc]
end
inductive OL (α:Type) where
 | nil
 | own (l:List α)
def OL.toL {α:Type}:OL α→List α
 | .nil=>[]
 | .own l=>l
@[simp] theorem OL.toL_nil {α:Type}:(OL.nil:OL α).toL=[]:=rfl
@[simp] theorem OL.toL_own {α:Type} (l:List α):(OL.own l).toL=l:=rfl
section
variable {R V E:Type} {a a1 a2:Option R} {P:Program} {N:Nat} {ro:Option Nat} {ops:Array Oper} {o:Oper} {l:List Oper} {dr:Bool} {acc:List Yg} {s s' s1:St} {Q:R→AX→St→Prop} {K:R→St→Prop} {f:FuncId} {args args':List AV} {dst:Option Tmp}
theorem QcP {m:Option V} {k:V→Option R} {u:V→Xe} (U:ZA ops o (look s.T)=some true) (hp:(plain o.op&&Ky N o.dst)=true) (hu:∀ v,m=some v→WW P o (look (Zb ops o s.T true)) (look s.H)=some (u v))
  (h:∀ v,m=some v→K8 (k v) P N ops Q dr (qp (u v) :: acc) l (nxt ops o s (u v))):K8 (m.bind k) P N ops Q dr acc (o :: l) s:=by
 simp only [Ze] at hp;refine ⟨fun r O=>?_⟩;obtain ⟨v,G,J⟩:=Option.bind_eq_some_iff.1 O;exact BV U hp.1 (hu v G) hp.2 (Rx dr acc _ ▸ (h v G).h r J)
theorem QcQ {l:List α} {i:Int} {v:α} (h:QY l i=some v):l[i.toNat]?=some v:=by
 unfold QY at h;split at h
 ·cases h
 ·exact h
def uf (P:Program) (fn:Func) (hc:List (Nat × Blk)) (ρ:Nat→Nat) (s:St) (dst:Option Tmp) (K:R→St→Prop) (Q:R→AX→St→Prop):R→AX→St→Prop :=
 fun r=>bD P fn hc (fun x h'=>∃ hc',h'=look hc'∧Fy ρ hc hc' s.H∧Qar (K r) (Q r) s dst ρ hc' x)
theorem QQ (L:List (Nat × Nat)) (C:List Conv) (cb:List (Nat × List Conv)) (hf:P.funcs[f]?=some fn) (hb:fn.body=some c) (hn:fn.ntmps=n) (U:Nat.ble args'.length n=true)
  (G:qm C args=Vu (VG L) args') (hok:JL N dst (VG L) hc args'=true) (J:Rz s.H (VG L) cb hc=hc.map (fun p=>some (ZM (VG L) p.2)))
  (h:QO a P n none c ⟨YR 0 args',hc⟩ (uf P fn hc (VG L) s dst K Q)):NB a P N f args dst s K Q:=by
 subst hn;refine ⟨fun r hr=>?_⟩;simp only [JL,Ze] at hok;obtain ⟨⟨⟨⟨h1,h2⟩,Y⟩,h4⟩,h5⟩:=hok;refine Nz (VG L) (Aw hf hb (Nat.le_of_ble_eq_true U) (h.h r hr)) (G ▸ UT C args) h2 (fun c hc=>by simpa using List.all_eq_true.1 Y c hc) (Ry h4) (UC J) (UB h5) (ZL h1) ?_;rintro x h' ⟨hc',rfl,Z,O⟩;refine ⟨hc',Z6 (VG L) hc' s.H,rfl,Z,fun _=>rfl,?_⟩;cases x with
 | ret x=>exact O
 | panic x=>exact O
def MZ (ρ:Nat→Nat) (hc hc':List (Nat × Blk)) (s:St) (y:AV):Bool:=CS hc hc' y&&J7 ρ hc hc' s.H
theorem Qau {x:AX} (Y:x=.ret∨x=.normal) (C:Conv) (bs:List Nat) (cb:List (Nat × List Conv)) (y:AV) (h:(TH P fn (look s1.T) (look s1.H)).map (cv C)=some y)
  (hok:MZ ρ hc (KW cb s1.H bs) s y=true) (G:Dv a K (St.put ⟨s.T,Z6 ρ (KW cb s1.H bs) s.H⟩ dst (WG ρ y))):Zt a (uf P fn hc ρ s dst K Q) x s1:=by
 obtain ⟨z,U,O⟩:=GK.1 h;simp only [MZ,CS,Ze] at hok;refine ⟨fun r J=>?_⟩
 have:CO P fn hc (fun x h'=>∃ hc',h'=look hc'∧Fy ρ hc hc' s.H∧Qar (K r) (Q r) s dst ρ hc' x) s1 :=
  ⟨z,y,KW cb s1.H bs,U,O ▸ yj C z,hok.1.1.1,Y1 hok.1.1.2,hok.1.2,_,rfl,XU hok.2,G.h r J⟩
 rcases Y with rfl | rfl <;> exact this
theorem QC (C:Conv) (bs:List Nat) (cb:List (Nat × List Conv)) (y:AV) 
   (G:Dv a K (St.put ⟨s.T,Z6 ρ (KW cb s1.H bs) s.H⟩ dst (WG ρ y)))(h:(TH P fn (look s1.T) (look s1.H)).map (cv C)=some y:=by kernel_rfl)(hok:MZ ρ hc (KW cb s1.H bs) s y=true:=by kernel_rfl):Zt a (uf P fn hc ρ s dst K Q) .ret s1:=Qau (.inl rfl) C bs cb y h hok G
theorem Dw (C:Conv) (bs:List Nat) (cb:List (Nat × List Conv)) (y:AV) 
   (G:Dv a K (St.put ⟨s.T,Z6 ρ (KW cb s1.H bs) s.H⟩ dst (WG ρ y)))(h:(TH P fn (look s1.T) (look s1.H)).map (cv C)=some y:=by kernel_rfl)(hok:MZ ρ hc (KW cb s1.H bs) s y=true:=by kernel_rfl):Zt a (uf P fn hc ρ s dst K Q) .normal s1:=Qau (.inr rfl) C bs cb y h hok G
theorem NC (bs:List Nat) (cb:List (Nat × List Conv))  (G:Zt a Q (.panic (WG ρ p)) ⟨s.T,Z6 ρ (KW cb s1.H bs) s.H⟩)(hok:MZ ρ hc (KW cb s1.H bs) s p=true:=by kernel_rfl):Zt a (uf P fn hc ρ s dst K Q) (.panic p) s1:=by
 simp only [MZ,CS,Ze] at hok;exact ⟨fun r J=>⟨p,KW cb s1.H bs,le_refl p,hok.1.1.1,Y1 hok.1.1.2,hok.1.2,_,rfl,XU hok.2,G.h r J⟩⟩
theorem Gn (hc:List (Nat × Blk)) (args':List AV) (L:List (Nat × Nat)) (C:List Conv) (cb:List (Nat × List Conv))  (hf:P.funcs[f]?=some fn) (hb:fn.body=some c) (Y:fn.ntmps=n) (U:Nat.ble args'.length n=true)
    
  (h:QO a P n none c ⟨YR 0 args',hc⟩ (uf P fn hc (VG L) (mk ops o s true) o.dst (fKr P N ops Q l) Q))(Z:ZA ops o (look s.T)=some true:=by kernel_rfl)(J:(ZO (look (Zb ops o s.T true)) o.op).map (fun p=>(p.1,qm C p.2))=some (f,Vu (VG L) args'):=by kernel_rfl)(hok:(K7 P f&&JL N o.dst (VG L) hc args')=true:=by kernel_rfl)(O:Rz s.H (VG L) cb hc=hc.map (fun p=>some (ZM (VG L) p.2)):=by kernel_rfl):K8 a P N ops Q false acc (o :: l) s:=by
 obtain ⟨⟨f0,args⟩,G,hp⟩:=GK.1 J;simp only [Prod.mk.injEq] at hp;obtain ⟨rfl,hp⟩:=hp;simp only [Ze] at hok;exact Z9 Z G hok.1 (QQ L C cb hf hb Y U hp hok.2 O h)
theorem FB (hc:List (Nat × Blk)) (args':List AV) (L:List (Nat × Nat)) (C:List Conv) (cb:List (Nat × List Conv)) (Z:ZA ops o (look s.T)=some true) (hf:P.funcs[f]?=some fn) (hb:fn.body=some c) (Y:fn.ntmps=n) (U:Nat.ble args'.length n=true)
  (J:(ZO (look (Zb ops o s.T true)) o.op).map (fun p=>(p.1,qm C p.2))=some (f,Vu (VG L) args')) (hok:(K7 P f&&JL N o.dst (VG L) hc args'&&J6 ops acc.length&&ZY ops acc.reverse)=true) (O:Rz s.H (VG L) cb hc=hc.map (fun p=>some (ZM (VG L) p.2)))
  (h:QO a P n none c ⟨YR 0 args',hc⟩ (uf P fn hc (VG L) (mk ops o s true) o.dst (fKq Q) Q)):K8 a P N ops Q true acc [o] s:=by
 obtain ⟨⟨f0,args⟩,G,hp⟩:=GK.1 J;simp only [Prod.mk.injEq] at hp;obtain ⟨rfl,hp⟩:=hp;simp only [Ze] at hok;exact sD Z G (by simp [hok]) (QQ L C cb hf hb Y U hp hok.1.1.2 O h)
end
section
variable {P:Program} {o:Oper} {T:Nat→Option AV} {h:QG}
theorem QfQ {n:Int} (hc:(leI 0 n&&Qp n len)=true):0≤n∧n < len∧n.toNat < len:=by
 simp only [Ze,leI,Qp,decide_eq_true_eq] at hc;omega
theorem QcR {k:IntKind} {n:Int} (O:o.op=.indexAddr t x ix) (U:Za T ix=some (.p (.val (.int k n)))) (hx:Za T x=some (.ptr b 0))
  (Z:P.underlying t=some (.array len e)) (hi:(P.info? e).map (·.size)=some 1) (hc:(leI 0 n&&Qp n len)=true):WW P o T h=some (.ptr b n.toNat,none,[]):=by
 obtain ⟨i,G,J⟩:=GK.1 hi;obtain ⟨h0,Y,h3⟩:=QfQ hc;simp [WW,O,Ti,pR,hx,Xg,U,Z,G,J,h0,Y]
theorem Qav {k:IntKind} {n:Int} {l:List α} (J:o.op=.indexAddr t x ix) (O:Za T ix=some (.p (.val (.int k n)))) (Y:Za T x=some (.ptr b 0))
  (U:P.underlying t=some (.array len e)) (hi:(P.info? e).map (·.size)=some 1) (Z:l.length=len) (v:α) (G:QY l n=some v):WW P o T h=some (.ptr b n.toNat,none,[]):=by
 refine QcR J O Y U hi ?_;unfold QY at G;split at G
 ·cases G
 ·have:=(List.getElem?_eq_some_iff.1 G).1;simp [leI,Qp];omega
theorem QcS {tb:TypeId} {U:Operand} {g:α→AV} {l:List α} {n:Int} {v:α} (Y:o.op=.load ty U) (hx:Za T U=some (.ptr b n.toNat)) (hb:h b=some (.box tb (List.map g l)))
  (hi:(P.underlying ty).bind (fun d=>(P.info? ty).map fun i=>H9 d)=some false) (Z:l[n.toNat]?=some v):WW P o T h=some (g v,none,[b]):=by
 obtain ⟨d,hd,J⟩:=Option.bind_eq_some_iff.1 hi;obtain ⟨i,O,G⟩:=GK.1 J;simp [WW,Y,pR,hx,Pz,hd,O,hb,G,Z]
end
section
variable {P:Program} {o:Oper} {T:Nat→Option AV} {h:QG}
def sliceB (lo hi:Int) (len:Nat):Bool:=decide (0≤lo∧lo≤hi∧hi≤len)
def ND (T:Nat→Option AV) (d:Int):Option Operand→Option Int
 | none=>some d
 | some x=>match Za T x with | some (.p (.val (.int _ n)))=>some n | _=>none
theorem NE {T:Nat→Option AV} {x:Option Operand} {n:Int} (h:ND T d x=some n) (h0:0≤n):Xx T d x=some n.toNat:=by
 cases x with
 | none=>simp only [ND,QN] at h; subst h; simp [Xx]
 | some x =>
  simp only [ND] at h;split at h
  ·rename_i k m G;simp only [QN] at h;subst h;simp [Xx,G,h0]
  ·cases h
end
def Qhw {E V:Type} (x:V→Zz × List (Nat × Blk)) (y:E→Zz × List (Nat × Blk)):Except E V→Zz × List (Nat × Blk)
 | .ok v=>x v
 | .error e=>y e
section
variable {R V:Type} {N:Nat} {s s1:St} {Q:R→AX→St→Prop}
theorem Qhx {S:V→St} (v:V) (O:FZ) (s0:St) (h0:LF O s=some s0) (J:Weak N s0 s1) (K:FZ) (G:LF K s1=some (S v)):Zt (some v) (Qan N S) .normal s:=Qjt v ((Hl h0).trans (J.trans (Hl G)))
end
section
variable {R V E:Type} {a a1 a2:Option R} {P:Program} {N:Nat} {ro:Option Nat} {ops:Array Oper} {o:Oper} {l:List Oper} {dr:Bool} {acc:List Yg} {s s' s1:St} {Q:R→AX→St→Prop} {K:R→St→Prop} {f:FuncId} {args args':List AV} {dst:Option Tmp}
def dQ {V:Type} (P:Program) (fn:Func) (hc:List (Nat × Blk)) (N:Nat) (cf:FuncId) (X:V→Zz × List (Nat × Blk)):V→AX→St→Prop:=fun v=>Qaf P fn hc N cf (Ya X v)
def fKe {V:Type} (P:Program) (fn:Func) (hc:List (Nat × Blk)) (X:V→Zz × List (Nat × Blk)):V→St→Prop:=fun v s=>CO P fn hc (Ya X v) s
def noQ {V:Type}:V→AX→St→Prop:=fun _ _ _=>False
theorem qz {X:R→Zz × List (Nat × Blk)} (h:NB a P N cf [.p (.val .nilIface), .ptr 2000 0] none s (fKe P fn hc X) noQ):Zt a (dQ P fn hc N cf X) .ret s:=⟨fun r G=>h.h r G⟩
theorem Ia {X:R→Zz × List (Nat × Blk)} (h:NB a P N cf [p, .ptr 2000 0] none s (fKe P fn hc X) noQ):Zt a (dQ P fn hc N cf X) (.panic p) s:=⟨fun r G=>h.h r G⟩
theorem Jd {X:V→Zz × List (Nat × Blk)} {v:V} (C:Conv) (bs:List Nat) (cb:List (Nat × List Conv))  
   (h:(TH P fn (look s.T) (look s.H)).map (cv C)=some (Yw (X v).1):=by kernel_rfl)(O:(X v).1=.ret (Yw (X v).1):=by kernel_rfl)(J:KW cb s.H bs=(X v).2:=by kernel_rfl)(hok:CS hc (X v).2 (Yw (X v).1)=true:=by kernel_rfl):Dv (some v) (fKe P fn hc X) s:=⟨fun r G=>by cases G; exact mH C bs cb h O J hok⟩
theorem Qaw (h:Qah H=true):∀ c k x,look H c=some k→k.ob=some x→(some x).map (zK (P6 b))=some x:=by
 intro c k x J G;rw [yf h c k J] at G;cases G
theorem Me {X:R→Zz × List (Nat × Blk)} (hc:List (Nat × Blk)) (C:Lh P g cf) (F:Ru fn g) (b:Nat) (hf:P.funcs[f]?=some fn) (hn:fn.ntmps=n) (hl:Nat.ble args.length n=true) (Z:K7 P g=true) (U:Nat.blt b 1000=true)
  (hm:P.follows .mixedOrders=true) {ops:Array Oper} (Y:F.r1=.region id ops false) (h1:(TJ P n ops false ⟨YR 0 args,hc⟩).isSome=true) (G:look (Fz P n ops false ⟨YR 0 args,hc⟩).T F.tb=some (.ptr b 0))
  (O:((look (Fz P n ops false ⟨YR 0 args,hc⟩).H 2000).isNone&&Qah (Fz P n ops false ⟨YR 0 args,hc⟩).H)=true)
  (h:QO a P n none F.rest ⟨(F.tc,AV.fn (.func g) [] [.ptr 2000 0]) :: Qag b (Fz P n ops false ⟨YR 0 args,hc⟩).T,P7 b (Fz P n ops false ⟨YR 0 args,hc⟩).H⟩ (dQ P fn hc n cf X)) (r:R) (hr:a=some r):Kw P f args (look hc) (Ya X r):=by
 subst hn;simp only [Ze,Option.isNone_iff_eq_none] at O;obtain ⟨s1,J⟩:=Td.1 h1;have e:Fz P fn.ntmps ops false ⟨YR 0 args,hc⟩=s1:=by simp [Fz,J]
 rw [e] at G O h;refine xP C F b hf (Nat.le_of_ble_eq_true hl) Z (by simpa [Nat.blt_eq] using U) ?_;rw [Y];exact BX hm J ⟨rfl,G,O.1,Qaw O.2,h.h r hr⟩
end
theorem QcT
  (h:Ex P N ro c s (fun x s'=>∃ G,qf (look s'.T) (look G.H) G.T∧MH (look s'.H) (look G.H) G.H∧KU (look G.H) s.H=true∧(∀ v,x=.panic v→ZW (look G.H) v=true)∧Q x G)):Ex P N ro c s Q:=by
 intro φ M0 D a w r;refine wpIn_mono (h φ M0 D a w r) ?_;rintro e a' w' ⟨φ',x,s',⟨G,h1,Y,h3,hp,h4⟩,r',E',J⟩;obtain ⟨k1,k2,U⟩:=PZ (hc:=s.H) r' E' Y h3;refine ⟨φ',x,G,h4,⟨?_,r'.siz,k1,fun t y ht=>?_⟩,k2,?_⟩
 ·obtain ⟨h0,Z,g1,g2,g3⟩:=r'.dfs;refine ⟨h0,Z,g1,g2,fun z O=>⟨(g3 z O).1,(g3 z O).2.1,fun b hb=>(g3 z O).2.2 b ?_⟩⟩;cases hq:look G.H b with
  | none=>exact absurd hq hb
  | some k'=>obtain ⟨⟨k,e1,_⟩,_⟩:=Jr Y b k' hq; rw [e1]; simp
 ·obtain ⟨z,g1,g2,g3⟩:=BR h1 t y ht;exact ⟨(r'.tm t z g1).1,U _ _ g3 (JJ.1 _ _ _ g2 (r'.tm t z g1).2)⟩
 ·cases x with
  | normal=>exact J
  | exit i=>exact J
  | ret=>exact J
  | panic v=>obtain ⟨u,h5,h6⟩:=J; exact ⟨u,h5,U _ _ (hp v rfl) h6⟩
section
variable {R V E:Type} {a a1 a2:Option R} {P:Program} {N:Nat} {ro:Option Nat} {ops:Array Oper} {o:Oper} {l:List Oper} {dr:Bool} {acc:List Yg} {s s' s1:St} {Q:R→AX→St→Prop} {K:R→St→Prop} {f:FuncId} {args args':List AV} {dst:Option Tmp}
def rgQ (N:Nat) (s:St) (Q:R→AX→St→Prop):R→AX→St→Prop:=fun r x s'=>∃ G,qf (look s'.T) (look G.H) G.T∧MH (look s'.H) (look G.H) G.H∧KU (look G.H) s.H=true∧(∀ v,x=.panic v→ZW (look G.H) v=true)∧Q r x G
def fKg (G:Nat) (T:List (Nat × AV)) (nf:Di) (N:Nat) (s:St) (Q:R→AX→St→Prop):R→St→Prop:=fun r=>Qaj G T nf (rgQ N s Q r)
theorem RA {J:Operand} {ps:Array Tmp} {assign:Code} (g:FuncId) (G:Nat) (l':List AV) (O:List AV) (hf:Za (look s.T) J=some (.fn (.func g) l' O)) (hok:(K7 P g&&Nat.ble 1000 G&&(look s.H G).isNone)=true)
  (h:∀ nf fn,nf=Di.mk N fn ps assign body→NB a P N g (l'++[.yv G]++O) none ⟨s.T,(G, .lp s.T nf .ready none) :: s.H⟩ (fKg G s.T nf N s Q) (rgQ N s Q)):QO a P N none (.rangeFunc J ps assign body) s Q:=by
 simp only [Ze,Option.isNone_iff_eq_none] at hok;refine ⟨fun r U=>QcT (vN G (Nat.le_of_ble_eq_true hok.1.2) hf hok.1.1 hok.2 fun fn=>?_)⟩;exact (h _ fn rfl).h r U
theorem QcU {x:AX} {st:LoopState} {G:Nat} {T:List (Nat × AV)} (J:FZ) (O:St) (Z:∀ v,x ≠ .panic v) (hs:(if okT (look (shr J ⟨s1.T,(G, .lp T nf .exhausted pd) :: s1.H⟩).H) (shr J ⟨s1.T,(G, .lp T nf .exhausted pd) :: s1.H⟩).T&&lQ (look (shr J ⟨s1.T,(G, .lp T nf .exhausted pd) :: s1.H⟩).H) (shr J ⟨s1.T,(G, .lp T nf .exhausted pd) :: s1.H⟩).H&&KU (look (shr J ⟨s1.T,(G, .lp T nf .exhausted pd) :: s1.H⟩).H) s.H then some (shr J ⟨s1.T,(G, .lp T nf .exhausted pd) :: s1.H⟩) else none)=some O)
  (h:Zt a Q x O) (r:R) (U:a=some r):rgQ N s Q r x ⟨s1.T,(G, .lp T nf .exhausted pd) :: s1.H⟩:=by
 split at hs
 ·rename_i hok;simp only [QN] at hs;subst hs;simp only [Ze] at hok;exact ⟨_,GV hok.1.1,Y1 hok.1.2,hok.2,fun v Y=>absurd Y (Z v),h.h r U⟩
 ·cases hs
def rgS (G:FZ) (s s1:St):Option St:=if okT (look (shr G s1).H) (shr G s1).T&&lQ (look (shr G s1).H) (shr G s1).H&&KU (look (shr G s1).H) s.H then some (shr G s1) else none
theorem Qax {O:Nat} {T:List (Nat × AV)} (st:LoopState) (U:FZ) (G:St) (Z:look s1.H O=some (.lp T nf st none)) (J:st ≠ .busy) (hs:rgS U s ⟨s1.T,(O, .lp T nf .exhausted none) :: s1.H⟩=some G) (h:Zt a Q .normal G):Dv a (fKg O T nf N s Q) s1 :=
 ⟨fun r Y=>⟨st,none,Z,J,QcU (st:=st) U G (fun v e=>by cases e) hs h r Y⟩⟩
def rdR (ρ:Nat→Nat) (hc:List (Nat × Blk)) (s:St) (dst:Option Tmp) (K:St→Prop) (Q:AX→St→Prop):Zz→QG→Prop:=fun x h'=>∃ hc',h'=look hc'∧Fy ρ hc hc' s.H∧Qar K Q s dst ρ hc' x
def rnQ (ρ:Nat→Nat) (hc:List (Nat × Blk)) (b:Nat) (T:List (Nat × AV)) (nf:Di) (s:St) (dst:Option Tmp) (K:R→St→Prop) (Q:R→AX→St→Prop):R→AX→St→Prop:=fun r=>Qai hc b T nf (rdR ρ hc s dst (K r) (Q r))
def asQ (P:Program) (N l:Nat) (body:Code) (b:Nat) (T:List (Nat × AV)) (nf:Di) (Q:R→AX→St→Prop):R→AX→St→Prop:=fun r x s1=>x=.normal∧∃ G,look s1.H b=some (.lp T nf .ready G)∧Ex P N (some l) body ⟨s1.T,(b, .lp T nf .busy G) :: s1.H⟩ (Q r)
theorem Qay {l:Nat} {T:List (Nat × AV)} (U:FZ) (G:St) (pd:Option Code) (O:look s1.H b=some (.lp T nf .ready pd)) (hs:LF U ⟨s1.T,(b, .lp T nf .busy pd) :: s1.H⟩=some G) (h:QO a P N (some l) body G Q):Zt a (asQ P N l body b T nf Q) .normal s1 :=
 ⟨fun r J=>⟨rfl,pd,O,Tq (Hl hs) (h.h r J)⟩⟩
theorem CV {Z:Nat} {fn:FuncId} {ps:Array Tmp} {assign:Code} {l1:List Oper} (L:List (Nat × Nat)) (hc:List (Nat × Blk)) (b:Nat) (T:List (Nat × AV)) (C:List Conv) (cb:List (Nat × List Conv)) (args':List AV) (hw:ZA ops o (look s.T)=some true) (ab:nf=Di.mk Z fn ps assign body)
  (hy:(yieldOf (look (Zb ops o s.T true)) o.op).map (fun p=>(p.1,qm C p.2))=some (VG L b,Vu (VG L) args')) (hb:look hc b=some (.lp T nf .ready none)) (J:(Nat.ble 1000 b&&Nat.beq ps.size args'.length&&ps.toList.all (fun p=>Nat.blt p Z))=true)
  (hok:JL N o.dst (VG L) hc args'=true) (Y:Rz s.H (VG L) cb hc=hc.map (fun p=>some (ZM (VG L) p.2)))
  (h:∀ l,QO a P Z (some l) assign ⟨psT ps.toList args' T,hc⟩ (asQ P Z l body b T nf (rnQ (VG L) hc b T nf (mk ops o s true) o.dst (fKr P N ops Q l1) Q))):K8 a P N ops Q false acc (o :: l1) s:=by
 obtain ⟨⟨b0,args⟩,aa,hp⟩:=GK.1 hy;simp only [Prod.mk.injEq] at hp;obtain ⟨U,O⟩:=hp;have U:b0=VG L b:=U;subst U;refine ⟨fun r hr=>?_⟩;show KT P N ops (Q r) (o :: l1) s;simp only [KT,hw,ZB,aa];show YEx P N (VG L b) args o.dst (mk ops o s true) _ _;simp only [Ze] at J;simp only [JL,Ze] at hok;obtain ⟨⟨⟨⟨g1,g2⟩,g3⟩,g4⟩,g5⟩:=hok
 have hY:iX P b args' (look hc) (rdR (VG L) hc (mk ops o s true) o.dst (fKr P N ops Q l1 r) (Q r)):=by
  have G:=ab;refine xQ (nf:=nf) (Nat.le_of_ble_eq_true J.1.1) hb ?_ ?_ fun l=>?_
  ·subst G; exact Nat.eq_of_beq_eq_true J.1.2
  ·subst G; intro p hp; simpa [Nat.blt_eq] using List.all_eq_true.1 J.2 p hp
  ·have:=(h l).h r hr;subst G;exact this
 refine xM (s:=mk ops o s true) (VG L) hY (by rw [← O]; exact UT C args) g2 (fun c hc=>by simpa using List.all_eq_true.1 g3 c hc) (Ry g4) (UC Y) (UB g5) (ZL g1) ?_;rintro x h' ⟨hc',rfl,hd,hk⟩;refine ⟨hc',Z6 (VG L) hc' s.H,rfl,hd,fun _=>rfl,?_⟩;cases x with
 | ret x=>exact hk
 | panic x=>exact hk
def QfR (hc hc':List (Nat × Blk)) (b:Nat) (s:St):Bool:=lQ (look hc') hc'&&KU (look hc') hc
theorem QfS {T:List (Nat × AV)} {x:AX} {J:Bool} (hx:∀ r,rnQ ρ hc b T nf s dst K Q r x s1=CP hc b T nf (rdR ρ hc s dst (K r) (Q r)) J st pd s1) (bs:List Nat) (cb:List (Nat × List Conv)) (G:LoopState) (O:Option Code)
  (Z:look (KW cb s1.H bs) b=some (.lp T nf G O)) (hok:(QfR hc (KW cb s1.H bs) b s&&J7 ρ hc ((b, .lp T nf st pd) :: KW cb s1.H bs) s.H)=true)
  (U:Dv a K (St.put ⟨s.T,Z6 ρ ((b, .lp T nf st pd) :: KW cb s1.H bs) s.H⟩ dst (WG ρ (.p (.val (.bool J)))))):Zt a (rnQ ρ hc b T nf s dst K Q) x s1:=by
 refine ⟨fun r Y=>?_⟩;rw [hx r];simp only [QfR,Ze] at hok;exact ⟨_,G,O,Y1 hok.1.1,hok.1.2,Z,_,rfl,XU hok.2,U.h r Y⟩
theorem sM {T:List (Nat × AV)} (bs:List Nat) (cb:List (Nat × List Conv)) (G:LoopState) (J:Option Code)  
  (O:Dv a K (St.put ⟨s.T,Z6 ρ ((b, .lp T nf .ready none) :: KW cb s1.H bs) s.H⟩ dst (WG ρ (.p (.val (.bool true))))))(U:look (KW cb s1.H bs) b=some (.lp T nf G J):=by kernel_rfl)(hok:(QfR hc (KW cb s1.H bs) b s&&J7 ρ hc ((b, .lp T nf .ready none) :: KW cb s1.H bs) s.H)=true:=by kernel_rfl):Zt a (rnQ ρ hc b T nf s dst K Q) .normal s1:=QfS (fun _=>rfl) bs cb G J U hok O
end
def SF (k i:Nat):Nat:=if i=k then 0 else if i < k then i+1 else i
def mJ (o:Oper):Bool:=match o.op,o.guard with | .move _,none=>true | _,_=>false
def sO (o:Oper):Bool:=mJ o&&o.after.toList.all (fun e=>!Region.binds .any e)
def reO (k:Nat) (o:Oper):Oper:={ o with after:=⟨(if sO o then [] else [⟨0, .data⟩])++o.after.toList.map fun e=>⟨SF k e.on,e.ground⟩⟩,guard:=o.guard.map fun g=>(SF k g.1,g.2) }
def NF (k:Nat) (l:List Oper):List Oper:=match l[k]? with
 | some o=>{ o with after:=#[] } :: (l.eraseIdx k).map (reO k)
 | none=>l
def JV (k:Nat) (ops:Array Oper):Array Oper:=⟨NF k ops.toList⟩
def IV (k:Nat) (ops:Array Oper):Bool:=match ops[k]? with
 | some o=>mJ o&&o.after.toList.all (fun e=>!Region.binds .any e)&&Region.noSelect ops&&Region.free .any ops (Array.replicate ops.size false) k
 | none=>false
theorem ug {k:Nat} {l:List Oper} (h:l[k]?=some o):(NF k l)[0]?=some { o with after:=#[] }:=by
 simp [NF,h]
theorem sQ {k:Nat} {l:List Oper} (h:l[k]?=some o) (i:Nat) (hi:i ≠ k):(NF k l)[SF k i]?=(l[i]?).map (reO k):=by
 unfold NF SF;simp only [h,if_neg hi];by_cases hlt:i < k
 ·simp only [if_pos hlt,List.getElem?_cons_succ,List.getElem?_map];rw [List.getElem?_eraseIdx,if_pos hlt]
 ·obtain ⟨j,rfl⟩:∃ j,i=j+1:=⟨i - 1,by omega⟩;simp only [if_neg hlt,List.getElem?_cons_succ,List.getElem?_map];rw [List.getElem?_eraseIdx,if_neg zo]
theorem mK {k:Nat} {l:List Oper} (h:l[k]?=some o):(NF k l).length=l.length:=by
 have G:k < l.length:=(List.getElem?_eq_some_iff.1 h).1;unfold NF;simp only [h,Y9,List.length_map,List.length_eraseIdx,if_pos G];omega
theorem NG {k:Nat} (h:ops[k]?=some o):(JV k ops)[0]?=some { o with after:=#[] }:=by
 have:=ug (l:=ops.toList) (by simpa using h);simpa [JV] using this
theorem qA {k:Nat} (h:ops[k]?=some o) (i:Nat) (hi:i ≠ k):(JV k ops)[SF k i]?=(ops[i]?).map (reO k):=by
 have:=sQ (l:=ops.toList) (by simpa using h) i hi;simpa [JV] using this
theorem mM {k:Nat} (h:ops[k]?=some o):(JV k ops).size=ops.size:=by
 have:=mK (l:=ops.toList) (by simpa using h);simpa [JV] using this
theorem Qaz {k:Nat} (G:k < n) (hi:i < n):SF k i < n:=by
 unfold SF;split
 ·omega
 ·split <;> omega
theorem QaA {k:Nat} (hi:i ≠ k):SF k i ≠ 0:=by
 unfold SF;rw [if_neg hi];split <;> omega
theorem QcV {k:Nat} (hi:i ≠ k) (G:j ≠ k) (h:SF k i=SF k j):i=j:=by
 unfold SF at h;rw [if_neg hi,if_neg G] at h;split at h <;> split at h <;> omega
theorem QaB {k:Nat} (G:j ≠ 0):∃ i,i ≠ k∧SF k i=j:=by
 unfold SF;by_cases h:j≤k
 ·exact ⟨j - 1,by omega,by rw [if_neg zo,if_pos zo]; omega⟩
 ·exact ⟨j,by omega,by rw [if_neg zo,if_neg zo]⟩
section
variable {P:Program} {ops:Array Oper} {Q:Exit→Act→World→Prop} {k:Nat} {ok:Oper}
theorem sU (G:ops[k]?=some ok) (g:Nat):((JV k ops)[SF k g]?).bind (·.dst)=(ops[g]?).bind (·.dst):=by
 by_cases J:g=k
 ·subst J;rw [show SF g g=0 from by simp [SF],NG G,G];rfl
 ·rw [qA G g J];cases ops[g]? <;> rfl
theorem sV (G:ops[k]?=some ok) (o:Oper) (tmps:Array Value):Region.wanted (reO k o) (yielded (JV k ops) tmps)=Region.wanted o (yielded ops tmps):=by
 unfold Region.wanted reO;cases hg:o.guard with
 | none=>simp
 | some g =>
  obtain ⟨g,b⟩:=g;simp only [Option.map_some];unfold yielded;rw [sU G g]
theorem QcW (G:ops[k]?=some ok) (hi:i ≠ k) {K K':Act→World→Prop} (J:∀ a w,K a w→K' a w) (h:wpOp P (JV k ops) Q (SF k i) K a w):wpOp P ops Q i K' a w:=by
 refine wpOp_mono J ?_;unfold wpOp at h ⊢;rw [qA G i hi] at h;cases ho:ops[i]? with
 | none=>simpa [ho] using h
 | some o =>
  simp only [ho,Option.map_some] at h ⊢;rw [sV G] at h;exact h
theorem CW (hk:ops[k]?=some ok) {G:Array Bool} (hs:listed.size=ops.size) (ad:G.size=ops.size) (h0:G.getD 0 false=true) (h1:listed.getD k false=true) (hl:∀ i,i ≠ k→G.getD (SF k i) false=listed.getD i false) (i:Nat) (hi:i ≠ k) :
  i ∈ Region.ready .any ops listed↔SF k i ∈ Region.ready .any (JV k ops) G:=by
 have ab:k < ops.size:=(FY.1 hk).1;have Z:∀ (l:Array Bool) (i:Nat),i < l.size→l.getD i true=l.getD i false:=fun l i hi=>by simp [hi]
 rw [mem_ready,mem_ready,qA hk i hi];rcases Nat.lt_or_ge i ops.size with hlt | ac
 rotate_left
 ·have:ops[i]?=none:=by simp [ac]
  simp [this]
 have e1:listed.getD i true=G.getD (SF k i) true:=by
  rw [Z listed i zo,Z G _ (by rw [ad]; exact Qaz ab hlt),hl i hi]
 rw [e1]
 have Y:∀ j,listed.getD j false=G.getD (SF k j) false:=by
  intro j;by_cases hj:j=k
  ·subst hj;rw [h1,show SF j j=0 from by simp [SF],h0]
  ·exact (hl j hj).symm
 refine and_congr_right fun _=>?_
 constructor
 ·rintro ⟨o,ho,J⟩;refine ⟨reO k o,by rw [ho]; rfl,fun e O hb=>?_⟩;simp only [reO,List.mem_toArray,List.mem_append,List.mem_map] at O;rcases O with O | ⟨e',aa,rfl⟩
  ·split at O
   ·cases O
   ·rw [List.mem_singleton] at O;subst O;exact h0
  ·rw [← Y];exact J e' (by simpa using aa) hb
 ·rintro ⟨o',U,J⟩;cases ho:ops[i]? with
  | none=>rw [ho] at U; cases U
  | some o =>
   rw [ho] at U;cases U;refine ⟨o,rfl,fun e O hb=>?_⟩;rw [Y];exact J ⟨SF k e.on,e.ground⟩ (by simp only [reO,List.mem_toArray,List.mem_append,List.mem_map]; exact .inr ⟨e,by simpa using O,rfl⟩) hb
theorem mO (hk:ops[k]?=some ok):∀ (O:Nat) (listed G:Array Bool) (a:Act) (w:World),listed.size=ops.size→G.size=ops.size→G.getD 0 false=true→listed.getD k false=true →
  (∀ i,i ≠ k→G.getD (SF k i) false=listed.getD i false)→wpAny P .any (JV k ops) Q O G a w→wpAny P .any ops Q O listed a w:=by
 have ad:k < ops.size:=(FY.1 hk).1;have ab:∀ (l:Array Bool) (i:Nat),i < l.size→l.getD i true=l.getD i false:=fun l i hi=>by simp [hi]
 have aa:∀ (listed G:Array Bool),listed.size=ops.size→G.size=ops.size→G.getD 0 false=true→listed.getD k false=true →
   (∀ i,i ≠ k→G.getD (SF k i) false=listed.getD i false)→(Region.ready .any ops listed=[]↔Region.ready .any (JV k ops) G=[]):=by
  intro listed G hs J h0 Z hl;simp only [List.eq_nil_iff_forall_not_mem];constructor
  ·intro h j hj
   have ac:j ≠ 0:=by
    intro e;subst e;have:=(mem_ready.1 hj).1;rw [ab G 0 zo,h0] at this;cases this
   obtain ⟨i,U,rfl⟩:=QaB (k:=k) ac;exact h i ((CW hk hs J h0 Z hl i U).2 hj)
  ·intro h i hi
   have U:i ≠ k:=by
    intro e;subst e;have:=(mem_ready.1 hi).1;rw [ab listed i zo,Z] at this;cases this
   exact h _ ((CW hk hs J h0 Z hl i U).1 hi)
 intro O
 induction O with
 | zero =>
  intro listed G a w hs J h0 Z hl h;exact ⟨(aa listed G hs J h0 Z hl).2 h.1,h.2⟩
 | succ O ih =>
  intro listed G a w hs J h0 Z hl h;refine ⟨fun hr=>h.1 ((aa listed G hs J h0 Z hl).1 hr),fun i hi=>?_⟩
  have U:i ≠ k:=by
   intro e;subst e;have:=(mem_ready.1 hi).1;rw [ab listed i zo,Z] at this;cases this
  have h2:=h.2 _ ((CW hk hs J h0 Z hl i U).1 hi);refine QcW hk U (fun a' w' h3=>ih _ _ a' w' (by simpa using hs) (by simpa using J) (getD_set_true h0) (getD_set_true Z) ?_ h3) h2;intro j hj;by_cases e:i=j
  ·subst e
   have Y:i < ops.size:=by
    obtain ⟨o,ho,_⟩:=(mem_ready.1 hi).2;exact (FY.1 ho).1
   have:=Qaz ad Y;rw [← hs] at Y;rw [← J] at this;simp [Y,this]
  ·rw [getD_set_ne false e,getD_set_ne false (fun e2=>e (QcV U hj e2)),hl j hj]
theorem XA {Q':Exit→Act→World→Prop} (hQ:∀ e a w,Q e a w→Q' e a w):∀ (G:Nat) (listed:Array Bool) (a:Act) (w:World),wpAny P .any ops Q G listed a w→wpAny P .any ops Q' G listed a w
 | 0,listed,a,w,h=>⟨h.1,hQ _ _ _ h.2⟩
 | G+1,listed,a,w,h=>by
  refine ⟨fun Y=>hQ _ _ _ (h.1 Y),fun i hi=>?_⟩;have J:=h.2 i hi;unfold wpOp at J ⊢;cases ho:ops[i]? with
  | none=>simp only [ho] at J ⊢; exact XA hQ G _ a w J
  | some o =>
   simp only [ho] at J ⊢;split
   ·rename_i O;simp only [O,if_true] at J;rcases J with J | ⟨U,Z⟩
    ·exact .inl (Oper.wp_mono2 J (fun a w h=>XA hQ G _ a w h) hQ)
    ·exact .inr ⟨U,_,_,hQ _ _ _ Z.choose_spec.choose_spec⟩
   ·rename_i O;simp only [O] at J;exact XA hQ G _ _ w J
end
def Agree (X:Tmp→Prop) (a b:Act):Prop:=a.defers=b.defers∧a.tmps.size=b.tmps.size∧∀ t,¬ X t→a.tmps[t]?=b.tmps[t]?
theorem mP (X:Tmp→Prop) (a:Act):Agree X a a:=⟨rfl,rfl,fun _ _=>rfl⟩
theorem GX {X:Tmp→Prop} {b:Act} (h:Agree X a b) (d:Option Tmp) (v:Value):Agree X (a.put d v) (b.put d v):=by
 cases d with
 | none=>exact h
 | some d =>
  refine ⟨h.1,by simpa [Act.put] using h.2.1,fun t G=>?_⟩;simp only [Act.put,Array.getElem?_setIfInBounds];rw [h.2.1,h.2.2 t G]
theorem mQ {X:Tmp→Prop} {b:Act} (h:Agree X a b) (G:∀ t,x=.tmp t→¬ X t):a.eval x=b.eval x:=by
 cases x with
 | tmp t =>
  have:=h.2.2 t (G t rfl);simp only [Act.eval];rw [Array.getD_eq_getD_getElem?,Array.getD_eq_getD_getElem?,this]
 | _=>rfl
theorem XV {X:Tmp→Prop} {b:Act} (h:Agree X a b) (hs:∀ cs b,o.op ≠ .select cs b) (G:∀ t ∈ o.looksAt ops,¬ X t):execOp a.eval o=execOp b.eval o :=
 execOp_congr o hs fun x O=>mQ h fun t J=>G t (by
  subst J;exact List.mem_append_left _ (List.mem_filterMap.2 ⟨.tmp t,by simpa using O,rfl⟩))
theorem qB {X:Tmp→Prop} {b:Act} {K:Act→World→Prop} {Q:Exit→Act→World→Prop} (h:Agree X a b) (hs:∀ cs b,o.op ≠ .select cs b) (hl:∀ t ∈ o.looksAt ops,¬ X t) (hd:∀ t,o.dst=some t→¬ X t)
  (hp:∀ c w,Q (.panic c) b w→Q' (.panic c) a w) (Z:∀ a w,¬ Q .outgrown a w) (J:o.wp P b w K Q):o.wp P a w (fun a' w'=>∃ Y,Agree X a' Y∧(∀ t,o.dst ≠ some t→Y.tmps[t]?=b.tmps[t]?)∧K Y w') Q':=by
 have G:∀ (b:Act) (v:Value) (t:Tmp),o.dst ≠ some t→(b.put o.dst v).tmps[t]?=b.tmps[t]?:=by
  intro b v t U;cases hdst:o.dst with
  | none=>rfl
  | some d =>
   have:d ≠ t:=fun e=>U (by rw [hdst,e])
   simp [Act.put,Array.getElem?_setIfInBounds_ne this]
 unfold Oper.wp at *;rw [XV (ops:=ops) h hs hl];generalize (execOp b.eval o).run P w=r at *;cases r with
 | ok n w' =>
  cases n <;> simp only [Oper.upon] at J ⊢
  case value u=>exact ⟨_,GX h _ u,G b u,J⟩
  case skip=>exact ⟨_,GX h _ _,G b _,J⟩
  case defer d =>
   refine ⟨_,GX (X:=X) (a:={ a with defers:=d :: a.defers }) (b:={ b with defers:=d :: b.defers }) ⟨by simp [h.1],h.2.1,h.2.2⟩ _ _,fun t U=>?_,J⟩;exact G { b with defers:=d :: b.defers } _ t U
  case enter f args =>
   refine Calls.mono J fun e w'' O=>?_
   cases e with
   | returned u=>exact ⟨_,GX h _ u,G b u,O⟩
   | panicked c=>exact hp _ _ O
   | outgrown=>obtain ⟨a0,w0,O⟩:=O; exact absurd O (Z _ _)
  case row row args=>exact Rows.mono J fun u w'' O=>⟨_,GX h _ u,G b u,O⟩
 | halt x w' =>
  cases x <;> simp only [Oper.upon] at J ⊢
  case panic u=>exact hp _ _ J
def qC (P:Program) (o:Oper) (T:Nat→Option AV) (h:QG):Option AV :=
 match o.op with
 | .move x=>Za T x
 | .load ty x=>(Pz P T h ty x).map (·.1)
 | .fieldAddr s x f=>(Xf P T s x f).map (·.1)
 | .nilCheck x=>(Uu T x).map (·.1)
 | .extract x i=>(Fg T x i).map (·.1)
 | .binOp op _ x y _=>match Za T x,Za T y with
  | some (.p (.val (.int k a))),some (.p (.val (.int k' b)))=>if Gu op then none else if k=k' then (Nq op k a b).map fun v=>.p (.val v) else none
  | _,_=>none
 | _=>none
section
variable {P:Program} {N:Nat} {D:DB} {φ:Nat→Nat} {M0:Zn} {T:Nat→Option AV} {h:QG} {a:Act} {w:World}
theorem qD (r:Q6 φ M0 N D T h a w) {x:AV} (O:qC P o T h=some x):∃ v,(execOp a.eval o).run P w=.ok (.value v) w∧Qe φ h w (MM φ h M0) x v:=by
 unfold qC at O;split at O
 ·rename_i y J;exact ⟨a.eval y,by simp [execOp,J],r.ev O⟩
 ·rename_i ty y J;obtain ⟨u,hu,rfl⟩:=GK.1 O;obtain ⟨_,v,G,Z⟩:=OA (P:=P) r hu;exact ⟨v,by simp [execOp,J,G],Z⟩
 ·rename_i s y f J;obtain ⟨u,hu,rfl⟩:=GK.1 O;unfold Xf at hu;split at hu
  ·rename_i fields hs;split at hu
   ·rename_i fl hf;split at hu
    ·rename_i i hi;split at hu
     ·cases hu
     ·rename_i aa;split at hu
      ·rename_i b off U;simp only [QN] at hu;subst hu;have G:=r.ev U;simp only [Qe] at G;refine ⟨.pointer (some ⟨φ b,off+fl.offset,none⟩),?_,?_⟩
       ·simp [execOp,J,Instr.fieldAt,run_underlying hs,hf,G.1,Instr.sureAddr,fieldPlace,QU hi,aa,Addr.add_lit]
       ·simp only [Qe]; exact ⟨trivial,G.2⟩
      ·rename_i cs U;split at hu
       ·rename_i ab;simp only [QN] at hu;subst hu;have G:=r.ev U;simp only [Qe] at G;obtain ⟨rr,oo,Z,h4⟩:=G;refine ⟨.pointer (some ⟨rr,oo+fl.offset,none⟩),?_,?_⟩
        ·simp [execOp,J,Instr.fieldAt,run_underlying hs,hf,Z,Instr.sureAddr,fieldPlace,QU hi,aa,Addr.add_lit]
        ·simp only [Qe]; exact ⟨rr,oo+fl.offset,rfl,Np _ ab h4⟩
       ·cases hu
      ·cases hu
    ·cases hu
   ·cases hu
  ·cases hu
 ·rename_i y J;obtain ⟨u,hu,rfl⟩:=GK.1 O;unfold Uu at hu;split at hu
  ·rename_i b off U;simp only [QN] at hu;subst hu;have G:=r.ev U;refine ⟨a.eval y,?_,G⟩;simp only [Qe] at G;simp [execOp,J,G.1]
  ·rename_i cs U;simp only [QN] at hu;subst hu;have G:=r.ev U;refine ⟨a.eval y,?_,G⟩;simp only [Qe] at G;obtain ⟨rr,oo,Z,_⟩:=G;simp [execOp,J,Z]
  ·rename_i f l m U;simp only [QN] at hu;subst hu;have G:=r.ev U;refine ⟨a.eval y,?_,G⟩;simp only [Qe] at G;obtain ⟨l',m',Z,_⟩:=G;simp [execOp,J,Z]
  ·cases hu
 ·rename_i y i J;obtain ⟨u,hu,rfl⟩:=GK.1 O;unfold Fg at hu;split at hu
  ·rename_i vs U;split at hu
   ·rename_i v Y;simp only [QN] at hu;subst hu;have G:=r.ev U;simp only [Qe] at G;obtain ⟨l,Z,h4⟩:=G;obtain ⟨z,h5,h6⟩:=Un h4 Y;exact ⟨z,by simp [execOp,J,Instr.extract,Z,h5],h6⟩
   ·cases hu
  ·cases hu
 ·rename_i op tx y z ty J;split at O
  ·rename_i k n k' m U hy;have h1:=r.ev U;have G:=r.ev hy;simp only [Qe,QH] at h1 G;split at O
   ·cases O
   rename_i hs;split at O
   ·rename_i hk;subst hk;obtain ⟨v,Y,rfl⟩:=GK.1 O;refine ⟨v,?_,by simp [Qe,QH]⟩;cases op <;> first | (simp [Gu] at hs; done) | (simp only [Nq] at Y; first | (cases Y; done) | (simp only [QN] at Y; subst Y; simp [execOp,J,h1,G,eqGuard,binOp,Op.intArith,Op.intBits,Op.intCmp,PI,bOr,Qcn,vo,Qp,leI,Qr,bne]; done) | (by_cases hz:m=0 <;> simp only [hz,if_true,if_false] at Y <;> first | (cases Y; done) | (simp only [QN] at Y; subst Y; simp [execOp,J,h1,G,eqGuard,binOp,Op.intDiv,hz])))
   ·cases O
  ·cases O
 ·cases O
end
def vV:AV→Bool
 | .p (.val _)=>true
 | .ptr _ _=>true
 | _=>false
theorem mR {x:AV} {U:Value} (O:vV x=true) (G:Qe φ h w M x v) (J:Qe φ h w M x U):v=U:=by
 unfold vV at O;split at O
 ·simp only [Qe,QH] at G J;rw [G,J]
 ·simp only [Qe] at G J;rw [G.1,J.1]
 ·cases O
def QaC (h:QG) (x:AV):Prop:=vV x=true∨∃ S es t ty,x=.tsl S es t∧h t=some (.arr ty S es.length)∧0 < S
theorem ym {x:AV} {v':Value} (Z:QaC h x) (Y:Qe φ h w M x v) (U:Qe φ h w M x v'):v=v':=by
 rcases Z with Z | ⟨S,es,t,ty,rfl,ht,hS⟩
 ·exact mR Z Y U
 ·simp only [Qe] at Y U;obtain ⟨_,SL,n1,a1,a2,a3⟩:=Y;obtain ⟨_,Vs,n2,b1,b2,b3⟩:=U;rw [ht] at a1 b1;cases a1;cases b1;rcases a3 rfl with ⟨_,O,J⟩ | ⟨cap,c,O,J,e3,_⟩ <;> rcases b3 rfl with ⟨_,f1,f2⟩ | ⟨G,c',f1,f2,f3,_⟩
  ·exact O.trans f1.symm
  ·rw [J] at f2; cases f2
  ·rw [J] at f2; cases f2
  rw [J] at f2;cases f2;rw [e3] at f3;have:cap=G:=Nat.eq_of_mul_eq_mul_right hS f3;rw [O,f1,this]
def RB (P:Program) (N:Nat) (ops:Array Oper):List Nat→St→Option St
 | [],s=>some s
 | i :: l,s=>match ops[i]? with
  | some o=>match qC P o (look s.T) (look s.H),o.dst with
   | some x,some d=>if d < N then RB P N ops l (s.put (some d) x) else none
   | _,_=>none
  | none=>none
def RD (ops:Array Oper):List Nat→Bool
 | []=>true
 | i :: l=>(match ops[i]? with
  | some o=>match o.dst with
   | some d=>!(o.looksAt ops).contains d&&l.all (fun j=>match (ops[j]?).bind (·.dst) with | some e=>!(o.looksAt ops).contains e&&e != d | none=>false)
   | none=>false
  | none=>false)&&RD ops l
def QaD (ops:Array Oper) (H:List Nat) (t:Tmp):Prop:=∃ i ∈ H,(ops[i]?).bind (·.dst)=some t
theorem IW {P:Program} {N:Nat} {D:DB} {φ:Nat→Nat} {M0:Zn} {ops:Array Oper} (Z:Region.noSelect ops=true):∀ (H:List Nat) (s s1:St) (a:Act) (w:World),RD ops H=true→RB P N ops H s=some s1→Q6 φ M0 N D (look s.T) (look s.H) a w →
  ∃ b,Q6 φ M0 N D (look s1.T) (look s1.H) b w∧look s1.H=look s.H∧Agree (QaD ops H) a b∧∀ i ∈ H,∃ o d v,ops[i]?=some o∧o.dst=some d∧b.tmps[d]?=some v∧(execOp b.eval o).run P w=.ok (.value v) w
 | [],s,s1,a,w,_,h,r=>by
  simp only [RB,QN] at h;subst h;exact ⟨a,r,rfl,mP _ a,fun i hi=>by cases hi⟩
 | i :: H,s,s1,a,w,hp,h,r=>by
  simp only [RB] at h;cases ho:ops[i]? with
  | none=>rw [ho] at h; cases h
  | some o =>
   simp only [ho] at h;split at h
   ·rename_i x d hx hd;split at h;rotate_left
    ·cases h
    rename_i ad;simp only [RD,ho,hd,Ze,Bool.not_eq_true'] at hp;obtain ⟨⟨aa,G⟩,ai⟩:=hp;obtain ⟨v,af,ab⟩:=qD r hx;have r1:=r.put (d:=some d) (fun t J=>by cases J; exact ad) ab;obtain ⟨b,rb,hH,U,ae⟩:=IW Z H (s.put (some d) x) s1 (a.put (some d) v) w ai h r1
    have ac:∀ t ∈ o.looksAt ops,t ≠ d∧¬ QaD ops H t:=by
     intro t J;refine ⟨fun e=>?_,?_⟩
     ·subst e; simp [J] at aa
     ·rintro ⟨j,Y,O⟩;have:=List.all_eq_true.1 G j Y;rw [O] at this;simp [J] at this
    have aj:¬ QaD ops H d:=by
     rintro ⟨j,Y,O⟩;have:=List.all_eq_true.1 G j Y;rw [O] at this;simp at this
    have ah:d < a.tmps.size:=by rw [r.siz]; exact ad
    refine ⟨b,rb,by rw [hH]; rfl,?_,?_⟩
    ·refine ⟨by rw [← U.1]; rfl,by rw [← U.2.1]; simp [Act.put],fun t J=>?_⟩;rw [← U.2.2 t (fun hc=>J (by obtain ⟨j,Y,O⟩:=hc; exact ⟨j,List.mem_cons_of_mem _ Y,O⟩))];have:d ≠ t:=fun e=>J ⟨i,List.mem_cons_self,by rw [ho]; exact hd.trans (by rw [e])⟩
     simp [Act.put,Array.getElem?_setIfInBounds_ne this]
    ·intro j Y;rcases List.mem_cons.1 Y with rfl | Y
     ·refine ⟨o,d,v,ho,hd,?_,?_⟩
      ·rw [← U.2.2 d aj];simp [Act.put,ah]
      ·rw [← af];congr 1;have h1:execOp (a.put (some d) v).eval o=execOp a.eval o:=execOp_put o (fun cs b=>Region.noSelect_spec Z j o cs b ho) a (some d) v (fun t J hc=>by cases J; exact (ac d hc).1 rfl);rw [← h1];exact (XV (ops:=ops) U (fun cs b=>Region.noSelect_spec Z j o cs b ho) (fun t J=>(ac t J).2)).symm
     ·exact ae j Y
   ·cases h
def Gp (P:Program) (ops:Array Oper) (i:Nat) (s:St):Prop :=
 match ops[i]? with
 | some o=>match o.op,o.dst with
  | .move x,some d=>True
  | _,some d=>∃ x,qC P o (look s.T) (look s.H)=some x∧look s.T d=some x∧QaC (look s.H) x
  | _,none=>False
 | none=>False
def WT (P:Program) (ops:Array Oper) (L:List Nat) (s:St):Prop:=∀ i ∈ L,Gp P ops i s
def Je:Nat→Array Oper→Nat→Nat→Bool
 | 0,_,_,_=>false
 | n+1,ops,j,i=>match ops[j]? with
  | some o=>o.after.toList.any fun e=>Region.binds .any e&&(e.on == i||Je n ops e.on i)
  | none=>false
def XW (ops:Array Oper) (L:List Nat) (c:Nat):List Nat:=L.filter fun i=>!Je ops.size ops c i&&!Je ops.size ops i c
def gH (P:Program) (N:Nat) (ops:Array Oper) (Q:AX→St→Prop) (L:List Nat):List (Nat × List Nat)→St→Prop
 | [],s=>Q .normal s
 | (c,hs) :: rest,s=>match ops[c]? with
  | some o=>XP P N o s (fun s'=>WT P ops (XW ops L c) s'∧∃ G,RB P N ops hs s'=some G∧gH P N ops Q L rest G) Q
  | none=>False
theorem XB {ops:Array Oper} {listed:Array Bool} (J:∀ (j:Nat) o,ops[j]?=some o→listed.getD j false=true→∀ e ∈ o.after,Region.binds .any e=true→listed.getD e.on false=true):∀ (n j i:Nat) (o:Oper),ops[j]?=some o→(∀ e ∈ o.after,Region.binds .any e=true→listed.getD e.on false=true)→Je n ops j i=true→listed.getD i false=true
 | 0,j,i,o,Y,hr,h=>by cases h
 | n+1,j,i,o,Y,hr,h=>by
  simp only [Je,Y,List.any_eq_true,Ze,Bool.or_eq_true,beq_iff_eq] at h;obtain ⟨e,he,hb,G⟩:=h;have Z:=hr e (by simpa using he) hb;rcases G with G | G
  ·rw [← G]; exact Z
  ·cases ho2:ops[e.on]? with
   | none=>cases n <;> simp [Je,ho2] at G
   | some o2=>exact XB J n e.on i o2 ho2 (fun e2 O U=>J e.on o2 ho2 Z e2 O U) G
def chainOk (ops:Array Oper):List Nat→Bool
 | []=>true
 | [_]=>true
 | c :: c' :: r=>(ops[c']?).any (waits · c)&&chainOk ops (c' :: r)
def Mh (ops:Array Oper) (L:List Nat):List Nat→List Nat→List (Nat × List Nat)→Bool
 | _,_,[]=>true
 | J,G,(c,hs) :: r=>G.all (fun i=>L.contains i||Je ops.size ops c i)&&hs.all (fun i=>Je ops.size ops i c)&&J.all (fun i=>!Je ops.size ops i c)&&Mh ops L (J++hs) hs r
def qE (H:List Nat) (Ch:List (Nat × List Nat)):List Nat:=H++(Ch.map (·.2)).flatten
def uh (H L:List Nat) (Ch:List (Nat × List Nat)) (ops:Array Oper):Bool :=
 (List.range ops.size).all (fun i=>(qE H Ch).contains i||(Ch.map (·.1)).contains i)&&Region.noSelect ops&&RD ops (qE H Ch)&&chainOk ops (Ch.map (·.1))&&decide (Ch.map (·.1)).Nodup&&(qE H Ch).all (fun i=>!(Ch.map (·.1)).contains i) &&
 Mh ops L H H Ch&&ops.toList.all (fun o=>o.guard.isNone)&&GQ 0 ops.toList &&
 (qE H Ch).all (fun i=>match (ops[i]?).bind (·.dst) with
  | some d=>(List.range ops.size).all fun j=>i == j||(match ops[j]? with | some G=>G.dst != some d&&(waits G i||!(G.looksAt ops).contains d) | none=>true)
  | none=>false) &&
 L.all (fun i=>match ops[i]? with | some o=>(match o.op with | .move _=>true | _=>false)&&(Ch.map (·.1)).all (fun c=>match (ops[c]?).bind (·.dst) with | some e=>!(o.looksAt ops).contains e | none=>true)||!(match o.op with | .move _=>true | _=>false) | none=>false)
theorem FC (h:waits o i=true):∃ e ∈ o.after,Region.binds .any e=true∧e.on=i:=by
 simp only [waits,List.any_eq_true,Ze,beq_iff_eq] at h;obtain ⟨e,J,O,G⟩:=h;exact ⟨e,by simpa using J,O,G⟩
theorem bK {b:Act} {X:Tmp→Prop} (h:Agree X a b) (O:∀ t,¬ X t):a=b:=by
 obtain ⟨J,U,G⟩:=h;cases a with
 | mk ta Y =>
  cases b with
  | mk tb Z =>
   simp only at J G;subst J;congr 1;exact Array.ext_getElem? (fun i=>G i (O i))
def JW (ops:Array Oper) (H:List Nat) (listed:Array Bool) (t:Tmp):Prop:=∃ i ∈ H,listed.getD i false=false∧(ops[i]?).bind (·.dst)=some t
theorem CX {ops:Array Oper}:∀ (G:List Nat) (c c':Nat) (l2:List Nat),chainOk ops (G++c :: c' :: l2)=true→(ops[c']?).any (waits · c)=true
 | [],c,c',l2,h=>by
  simp only [List.nil_append,chainOk,Ze] at h;exact h.1
 | [x],c,c',l2,h=>by
  simp only [List.cons_append,List.nil_append,chainOk,Ze] at h;exact h.2.1
 | x :: y :: G,c,c',l2,h=>by
  simp only [List.cons_append,chainOk,Ze] at h;exact CX (y :: G) c c' l2 h.2
theorem qF {ops:Array Oper}:∀ (O l2:List Nat),RD ops (O++l2)=true→(∀ i ∈ O,∀ j ∈ l2,∃ o d,ops[i]?=some o∧o.dst=some d∧∀ e,(ops[j]?).bind (·.dst)=some e→e ∉ o.looksAt ops∧e ≠ d)∧RD ops l2=true
 | [],l2,h=>⟨(fun i hi=>by cases hi),h⟩
 | x :: O,l2,h=>by
  simp only [List.cons_append,RD,Ze] at h;obtain ⟨g1,g2⟩:=qF O l2 h.2;refine ⟨fun i hi j U=>?_,g2⟩;rcases List.mem_cons.1 hi with rfl | hi
  ·have G:=h.1;cases ho:ops[i]? with
   | none=>rw [ho] at G; cases G
   | some o =>
    rw [ho] at G;dsimp only at G;cases hd:o.dst with
    | none=>rw [hd] at G; cases G
    | some d =>
     rw [hd] at G;simp only [Ze] at G;refine ⟨o,d,rfl,hd,fun e Y=>?_⟩;have J:=List.all_eq_true.1 G.2 j (List.mem_append_right _ U);rw [Y] at J;simp only [Ze,Bool.not_eq_true',bne_iff_ne] at J;refine ⟨fun hc=>?_,J.2⟩;have:=J.1;simp [hc] at this
  ·exact g1 i hi j U
theorem qG (O:ops[j]?=some o) (U:o.dst=some d):∀ (l:List Nat),RD ops l=true→j ∈ l→d ∉ o.looksAt ops:=by
 intro l
 induction l with
 | nil=>intro _ h; cases h
 | cons x l J =>
  intro hp G;simp only [RD,Ze] at hp;rcases List.mem_cons.1 G with rfl | G
  ·have:=hp.1;simp only [O,U,Ze,Bool.not_eq_true'] at this;intro hc;simp [hc] at this
  ·exact J hp.2 G
theorem NH {ops:Array Oper}:∀ (J l2:List Nat),RD ops (J++l2)=true→RD ops J=true
 | [],_,_=>rfl
 | x :: J,l2,h=>by
  simp only [List.cons_append,RD,Ze] at h ⊢;refine ⟨?_,NH J l2 h.2⟩;have G:=h.1;cases ho:ops[x]? with
  | none=>rw [ho] at G; cases G
  | some o =>
   rw [ho] at G;dsimp only at G ⊢;cases hd:o.dst with
   | none=>rw [hd] at G; cases G
   | some d =>
    rw [hd] at G;simp only [Ze,List.all_append] at G ⊢;exact ⟨G.1,G.2.1⟩
theorem Az {ops:Array Oper} {L:List Nat}:∀ (O G:List Nat) (Y:List (Nat × List Nat)),Mh ops L O G Y=true→∀ c hs,(c,hs) ∈ Y→∀ i ∈ hs,Je ops.size ops i c=true
 | _,_,[],_,c,hs,h,_,_=>by cases h
 | O,G,(Z,J) :: r,h,c,hs,U,i,hi=>by
  simp only [Mh,Ze] at h;rcases List.mem_cons.1 U with e | U
  ·cases e;exact List.all_eq_true.1 h.1.1.2 i hi
  ·exact Az (O++J) J r h.2 c hs U i hi
def NI (ops:Array Oper):List Tmp:=ops.toList.filterMap (·.dst)
def AA (ops:Array Oper) (s:St):St:=⟨s.T.filter (fun p=>!(NI ops).contains p.1),s.H⟩
theorem CY (f:Nat→Bool):∀ (T:List (Nat × AV)) (t:Nat) (x:AV),look (T.filter (fun p=>f p.1)) t=some x→look T t=some x∧f t=true
 | [],t,x,h=>by cases h
 | (k,v) :: T,t,x,h=>by
  simp only [List.filter_cons] at h;by_cases G:f k=true
  ·simp only [G,if_true,look] at h;simp only [look];by_cases e:k=t
   ·subst e; simp only [if_true] at h ⊢; exact ⟨h,G⟩
   ·simp only [e,if_false] at h ⊢; exact CY f T t x h
  ·simp only [G] at h;obtain ⟨O,J⟩:=CY f T t x (by simpa using h);simp only [look];have:k ≠ t:=fun e=>G (e ▸ J)
   simp only [this,if_false];exact ⟨O,J⟩
def qh {R:Type} (ops:Array Oper) (Q:R→AX→St→Prop):R→AX→St→Prop:=fun r x s=>match x with | .normal=>Q r .normal s | .panic v=>Q r (.panic v) (AA ops s) | _=>False
theorem yn {b:Act} {X:Tmp→Prop} (h:Agree X a b) (G:∀ t,X t→t ∈ NI ops) (r:Q6 φ M0 N D (look s.T) (look s.H) b w):Q6 φ M0 N D (look (AA ops s).T) (look (AA ops s).H) a w:=by
 refine ⟨?_,by rw [h.2.1]; exact r.siz,r.hp,fun t x U=>?_⟩
 ·have:=r.dfs;unfold Marks at this ⊢;rw [h.1];exact this
 ·obtain ⟨J,O⟩:=CY (fun t=>!(NI ops).contains t) s.T t x U;obtain ⟨g1,g2⟩:=r.tm t x J;refine ⟨g1,?_⟩
  have:a.tmps[t]?=b.tmps[t]?:=h.2.2 t (fun hc=>by
   have:=G t hc;simp [this] at O)
  rw [Array.getD_eq_getD_getElem?,this,← Array.getD_eq_getD_getElem?];exact g2
theorem QcX {Qh:AX→St→Prop} {H L:List Nat} {Ch:List (Nat × List Nat)} (hok:uh H L Ch ops=true) (dq:∀ s,Qh .normal s→Q .normal s) (dv:∀ v s,Qh (.panic v) s→Q (.panic v) (AA ops s)) :
  ∀ (ac:Nat) (done ch:List (Nat × List Nat)) (ah U:List Nat) (listed:Array Bool) (a b:Act) (w:World) (s:St) (φ:Nat→Nat),Ch=done++ch→U=H++(done.map (·.2)).flatten→(∀ i ∈ U,i ∉ L→i ∉ ah→listed.getD i false=true)→(∀ i ∈ ah,i ∈ U)→Mh ops L U ah ch=true→listed.size=ops.size→IR listed ops.size≤ac →
   (∀ (j:Nat) o,ops[j]?=some o→listed.getD j false=true→∀ e ∈ o.after,Region.binds .any e=true→listed.getD e.on false=true) →
   (∀ c ∈ done,listed.getD c.1 false=true)→(∀ c ∈ ch,listed.getD c.1 false=false)→Agree (JW ops U listed) a b→Q6 φ M0 N D (look s.T) (look s.H) b w→QT φ0 h0 w0 φ (look s.H) w →
   (∀ i ∈ U,listed.getD i false=false→∃ o d v,ops[i]?=some o∧o.dst=some d∧b.tmps[d]?=some v∧(execOp b.eval o).run P w=.ok (.value v) w) →
   gH P N ops Qh L ch s→wpAny P .any ops (Post N D Q φ0 M0 h0 w0) ac listed a w:=by
 simp only [uh,Ze,decide_eq_true_eq] at hok;obtain ⟨⟨⟨⟨⟨⟨⟨⟨⟨⟨c0,bx⟩,bc⟩,ar⟩,cd⟩,cj⟩,c2⟩,c6⟩,b0⟩,br⟩,dp⟩:=hok;have bi:∀ (listed:Array Bool) (i:Nat),i < listed.size→listed.getD i true=listed.getD i false:=fun listed i hi=>by simp [hi]
 have b8:∀ (X:Tmp→Prop) (a b:Act),Agree X a b→(∀ t,X t→t ∈ NI ops)→∀ c w,Post N D Qh φ0 M0 h0 w0 (.panic c) b w→Post N D Q φ0 M0 h0 w0 (.panic c) a w:=by
  rintro X a b aa hX c w' ⟨φ',x,s',g1,g2,g3,g4⟩;cases x with
  | normal=>cases g4
  | exit i=>cases g4
  | ret=>cases g4
  | panic v=>exact ⟨φ', .panic v,AA ops s',dv _ _ g1,yn aa hX g2,g3,g4⟩
 have cx:∀ a w,¬ Post N D Qh φ0 M0 h0 w0 .outgrown a w:=fun a w h=>Wh ⟨a,w,h⟩
 have c9:∀ (U:List Nat) (listed:Array Bool) (t:Tmp),JW ops U listed t→t ∈ NI ops:=by
  rintro U listed t ⟨i,_,_,hd⟩;cases Y:ops[i]? with
  | none=>rw [Y] at hd; cases hd
  | some o =>
   rw [Y] at hd;exact List.mem_filterMap.2 ⟨o,by have:=Array.mem_of_getElem? Y; simpa using this,hd⟩
 have c4:∀ (j:Nat) o,ops[j]?=some o→o.guard=none:=by
  intro j o Y;have:=List.all_eq_true.1 c6 o (by have:=Array.mem_of_getElem? Y; simpa using this);simpa using this
 have bh:∀ (listed:Array Bool),listed.size=ops.size→Region.ready .any ops listed=[]→∀ i,i < ops.size→listed.getD i false=true:=by
  intro listed a6 hr i
  induction i using Nat.strongRecOn with
  | _ i ih =>
   intro hi;cases hq:listed.getD i false with
   | true=>rfl
   | false =>
    have:i ∈ Region.ready .any ops listed:=by
     rw [mem_ready];refine ⟨by rw [bi listed i zo]; exact hq,ops[i],Array.getElem?_eq_getElem hi,fun e he hb=>?_⟩;have G:=VN b0 i ops[i] (by simp [hi]) e he hb;exact ih e.on zo zo
    rw [hr] at this;cases this
 have bk:∀ (listed:Array Bool) (ch:List (Nat × List Nat)) (U:List Nat) (a b:Act) (w:World) (s:St) (φ:Nat→Nat),(∀ i,i < ops.size→listed.getD i false=true)→(∀ c ∈ ch,listed.getD c.1 false=false)→Agree (JW ops U listed) a b →
   Q6 φ M0 N D (look s.T) (look s.H) b w→QT φ0 h0 w0 φ (look s.H) w→gH P N ops Qh L ch s→Post N D Q φ0 M0 h0 w0 .normal a w:=by
  intro listed ch U a b w s φ O ad aa r E hx
  have db:a=b:=bK aa (by
   rintro t ⟨i,hi,Z,hd⟩;cases Y:ops[i]? with
   | none=>rw [Y] at hd; cases hd
   | some o=>rw [O i (FY.1 Y).1] at Z; cases Z)
  subst db;cases ch with
  | nil=>exact ⟨φ, .normal,s,dq _ hx,r,E,rfl⟩
  | cons c ch =>
   exfalso;obtain ⟨c,hs⟩:=c;simp only [gH] at hx;cases Y:ops[c]? with
   | none=>rw [Y] at hx; exact hx
   | some o =>
    have:=ad (c,hs) List.mem_cons_self;rw [O c (FY.1 Y).1] at this;cases this
 intro ac
 induction ac with
 | zero =>
  intro done ch ah U listed a b w s φ ab av b6 bp ai a6 hu am bg ad aa r E J hx;have O:∀ i,i < ops.size→listed.getD i false=true:=fun i hi=>by rw [← bi listed i zo]; exact CK (n:=ops.size) zo i hi
  refine ⟨List.eq_nil_iff_forall_not_mem.2 fun i hi=>?_,bk listed ch U a b w s φ O ad aa r E hx⟩;obtain ⟨G,o,Y,_⟩:=mem_ready.1 hi;have cy:=(FY.1 Y).1;rw [bi listed i zo,O i cy] at G;cases G
 | succ ac ih =>
  intro done ch ah U listed a b w s φ ab av b6 bp ai a6 hu am bg ad aa r E J hx;refine ⟨fun hr=>bk listed ch U a b w s φ (bh listed a6 hr) ad aa r E hx,fun j hj=>?_⟩;obtain ⟨ck,o,Y,O⟩:=mem_ready.1 hj;have aq:j < ops.size:=(FY.1 Y).1;have au:listed.getD j false=false:=by rw [← bi listed j zo]; exact ck
  have bq:∀ cs b,o.op ≠ .select cs b:=fun cs b=>Region.noSelect_spec bx j o cs b Y
  have az:∀ tm,Region.wanted o (yielded ops tm)=true:=fun tm=>by simp [Region.wanted,c4 j o Y]
  have an:∀ i ∈ U,i ∈ qE H Ch:=by
   intro i hi;rw [av] at hi;unfold qE;rw [ab,List.map_append,List.flatten_append,← List.append_assoc];exact List.mem_append_left _ hi
  have eL:∀ k,(listed.setIfInBounds j true).getD k false=(listed.getD k false||decide (k=j)):=by
   intro k;by_cases bw:k=j
   ·subst bw;have:k < listed.size:=by omega
    simp [this]
   ·rw [getD_set_ne false (Ne.symm bw)];simp [bw]
  have cc:IR (listed.setIfInBounds j true) ops.size≤ac:=by
   have:=PS ck ops.size;rw [if_pos aq] at this;omega
  have bo:∀ (k:Nat) ok,ops[k]?=some ok→(listed.setIfInBounds j true).getD k false=true→∀ e ∈ ok.after,Region.binds .any e=true→(listed.setIfInBounds j true).getD e.on false=true:=by
   intro k ok hk Z e he hb;rw [eL] at Z ⊢;simp only [Bool.or_eq_true,decide_eq_true_eq] at Z ⊢;rcases Z with Z | Z
   ·exact .inl (am k ok hk Z e he hb)
   ·subst Z;rw [Y] at hk;cases hk;exact .inl (O e he hb)
  have bj:∀ t ∈ o.looksAt ops,¬ JW ops U listed t∨∃ d,o.dst=some d∧t=d∧j ∈ U:=by
   intro t ht;by_cases hc:JW ops U listed t;rotate_left
   ·exact .inl hc
   obtain ⟨i,hi,Z,hd⟩:=hc;have G:=List.all_eq_true.1 br i (an i hi);rw [hd] at G;have h2:=List.all_eq_true.1 G j (by simp [aq]);simp only [Y,Bool.or_eq_true,beq_iff_eq,Ze,Bool.not_eq_true',bne_iff_ne] at h2;rcases h2 with rfl | ⟨_,h2 | h2⟩
   ·rw [Y] at hd;exact .inr ⟨t,hd,rfl,hi⟩
   ·obtain ⟨e,he,hb,bu⟩:=FC h2;have:=O e he hb;rw [bu,Z] at this;cases this
   ·simp [ht] at h2
  have a8:=List.all_eq_true.1 c0 j (by simp [aq]);simp only [Bool.or_eq_true,List.contains_iff_mem] at a8;by_cases aj:j ∈ qE H Ch
  ·
   have bf:j ∉ Ch.map (·.1):=by
    have:=List.all_eq_true.1 cj j aj;simpa using this
   have ay:j ∈ U:=by
    unfold qE at aj;rw [ab,List.map_append,List.flatten_append,← List.append_assoc] at aj;rcases List.mem_append.1 aj with G | G
    ·rw [av]; exact G
    ·exfalso;obtain ⟨hs,h2,h3⟩:=List.mem_flatten.1 G;obtain ⟨⟨c,cq⟩,h4,h5⟩:=List.mem_map.1 h2;simp only at h5;subst h5;have hw:=Az U ah ch ai c cq h4 j h3;have:=XB am _ j c o Y O hw;rw [ad (c,cq) h4] at this;cases this
   obtain ⟨o',d,v,cz,hd,hv,cm⟩:=J j ay au;rw [Y] at cz;cases cz;have bz:d ∉ o.looksAt ops:=qG Y hd (qE H Ch) bc aj
   have b1:∀ t ∈ o.looksAt ops,¬ JW ops U listed t:=by
    intro t ht;rcases bj t ht with G | ⟨d',G,rfl,_⟩
    ·exact G
    ·rw [hd] at G;cases G;exact absurd ht bz
   unfold wpOp;simp only [Y,az,if_true];refine .inl ?_;unfold Oper.wp;rw [XV (ops:=ops) aa bq b1,cm];simp only [Oper.upon];refine ih done ch ah U (listed.setIfInBounds j true) (a.put o.dst v) b w s φ ab av (fun i hi G h2=>by rw [eL,b6 i hi G h2]; rfl) bp ai (by simpa using a6) cc bo (fun c hc=>by rw [eL,bg c hc]; rfl) ?_ ?_ r E ?_ hx
   ·intro c hc;rw [eL,ad c hc];have:c.1 ≠ j:=fun e=>bf (by rw [ab,← e]; exact List.mem_map.2 ⟨c,List.mem_append_right _ hc,rfl⟩)
    simp [this]
   ·refine ⟨by rw [← aa.1,hd]; rfl,by rw [← aa.2.1,hd]; simp [Act.put],fun t ht=>?_⟩;rw [hd];by_cases b3:d=t
    ·subst b3
     have c3:d < a.tmps.size:=by
      rw [aa.2.1];exact (FY.1 hv).1
     rw [hv];simp [Act.put,c3]
    ·rw [← aa.2.2 t (fun hc=>ht (by
      obtain ⟨i,hi,Z,ak⟩:=hc;refine ⟨i,hi,?_,ak⟩;rw [eL,Z];have:i ≠ j:=fun e=>b3 (by rw [e,Y] at ak; exact Option.some.inj (hd.symm.trans ak))
      simp [this]))]
     simp [Act.put,Array.getElem?_setIfInBounds_ne b3]
   ·intro i hi Z;refine J i hi ?_;rw [eL] at Z;simp only [Bool.or_eq_false_iff] at Z;exact Z.1
  ·
   have bf:j ∈ Ch.map (·.1):=a8.resolve_left aj;have ay:j ∉ U:=fun h=>aj (an j h)
   have b9:∃ hs r,ch=(j,hs) :: r:=by
    have bm:=bf;rw [ab,List.map_append] at bm
    have cp:j ∈ ch.map (·.1):=by
     rcases List.mem_append.1 bm with G | G
     ·obtain ⟨c,hc,rfl⟩:=List.mem_map.1 G;rw [bg c hc] at au; cases au
     ·exact G
    cases ch with
    | nil=>cases cp
    | cons c r =>
     obtain ⟨c,hs⟩:=c;by_cases cl:j=c
     ·exact ⟨hs,r,by rw [cl]⟩
     ·exfalso;have dl:j ∈ r.map (·.1):=(List.mem_cons.1 cp).resolve_left cl;obtain ⟨r1,r2,bl⟩:=List.append_of_mem dl;obtain ⟨q,x,cn⟩:∃ q x,c :: r1=q++[x]:=⟨(c :: r1).dropLast,(c :: r1).getLast zq,(List.dropLast_concat_getLast zq).symm⟩
      have dc:Ch.map (·.1)=(done.map (·.1)++q)++x :: j :: r2:=by
       rw [ab,List.map_append,List.map_cons,bl,show c :: (r1++j :: r2)=(c :: r1)++j :: r2 from rfl,cn];simp
      rw [dc] at ar;have G:=CX _ _ _ _ ar;rw [Y] at G;obtain ⟨e,he,hb,bu⟩:=FC (o:=o) (i:=x) G;have h2:=O e he hb
      have dt:x ∈ ((c,hs) :: r).map (·.1):=by
       rw [List.map_cons,bl,show c :: (r1++j :: r2)=(c :: r1)++j :: r2 from rfl,cn]; simp
      obtain ⟨y,hy,rfl⟩:=List.mem_map.1 dt;have h3:=ad y hy;rw [bu,h3] at h2;cases h2
   obtain ⟨hs,rest,rfl⟩:=b9
   have bt:∀ t ∈ o.looksAt ops,¬ JW ops U listed t:=by
    intro t ht;rcases bj t ht with G | ⟨d',_,_,G⟩
    ·exact G
    ·exact absurd G ay
   have bn:∀ t,o.dst=some t→¬ JW ops U listed t:=by
    rintro t ht ⟨i,hi,Z,hd⟩;have G:=List.all_eq_true.1 br i (an i hi);rw [hd] at G;have h2:=List.all_eq_true.1 G j (by simp [aq]);simp only [Y,Bool.or_eq_true,beq_iff_eq,Ze,Bool.not_eq_true',bne_iff_ne] at h2;rcases h2 with rfl | ⟨h2,_⟩
    ·exact ay hi
    ·exact h2 ht
   simp only [gH,Y] at hx;simp only [Mh,Ze] at ai;unfold wpOp;simp only [Y,az,if_true];refine .inl ?_;have hw:=BO hx r;have df:=Go.Abs.Oper.wp_mono2 (K':=fun a' w'=>∃ φ' s',(WT P ops (XW ops L j) s'∧∃ ba,RB P N ops hs s'=some ba∧gH P N ops Qh L rest ba)∧Q6 φ' M0 N D (look s'.T) (look s'.H) a' w'∧QT φ (look s.H) w φ' (look s'.H) w') (Q':=Post N D Qh φ0 M0 h0 w0) hw (fun _ _ h=>h) (fun e a' w' p=>p.trans E);refine Oper.wp_mono ?_ (qB (ops:=ops) aa bq bt bn (b8 _ _ _ aa (c9 _ _)) cx df);rintro a' w' ⟨b',bd,co,φ',s',⟨dd,ba,b4,c5⟩,r',E'⟩
   have bb:∀ i ∈ U,i ∉ L→listed.getD i false=true:=by
    intro i hi al;by_cases be:i ∈ ah
    ·have G:=List.all_eq_true.1 ai.1.1.1 i be;simp only [Bool.or_eq_true,List.contains_iff_mem] at G;rcases G with G | G
     ·exact absurd G al
     ·exact XB am _ j i o Y O G
    ·exact b6 i hi al be
   have a7:qE H Ch=U++(hs++(rest.map (·.2)).flatten):=by
    unfold qE;rw [ab,av,List.map_append,List.flatten_append,List.map_cons,List.flatten_cons,List.append_assoc]
   have ao:=bc;rw [a7] at ao;obtain ⟨du,dm⟩:=qF U _ ao;have dj:=NH _ _ dm;obtain ⟨b2,rb,c7,af,cg⟩:=IW bx hs s' ba b' w' dj b4 r'
   have c1:∀ i ∈ hs,listed.getD i false=false∧i ≠ j:=by
    intro i hi;have hw:=List.all_eq_true.1 ai.1.1.2 i hi;refine ⟨?_,fun e=>aj (by rw [a7,← e]; exact List.mem_append_right _ (List.mem_append_left _ hi))⟩;cases hq:listed.getD i false with
    | false=>rfl
    | true =>
     exfalso;obtain ⟨oi,_,_,ae,_⟩:=cg i hi;have:=XB am _ i j oi ae (fun e he hb=>am i oi ae hq e he hb) hw;rw [au] at this;cases this
   have de:∀ t,QaD ops hs t→JW ops (U++hs) (listed.setIfInBounds j true) t:=by
    rintro t ⟨i,hi,hd⟩;refine ⟨i,List.mem_append_right _ hi,?_,hd⟩;rw [eL,(c1 i hi).1];simp [(c1 i hi).2]
   have dh:∀ t,JW ops U listed t→JW ops (U++hs) (listed.setIfInBounds j true) t:=by
    rintro t ⟨i,hi,Z,hd⟩;refine ⟨i,List.mem_append_left _ hi,?_,hd⟩;rw [eL,Z];have:i ≠ j:=fun e=>ay (e ▸ hi)
    simp [this]
   refine ih (done++[(j,hs)]) rest hs (U++hs) (listed.setIfInBounds j true) a' b2 w' ba φ' (by rw [ab]; simp) (by rw [av,List.map_append,List.flatten_append]; simp) ?_ (fun i hi=>List.mem_append_right _ hi) ai.2 (by simpa using a6) cc bo (fun c hc=>by
    rw [eL];rcases List.mem_append.1 hc with G | G
    ·rw [bg c G]; rfl
    ·rw [List.mem_singleton] at G;simp [G]) ?_ ⟨bd.1.trans af.1,bd.2.1.trans af.2.1,fun t ht=>(bd.2.2 t (fun hc=>ht (dh t hc))).trans (af.2.2 t (fun hc=>ht (de t hc)))⟩ rb (by rw [c7]; exact E.trans E') ?_ c5
   ·intro i hi al be;rcases List.mem_append.1 hi with hi | hi
    ·rw [eL,bb i hi al]; rfl
    ·exact absurd hi be
   ·intro c hc;rw [eL,ad c (List.mem_cons_of_mem _ hc)]
    have:c.1 ≠ j:=by
     intro e;rw [ab,List.map_append,List.map_cons] at cd;have h2:=(List.nodup_append.1 cd).2.1;exact (List.nodup_cons.1 h2).1 (List.mem_map.2 ⟨c,hc,e⟩)
    simp [this]
   ·intro i hi Z;rcases List.mem_append.1 hi with aw | dn
    rotate_left
    ·exact cg i dn
    rw [eL] at Z;simp only [Bool.or_eq_false_iff] at Z
    have al:i ∈ L:=by
     apply Classical.byContradiction;intro hc;rw [bb i aw hc] at Z;cases Z.1
    obtain ⟨oi,d,v,ae,ak,da,b7⟩:=J i aw Z.1;have ce:b'.tmps[d]?=some v:=by rw [co d (fun e=>bn d e ⟨i,aw,Z.1,by rw [ae]; exact ak⟩)]; exact da
    have cw:∀ t,t ∈ oi.looksAt ops∨t=d→¬ QaD ops hs t:=by
     rintro t ht ⟨k,hk,dk⟩;obtain ⟨o2,d2,G,h2,h3⟩:=du i aw k (List.mem_append_left _ hk);rw [ae] at G;cases G;rw [ak] at h2;cases h2;obtain ⟨h4,h5⟩:=h3 t dk;rcases ht with ht | ht
     ·exact h4 ht
     ·exact h5 ht
    have bv:∀ cs b,oi.op ≠ .select cs b:=fun cs b=>Region.noSelect_spec bx i oi cs b ae
    refine ⟨oi,d,v,ae,ak,by rw [← af.2.2 d (cw d (.inr rfl))]; exact ce,?_⟩;rw [← XV (ops:=ops) af bv (fun t ht=>cw t (.inl ht))]
    have di:Je ops.size ops j i=false:=by
     cases hq:Je ops.size ops j i with
     | false=>rfl
     | true =>
      have:=XB am _ j i o Y O hq;rw [Z.1] at this;cases this
    have cr:Je ops.size ops i j=false:=by
     have:=List.all_eq_true.1 ai.1.2 i aw;simpa using this
    have G:=dd i (List.mem_filter.2 ⟨al,by rw [di,cr]; rfl⟩);unfold Gp at G;simp only [ae] at G;split at G
    ·rename_i x d' ax b5
     have ca:b.eval x=v:=by
      simp [execOp,ax] at b7;exact b7
     have dw:b'.eval x=b.eval x:=by
      cases x with
      | tmp t =>
       have hne:o.dst ≠ some t:=by
        intro e;have h2:=List.all_eq_true.1 dp i al;simp only [ae,ax,Bool.true_and,Bool.not_true,Bool.or_false] at h2;have h3:=List.all_eq_true.1 h2 j bf;simp only [Y,QJ,e,Bool.not_eq_true'] at h3;have:t ∈ oi.looksAt ops:=List.mem_append_left _ (List.mem_filterMap.2 ⟨.tmp t,by simp [ax,Op.operands],rfl⟩);simp [this] at h3
       simp only [Act.eval];rw [Array.getD_eq_getD_getElem?,Array.getD_eq_getD_getElem?,co t hne]
      | _=>rfl
     simp [execOp,ax,dw,ca]
    ·rename_i d' b5 ax;obtain ⟨x,h2,h3,h4⟩:=G;obtain ⟨v',h5,h6⟩:=qD r' h2;rw [ak] at b5;cases b5;have h7:=(r'.tm d x h3).2;rw [Array.getD_eq_getD_getElem?,ce] at h7;have:=ym h4 h6 h7;rw [h5,this];rfl
    ·cases G
theorem QfT {R:Type} {r0:R} {Q:R→AX→St→Prop} (H L:List Nat) (Ch:List (Nat × List Nat)) (hm:P.follows .mixedOrders=true) (ad:UO ops=true) (hok:uh H L Ch ops=true) (h1:RB P N ops H s=some s1)
  (h:gH P N ops (qh ops Q r0) L Ch s1):Ex P N ro (.region id ops true) s (Q r0):=by
 intro φ M0 D a w r;refine wpIn_region_any hm (Nw ad Wh _ _ _ _ ?_);have hd:QT φ (look s.H) w φ (look s.H) { w with drawn:=w.drawn+1 }:=BD rfl rfl rfl rfl;have r1:Q6 φ M0 N D (look s.T) (look s.H) a { w with drawn:=w.drawn+1 }:=r.keep hd (Ri rfl) (Sd (w:=w) rfl hd r.hp);have J:=hok;simp only [uh,Ze,decide_eq_true_eq] at J;obtain ⟨⟨⟨⟨⟨⟨⟨⟨⟨⟨ah,ac⟩,U⟩,aa⟩,aj⟩,af⟩,G⟩,ak⟩,ab⟩,ai⟩,al⟩:=J;obtain ⟨b,rb,hH,Y,hJ⟩:=IW ac H s s1 a _ (NH H _ U) h1 r1
 have O:∀ (j:Nat),(Array.replicate ops.size false).getD j false=false:=by
  intro j;rcases Nat.lt_or_ge j ops.size with h | h
  ·simp [h]
  ·simp [h]
 have Z:∀ n,IR (Array.replicate ops.size false) n≤n:=by
  intro n
  induction n with
  | zero=>simp [IR]
  | succ n ih=>simp only [IR]; split <;> omega
 have h2:=QcX (D:=D) (φ0:=φ) (h0:=look s.H) (w0:=w) (M0:=M0) hok (Q:=Q r0) (Qh:=qh ops Q r0) (fun _ h=>h) (fun _ _ h=>h) ops.size [] Ch H H (Array.replicate ops.size false) a b { w with drawn:=w.drawn+1 } s1 φ rfl zq (fun i hi _ hc=>absurd hi hc) (fun i hi=>hi) G zq (Z _) (fun j o _ hj=>by rw [O] at hj; cases hj) (fun c hc=>by cases hc) (fun c _=>O c.1)
  ⟨Y.1,Y.2.1,fun t ht=>Y.2.2 t (fun hc=>ht (by obtain ⟨i,hi,ae⟩:=hc; exact ⟨i,hi,O i,ae⟩))⟩ rb (by rw [hH]; exact hd) (fun i hi _=>hJ i hi) h
 refine XA ?_ _ _ _ _ h2;exact fun e a' w' h=>h
structure zN {R:Type} (a:Option R) (P:Program) (N:Nat) (ops:Array Oper) (Q:R→AX→St→Prop) (L:List Nat) (Ch:List (Nat × List Nat)) (s:St):Prop where
 intro ::
 h:∀ r,a=some r→gH P N ops (qh ops Q r) L Ch s
def fKh {R:Type} (P:Program) (N:Nat) (ops:Array Oper) (Q:R→AX→St→Prop) (L:List Nat) (Ch:List (Nat × List Nat)) (c:Nat) (hs:List Nat):R→St→Prop:=fun r s=>WT P ops (XW ops L c) s∧∃ G,RB P N ops hs s=some G∧gH P N ops (qh ops Q r) L Ch G
section
variable {R V E:Type} {a a1 a2:Option R} {P:Program} {N:Nat} {ro:Option Nat} {id:Nat} {ops:Array Oper} {o:Oper} {s s1 s':St} {Q:R→AX→St→Prop} {f:FuncId} {args args':List AV} {dst:Option Tmp} {L hs:List Nat} {Ch:List (Nat × List Nat)} {c i:Nat}
theorem KA (H L:List Nat) (Ch:List (Nat × List Nat)) (U:P.follows .mixedOrders=true) (J:UO ops=true)   (h:zN a P N ops Q L Ch ((RB P N ops H s).getD s))(hok:uh H L Ch ops=true:=by kernel_rfl)(O:(RB P N ops H s).isSome=true:=by kernel_rfl):QO a P N ro (.region id ops true) s Q:=by
 obtain ⟨s1,e⟩:=Td.1 O;rw [e] at h;exact ⟨fun r G=>QfT H L Ch U J hok e (h.h r G)⟩
theorem Qg:WT P ops [] s:=fun i hi=>by cases hi
theorem Qn (O:Gp P ops i s) (J:WT P ops L s):WT P ops (i :: L) s:=fun j G=>by
 rcases List.mem_cons.1 G with rfl | G
 ·exact O
 ·exact J j G
def QaE (ops:Array Oper) (i:Nat):Bool:=match ops[i]? with | some o=>(match o.op,o.dst with | .move _,some _=>true | _,_=>false) | none=>false
theorem Mj (h:QaE ops i=true):Gp P ops i s:=by
 unfold QaE at h;unfold Gp;cases ho:ops[i]? with
 | none=>rw [ho] at h; cases h
 | some o =>
  rw [ho] at h;dsimp only at h ⊢;cases h1:o.op <;> rw [h1] at h <;> cases h2:o.dst <;> rw [h2] at h <;> first | (cases h; done) | trivial
theorem qH (x:AV) (h:(ops[i]?).bind (fun o=>o.dst.bind fun d=>(qC P o (look s.T) (look s.H)).bind fun y=>(look s.T d).map fun z=>(y,z))=some (x,x)) (hx:QaC (look s.H) x):Gp P ops i s:=by
 unfold Gp;cases ho:ops[i]? with
 | none=>rw [ho] at h; cases h
 | some o =>
  rw [ho,QJ] at h;cases hd:o.dst with
  | none=>rw [hd] at h; cases h
  | some d =>
   rw [hd,QJ] at h;obtain ⟨y,Y,Z⟩:=Option.bind_eq_some_iff.1 h;obtain ⟨z,O,J⟩:=GK.1 Z;simp only [Prod.mk.injEq] at J;obtain ⟨rfl,rfl⟩:=J;dsimp only;rw [hd];split
   ·trivial
   ·rename_i G U;cases G;exact ⟨_,Y,O,hx⟩
   ·rename_i G; cases G
theorem Qz (x:AV)  (G:vV x=true)(h:(ops[i]?).bind (fun o=>o.dst.bind fun d=>(qC P o (look s.T) (look s.H)).bind fun y=>(look s.T d).map fun z=>(y,z))=some (x,x):=by kernel_rfl):Gp P ops i s:=qH x h (.inl G)
theorem Jf {S t ty:Nat}   (hS:Nat.ble 1 S=true)(h:(ops[i]?).bind (fun o=>o.dst.bind fun d=>(qC P o (look s.T) (look s.H)).bind fun y=>(look s.T d).map fun z=>(y,z))=some (.tsl S es t, .tsl S es t):=by kernel_rfl)(G:look s.H t=some (.arr ty S es.length):=by kernel_rfl):Gp P ops i s:=qH _ h (.inr ⟨S,es,t,ty,rfl,G,Nat.le_of_ble_eq_true hS⟩)
theorem Ww (h:Zt a Q .normal s):zN a P N ops Q L [] s:=⟨fun r G=>h.h r G⟩
theorem kh (G:List Nat)  (O:WT P ops G s)  (h:zN a P N ops Q L Ch ((RB P N ops hs s).getD s))(U:XW ops L c=G:=by kernel_rfl)(Y:(RB P N ops hs s).isSome=true:=by kernel_rfl):Dv a (fKh P N ops Q L Ch c hs) s:=by
 obtain ⟨s1,e⟩:=Td.1 Y;rw [e] at h;exact ⟨fun r J=>⟨U ▸ O,s1,e,h.h r J⟩⟩
def RF (P:Program) (N:Nat) (ops:Array Oper) (c:Nat) (s:St):Option St:=(ops[c]?).bind (fun o=>match o.op with | .pick ..=>none | .panic _=>none | .call ⟨.value _,_,_⟩=>none | _=>if Ky N o.dst then (WW P o (look s.T) (look s.H)).map (fun u=>XK s o.dst u) else none)
theorem Yq (Z:List Nat)   (U:WT P ops Z ((RF P N ops c s).getD s)) (h:zN a P N ops Q L Ch ((RF P N ops c s).getD s))(hL:XW ops L c=Z:=by kernel_rfl)(h0:(RF P N ops c s).isSome=true:=by kernel_rfl):zN a P N ops Q L ((c,[]) :: Ch) s:=by
 obtain ⟨s',G⟩:=Td.1 h0;rw [G] at U h;simp only [Option.getD_some] at U h;unfold RF at G;refine ⟨fun r hr=>?_⟩;simp only [gH];cases ho:ops[c]? with
 | none=>rw [ho] at G; cases G
 | some o =>
  simp only [ho,QJ] at G ⊢;unfold XP;split at G
  ·cases G
  ·cases G
  ·cases G
  ·rename_i n1 n2 n3;split at G;rotate_left
   ·cases G
   rename_i Y;obtain ⟨u,hu,rfl⟩:=GK.1 G
   have key:O1 N o s (fun s'=>WT P ops (XW ops L c) s'∧∃ O,RB P N ops [] s'=some O∧gH P N ops (qh ops Q r) L Ch O) (WW P o (look s.T) (look s.H)):=by
    rw [hu];exact ⟨Y,hL ▸ U,_,rfl,h.h r hr⟩
   split
   ·rename_i J; exact absurd J (n1 _ _ _)
   ·rename_i J; exact absurd J (n2 _)
   ·rename_i J; exact absurd J (n3 _ _ _)
   ·exact .inl key
theorem ZF   (h:NB a P N f args dst s (fKh P N ops Q L Ch c hs) (qh ops Q))(hf:(ops[c]?).bind (fun o=>(ZO (look s.T) o.op).map fun p=>(p.1,p.2,o.dst))=some (f,args,dst):=by kernel_rfl)(hb:K7 P f=true:=by kernel_rfl):zN a P N ops Q L ((c,hs) :: Ch) s:=by
 refine ⟨fun r O=>?_⟩;simp only [gH];cases ho:ops[c]? with
 | none=>rw [ho] at hf; cases hf
 | some o =>
  simp only [ho,QJ] at hf ⊢;obtain ⟨⟨f0,G⟩,U,J⟩:=GK.1 hf;simp only [Prod.mk.injEq] at J;obtain ⟨rfl,rfl,rfl⟩:=J;exact Xy U hb (h.h r O)
theorem ui {v:AV} (s':St) (e:AA ops s=s') (h:Zt a Q (.panic v) s'):Zt a (qh ops Q) (.panic v) s:=by
 subst e;exact ⟨fun r G=>h.h r G⟩
theorem SG {b:Bool} (U:List Nat) (Y:ops[c]?=some o)   (hu:b=true→WW P o (look s.T) (look s.H)=some u) (Z:b=true→WT P ops U (XK s o.dst u)) (h:zN a P N ops Q L Ch (XK s o.dst u))(hL:XW ops L c=U:=by kernel_rfl)(hp:(plain o.op&&Ky N o.dst)=true:=by kernel_rfl):zN (cond b a none) P N ops Q L ((c,[]) :: Ch) s:=by
 cases b with
 | false=>exact ⟨fun r O=>by cases O⟩
 | true =>
  refine ⟨fun r O=>?_⟩;simp only [Ze] at hp;simp only [gH,Y];unfold XP
  have key:O1 N o s (fun s'=>WT P ops (XW ops L c) s'∧∃ J,RB P N ops [] s'=some J∧gH P N ops (qh ops Q r) L Ch J) (WW P o (look s.T) (look s.H)):=by
   rw [hu rfl];exact ⟨hp.2,hL ▸ Z rfl,_,rfl,h.h r O⟩
  split
  ·rename_i G; rw [G] at hp; cases hp.1
  ·rename_i G; rw [G] at hp; cases hp.1
  ·rename_i G; rw [G] at hp; cases hp.1
  ·exact .inl key
theorem Qhy {m:Option V} {k:V→Option R} {X:V→AV} {K:R→St→Prop} (C:List RoC) (hc:∀ v,m=some v→QB P f args' (.ret (X v))) (U:vU (look s.H) C args=some args') (hb:(Ky N dst&&YQ args')=true) (Y:∀ v,flat (X v)=true)
  (h:∀ v,Dv (k v) K (St.put s dst (X v))):NB (m.bind k) P N f args dst s K Q:=by
 refine ⟨fun r J=>?_⟩;obtain ⟨v,O,G⟩:=Option.bind_eq_some_iff.1 J;simp only [Ze] at hb;exact vO (hc v O) (Md U) hb.2 (ZL hb.1) ⟨Y v,(h v).h r G⟩
end
def Eb {K V:Type} (eq:K→K→Bool) (k:K):List (K × V)→Option V
 | []=>none
 | (k',v) :: r=>bif eq k k' then some v else Eb eq k r
def FD {K V:Type} (eq:K→K→Bool) (k:K) (v:V):List (K × V)→List (K × V)
 | []=>[(k,v)]
 | (k',G) :: r=>bif eq k k' then (k,v) :: r else (k',G) :: FD eq k v r
def CZ {K V:Type} (eq:K→K→Bool) (k:K) (z:V) (m:List (K × V)):V:=(Eb eq k m).getD z
def Qhz {K V:Type} (eq:K→K→Bool) (k:K) (m:List (K × V)):Bool:=(Eb eq k m).isSome
def qI {K V:Type} (ke:K→Value) (ve:V→PV) (m:List (K × V)):List (Value × PV):=m.map fun p=>(ke p.1,ve p.2)
section
variable {P:Program} {o:Oper} {T:Nat→Option AV} {h:QG} {K V:Type} {kt e t:TypeId} {ke:K→Value} {ve:V→PV} {eq:K→K→Bool}
theorem vW (Z:∀ k,Cm P kt (ke k)=true) (he:∀ a b,eqV P 4 kt (ke a) (ke b)=some (eq a b)) (k:K):∀ (m:List (K × V)) (i:Nat),
  (∃ j,Uh P kt (ke k) i (qI ke ve m)=some ((Eb eq k m).map fun v=>(j,ve v))∧(Eb eq k m ≠ none→∀ v,qI ke ve (FD eq k v m)=(qI ke ve m).set (j - i) (ke k,ve v)∧i≤j))∧(Eb eq k m=none→∀ v,qI ke ve (FD eq k v m)=qI ke ve m++[(ke k,ve v)])
 | [],i=>⟨⟨0,rfl,fun h=>absurd rfl h⟩,fun _ v=>rfl⟩
 | (k',G) :: m,i=>by
  obtain ⟨⟨j,h1,h2⟩,h3⟩:=vW Z he k m (i+1);have J:Uh P kt (ke k) i (qI ke ve ((k',G) :: m))=match (if Cm P kt (ke k') then eqV P 4 kt (ke k) (ke k') else none) with | some true=>some (some (i,ve G)) | some false=>Uh P kt (ke k) (i+1) (qI ke ve m) | none=>none:=rfl
  have O:Eb eq k ((k',G) :: m)=bif eq k k' then some G else Eb eq k m:=rfl
  have Y:∀ v,FD eq k v ((k',G) :: m)=bif eq k k' then (k,v) :: m else (k',G) :: FD eq k v m:=fun _=>rfl
  rw [Z k',if_pos rfl,he] at J;cases hq:eq k k'
  ·rw [hq] at J O;simp only [hq,cond_false] at J O Y;rw [O];refine ⟨⟨j,by rw [J,h1],fun U v=>?_⟩,fun U v=>?_⟩
   ·obtain ⟨g1,g2⟩:=h2 U v;refine ⟨?_,by omega⟩;rw [Y,show qI ke ve ((k',G) :: FD eq k v m)=(ke k',ve G) :: qI ke ve (FD eq k v m) from rfl,g1,show qI ke ve ((k',G) :: m)=(ke k',ve G) :: qI ke ve m from rfl,show j - i=(j - (i+1))+1 from by omega];rfl
   ·rw [Y,show qI ke ve ((k',G) :: FD eq k v m)=(ke k',ve G) :: qI ke ve (FD eq k v m) from rfl,h3 U v];rfl
  ·rw [hq] at J O;simp only [hq,cond_true] at J O Y;rw [O];refine ⟨⟨i,J,fun _ v=>⟨?_,Nat.le_refl _⟩⟩,fun U=>by cases U⟩;rw [Y,Nat.sub_self];rfl
theorem QfU {rsv:Option Operand} (G:o.op=.makeMap t none) (J:o.dst=some d) (hb:h d=none):WW P o T h=some (.mv d,some (d, .mp []),[d]):=by
 simp [WW,G,CB,J,hb]
theorem QaF {m:List (K × V)} {k:K} {z0:V} (ho:o.op=.lookup t x ix ok) (ht:P.underlying t=some (.map kt e)) (hx:Za T x=some (.mv b)) (hi:(Za T ix).bind Sg=some (ke k)) (hb:h b=some (.mp (qI ke ve m))) (aa:(P.underlying kt).isSome=true)
  (Y:∀ k,Cm P kt (ke k)=true) (he:∀ a b,eqV P 4 kt (ke a) (ke b)=some (eq a b)) (hz:((P.info? e).bind (·.zero)).map zu=some (avP (ve z0))):WW P o T h=some (CE ok (avP (ve (CZ eq k z0 m))) (Qhz eq k m),none,[b]):=by
 obtain ⟨kv,O,U⟩:=Option.bind_eq_some_iff.1 hi;obtain ⟨kd,J⟩:=Td.1 aa;obtain ⟨z,Z,ab⟩:=GK.1 hz;obtain ⟨⟨j,G,h2⟩,h3⟩:=vW (P:=P) (kt:=kt) (ke:=ke) (ve:=ve) (eq:=eq) Y he k m 0;unfold CZ Qhz;cases hg:Eb eq k m with
 | none =>
  rw [hg] at G;simp only [Option.map_none] at G;simp [WW,Ti,ho,J4,ht,hx,O,hb,U,J,Y,G,Z,ab]
 | some v =>
  rw [hg] at G;simp only [Option.map_some] at G;simp [WW,Ti,ho,J4,ht,hx,O,hb,U,J,Y,G]
theorem QaG {m:List (K × V)} {k:K} {v:V} (ho:o.op=.mapUpdate t x ix y) (ht:P.underlying t=some (.map kt e)) (hx:Za T x=some (.mv b)) (hi:(Za T ix).bind Sg=some (ke k)) (hy:(Za T y).bind pvO=some (ve v)) (hb:h b=some (.mp (qI ke ve m))) (aa:(P.underlying kt).isSome=true)
  (hk:∀ k,Cm P kt (ke k)=true) (he:∀ a b,eqV P 4 kt (ke a) (ke b)=some (eq a b)):WW P o T h=some (.p (.val undef),some (b, .mp (qI ke ve (FD eq k v m))),[b]):=by
 obtain ⟨kv,Y,Z⟩:=Option.bind_eq_some_iff.1 hi;obtain ⟨kd,O⟩:=Td.1 aa;obtain ⟨y0,U,J⟩:=Option.bind_eq_some_iff.1 hy;obtain ⟨⟨j,G,h2⟩,h3⟩:=vW (P:=P) (kt:=kt) (ke:=ke) (ve:=ve) (eq:=eq) hk he k m 0;cases hg:Eb eq k m with
 | none =>
  rw [hg] at G;simp only [Option.map_none] at G;rw [h3 hg v];simp [WW,Ti,ho,YO,ht,hx,Y,U,J,hb,Z,O,hk,G]
 | some v0 =>
  rw [hg] at G;simp only [Option.map_some] at G;rw [(h2 (by rw [hg]; simp) v).1];simp [WW,Ti,ho,YO,ht,hx,Y,U,J,hb,Z,O,hk,G]
end
section
variable {R V E:Type} {a a1 a2:Option R} {P:Program} {N:Nat} {ro:Option Nat} {ops:Array Oper} {o:Oper} {l:List Oper} {s s' s0 s1:St} {Q:R→AX→St→Prop} {K:R→St→Prop} {f g:FuncId} {args args':List AV} {dst:Option Tmp}
def iR (hc:List (Nat × Blk)) (ρ:Nat→Nat) (s:St) (dst:Option Tmp) (K:R→St→Prop) (Q:R→AX→St→Prop) (r:R):Zz→QG→Prop:=fun x h'=>∃ hc',h'=look hc'∧Fy ρ hc hc' s.H∧Qar (K r) (Q r) s dst ρ hc' x
def dI (P:Program) (fn:Func) (hc:List (Nat × Blk)) (N:Nat) (g:FuncId) (G:List (Nat × Nat)) (ρ:Nat→Nat) (s:St) (dst:Option Tmp) (K:R→St→Prop) (Q:R→AX→St→Prop):R→AX→St→Prop :=
 fun r=>bG P fn hc N g (Rw G) (iR hc ρ s dst K Q r)
def bL (T:List (Nat × AV)):List Tmp→List (Nat × Nat)→Bool
 | [],[]=>true
 | t :: ts,p :: L=>(match look T t with | some (.ptr b 0)=>b == p.1 | _=>false)&&bL T ts L
 | _,_=>false
theorem qJ {T:List (Nat × AV)}:∀ {ts:List Tmp} {L:List (Nat × Nat)},bL T ts L=true→ts.map (look T)=L.map fun p=>some (.ptr p.1 0)
 | [],[],_=>rfl
 | [],_ :: _,h=>by cases h
 | _ :: _,[],h=>by cases h
 | t :: ts,p :: L,h=>by
  simp only [bL,Ze] at h;simp only [List.map_cons,List.cons.injEq];refine ⟨?_,qJ h.2⟩;have G:=h.1;split at G
  ·rename_i b J;rw [J,eq_of_beq G]
  ·cases G
def QcY:List (Nat × Blk)→Bool
 | []=>true
 | (_,k) :: l=>(match k.ob with | none=>true | some .mp=>true | _=>false)&&QcY l
theorem uj {ρ:Nat→Nat}:∀ {H:List (Nat × Blk)},QcY H=true→∀ c k x,look H c=some k→k.ob=some x→(some x).map (zK ρ)=some x
 | [],_,c,k,x,G,_=>by simp [look] at G
 | (b,Y) :: H,J,c,k,x,G,U=>by
  simp only [QcY,Ze] at J;simp only [look] at G;by_cases e:b=c
  ·simp only [e,if_true,QN] at G;subst G;have O:=J.1;rw [U] at O;cases x with
   | mp=>rfl
   | lp=>cases O
  ·rw [if_neg e] at G;exact uj J.2 c k x G U
def QaH (tbs:List Tmp) (G:List (Nat × Nat)) (s:St):Bool:=bL s.T tbs G&&QfJ G s.H&&QcY s.H
theorem qK (L:List (Nat × Nat)) (C:List Conv) (cb:List (Nat × List Conv)) (F:BU fn g) (J:List (Nat × Nat)) (hf:P.funcs[f]?=some fn) (hn:fn.ntmps=n) (hl:Nat.ble args'.length n=true)
  (G:qm C args=Vu (VG L) args') (hok:JL N dst (VG L) hc args'=true) (U:Rz s.H (VG L) cb hc=hc.map (fun p=>some (ZM (VG L) p.2))) (aa:K7 P g=true) (hm:P.follows .mixedOrders=true)
  {ops:Array Oper} (Z:F.r1=.region id ops false) (h1:(TJ P n ops false ⟨YR 0 args',hc⟩).isSome=true) (Y:QaH F.tbs J (Fz P n ops false ⟨YR 0 args',hc⟩)=true)
  (h:QO a P n none F.rest ⟨(F.tc, .fn (.func g) [] (Rw J)) :: sgT J (Fz P n ops false ⟨YR 0 args',hc⟩).T,xV J (Fz P n ops false ⟨YR 0 args',hc⟩).H⟩ (dI P fn hc n g J (VG L) s dst K Q)):NB a P N f args dst s K Q:=by
 subst hn;refine ⟨fun r hr=>?_⟩;obtain ⟨s1,O⟩:=Td.1 h1;have e:Fz P fn.ntmps ops false ⟨YR 0 args',hc⟩=s1:=by simp [Fz,O]
 rw [e] at Y h;simp only [QaH,Ze] at Y;simp only [JL,Ze] at hok;obtain ⟨⟨⟨⟨k1,k2⟩,k3⟩,k4⟩,k5⟩:=hok
 have hA:Kw P f args' (look hc) (iR hc (VG L) s dst K Q r):=by
  refine vQ F J hf (Nat.le_of_ble_eq_true hl) aa ?_;rw [Z];exact BX hm O ⟨rfl,qJ Y.1.1,Y.1.2,uj Y.2,h.h r hr⟩
 refine Nz (VG L) hA (G ▸ UT C args) k2 (fun c hc=>by simpa using List.all_eq_true.1 k3 c hc) (Ry k4) (UC U) (UB k5) (ZL k1) ?_;rintro x h' ⟨hc',rfl,hd,hk⟩;refine ⟨hc',Z6 (VG L) hc' s.H,rfl,hd,fun _=>rfl,?_⟩;cases x with
 | ret x=>exact hk
 | panic x=>exact hk
def clQ (P:Program) (U:Func) (O:List (Nat × Blk)) (G:Nat→Nat) (s:St) (J:R→AX→St→Prop):R→AX→St→Prop :=
 fun r=>Qes P U O (fun x h'=>∃ hc',h'=look hc'∧Fy G O hc' s.H∧(match x with | .ret _=>J r .ret ⟨s.T,Z6 G hc' s.H⟩ | .panic _=>False))
def QhA:AX→AV
 | .panic v=>v
 | _=>SA
def QjA:AX→Bool
 | .exit _=>true
 | _=>false
theorem vX {LD:List (Nat × Nat)} {x:AX} (U:GU P g) (Y:List (Nat × Nat)) (J:List (Nat × Blk)) (O:AV) (G:List AV) (cb:List (Nat × List Conv)) (hx:QjA x=false) (hl:Nat.ble G.length U.fn.ntmps=true)
  (Z:QhA x :: Rw LD=Vu (VG Y) (O :: G)) (hok:JL N none (VG Y) J (O :: G)=true) (aa:Rz s.H (VG Y) cb J=J.map (fun p=>some (ZM (VG Y) p.2)))
  (h:QO a P U.fn.ntmps none U.rest ⟨(U.d2,O) :: (U.d1,O) :: YR 0 G,J⟩ (clQ P U.fn J (VG Y) s (uf P fn hc ρ s0 dst K Q))):Zt a (dI P fn hc N g LD ρ s0 dst K Q) x s:=by
 refine ⟨fun r hr=>?_⟩;simp only [JL,Ze] at hok;obtain ⟨⟨⟨⟨k1,k2⟩,k3⟩,k4⟩,k5⟩:=hok
 have key:DEx P N g (QhA x :: Rw LD) s (CO P fn hc (iR hc ρ s0 dst K Q r)):=by
  refine si (VG Y) (xU U (Nat.le_of_ble_eq_true hl) (h.h r hr)) (by rw [Z]; exact xJ _) k2 (fun c hc=>by simpa using List.all_eq_true.1 k3 c hc) (Ry k4) (UC aa) (UB k5) ?_;rintro y h' ⟨hc',rfl,hd,hk⟩;refine ⟨hc',Z6 (VG Y) hc' s.H,rfl,hd,fun _=>rfl,?_⟩;cases y with
  | ret y=>exact hk
  | panic y=>exact hk
 cases x with
 | normal=>exact key
 | ret=>exact key
 | panic v=>exact key
 | exit i=>cases hx
theorem QaI {U:Func} {O:List (Nat × Blk)} {G:Nat→Nat} {J:R→AX→St→Prop} {x:AX} (hx:x=.ret∨x=.normal) (bs:List Nat) (cb:List (Nat × List Conv)) (h:TH P U (look s1.T) (look s1.H)=some (.tup []))
  (hok:MZ G O (KW cb s1.H bs) s (.tup [])=true) (Y:Zt a J .ret ⟨s.T,Z6 G (KW cb s1.H bs) s.H⟩):Zt a (clQ P U O G s J) x s1:=by
 simp only [MZ,CS,Ze] at hok;refine ⟨fun r Z=>?_⟩
 have:CO P U O (fun x h'=>∃ hc',h'=look hc'∧Fy G O hc' s.H∧(match x with | .ret _=>J r .ret ⟨s.T,Z6 G hc' s.H⟩ | .panic _=>False)) s1 :=
  ⟨_,_,KW cb s1.H bs,h,le_refl _,hok.1.1.1,Y1 hok.1.1.2,hok.1.2,_,rfl,XU hok.2,Y.h r Z⟩
 rcases hx with rfl | rfl <;> exact this
theorem QaJ {U:Func} {O:List (Nat × Blk)} {G:Nat→Nat} {J:R→AX→St→Prop} (bs:List Nat) (cb:List (Nat × List Conv)) (h:TH P U (look s1.T) (look s1.H)=some (.tup []))
  (hok:MZ G O (KW cb s1.H bs) s (.tup [])=true) (Y:Zt a J .ret ⟨s.T,Z6 G (KW cb s1.H bs) s.H⟩):Zt a (clQ P U O G s J) .ret s1:=QaI (.inl rfl) bs cb h hok Y
theorem QhB {U:Func} {O:List (Nat × Blk)} {G:Nat→Nat} {J:R→AX→St→Prop} (bs:List Nat) (cb:List (Nat × List Conv)) (h:TH P U (look s1.T) (look s1.H)=some (.tup []))
  (hok:MZ G O (KW cb s1.H bs) s (.tup [])=true) (Y:Zt a J .ret ⟨s.T,Z6 G (KW cb s1.H bs) s.H⟩):Zt a (clQ P U O G s J) .normal s1:=QaI (.inr rfl) bs cb h hok Y
end
section
variable {R V:Type} {a a1 a2:Option R} {P:Program} {N:Nat} {ro:Option Nat} {c:Code} {s s' s1:St} {Q:R→AX→St→Prop}
def rdV (P:Program) (N:Nat) (ro:Option Nat) (c:Code):Nat→(AX→St→Prop)→AX→St→Prop
 | 0,Q=>andThen (fun _=>False) Q
 | k+1,Q=>andThen (fun s'=>Ex P N ro c s' (rdV P N ro c k Q)) Q
def rdU (P:Program) (N:Nat) (ro:Option Nat) (c:Code) (k:Nat) (Q:R→AX→St→Prop):R→AX→St→Prop:=fun r=>rdV P N ro c k (Q r)
theorem sW {Q:AX→St→Prop}:∀ (k:Nat) (s:St) (φ:Nat→Nat) (a:Act) (w:World),Ex P N ro c s (rdV P N ro c k Q)→Q6 φ M0 N D (look s.T) (look s.H) a w→QT φ0 h0 w0 φ (look s.H) w →
  Code.roundsIn (wd ro) 0 P c (Post N D Q φ0 M0 h0 w0) (k+1) a w:=by
 intro k
 induction k with
 | zero =>
  intro s φ a w h r E;rw [roundsIn_succ];refine wpIn_mono (h φ M0 D a w r) ?_;rintro e Y w' ⟨φ',x,s',J,r',O,G⟩;cases x with
  | normal=>exact J.elim
  | ret=>simp only [JR] at G; subst G; exact ⟨φ', .ret,s',J,r',E.trans O,rfl⟩
  | exit i=>simp only [JR] at G; subst G; exact ⟨φ', .exit i,s',J,r',E.trans O,rfl⟩
  | panic p=>obtain ⟨v,rfl,U⟩:=G; exact ⟨φ', .panic p,s',J,r',E.trans O,v,rfl,U⟩
 | succ k Z =>
  intro s φ a w h r E;rw [roundsIn_succ];refine wpIn_mono (h φ M0 D a w r) ?_;rintro e Y w' ⟨φ',x,s',J,r',O,G⟩;cases x with
  | normal=>simp only [JR] at G; subst G; exact Z s' φ' Y w' J r' (E.trans O)
  | ret=>simp only [JR] at G; subst G; exact ⟨φ', .ret,s',J,r',E.trans O,rfl⟩
  | exit i=>simp only [JR] at G; subst G; exact ⟨φ', .exit i,s',J,r',E.trans O,rfl⟩
  | panic p=>obtain ⟨v,rfl,U⟩:=G; exact ⟨φ', .panic p,s',J,r',E.trans O,v,rfl,U⟩
theorem mU:QT φ h w φ h w:=BD rfl rfl rfl rfl
theorem Z4 (k:Nat) (h:QO a P N ro c s (rdU P N ro c k Q)):QO a P N ro (.loop c) s Q :=
 ⟨fun r J φ M0 D a w G=>wpIn_loop_rounds (k+1) (sW k s φ a w (h.h r J) G mU)⟩
theorem NJ (K:FZ) (s':St) {k:Nat}  (h:QO a P N ro c s' (rdU P N ro c k Q))(J:LF K s=some s':=by kernel_rfl):Zt a (rdU P N ro c (k+1) Q) .normal s:=⟨fun r G=>(sP (Q:=rdU P N ro c k Q) K s' J h).h r G⟩
theorem MI {k:Nat} (h:Zt a Q (.exit i) s):Zt a (rdU P N ro c k Q) (.exit i) s:=⟨fun r G=>by cases k <;> exact h.h r G⟩
theorem QhC {k:Nat} (h:Zt a Q (.panic p) s):Zt a (rdU P N ro c k Q) (.panic p) s:=⟨fun r G=>by cases k <;> exact h.h r G⟩
end
def sZ (M:Zn) (k:Nat):Zn:=fun r o=>M r o∨r=k
theorem SH (φ:Nat→Nat) (h:QG) (w:World):VL φ h w φ h w:=Ri rfl
theorem QaK {J:Zn} (hs:∀ r o,M0 r o→J r o) (r:Q6 φ J N D T h a w):Q6 φ M0 N D T h a w:=by
 have O:∀ r o v,w.cell? ⟨r,o,none⟩=some v→¬ MM φ h J r o→w.cell? ⟨r,o,none⟩=some v∧¬ MM φ h M0 r o:=fun r o v hc G=>⟨hc,fun x=>G (x.imp id (hs r o))⟩
 exact ⟨r.dfs,r.siz,⟨r.hp.inj,fun b k hb=>ZI O (SH φ h w) rfl (r.hp.blk b k hb),fun b hb o G=>r.hp.fr b hb o (hs _ _ G),fun x o Y=>r.hp.lt x o (hs _ _ Y),r.hp.gm.sub fun x o G=>G.imp id (hs x o)⟩,
  fun t x U=>⟨(r.tm t x U).1,(QI O (SH φ h w)).1 _ _ (r.tm t x U).2⟩⟩
theorem tq {J:Zn} {e:Exit} {O:Act} (hs:∀ r o,M0 r o→J r o) (p:Post N D Q φ J h w e O w'):Post N D Q φ M0 h w e O w':=by
 obtain ⟨φ',x,s',h1,h2,Y,G⟩:=p;refine ⟨φ',x,s',h1,QaK hs h2,Y,?_⟩;cases x with
 | panic v =>
  obtain ⟨u,Z,U⟩:=G;exact ⟨u,Z,(QI (fun r o v hc hm=>⟨hc,fun x=>hm (x.imp id (hs r o))⟩) (SH _ _ _)).1 _ _ U⟩
 | _=>exact G
theorem yo {ob:Obj} (r:Zw φ h w M0) (hC:Clear φ h w 1):QT φ h w φ h (w.alloc ob)∧VL φ h w φ h (w.alloc ob):=by
 have G:∀ x,x < w.heap.size→(w.alloc ob).heap[x]?=w.heap[x]?:=fun x U=>by show (w.heap.push ob)[x]?=_; rw [Array.getElem?_push,if_neg zo]
 have hs:(w.alloc ob).heap.size≤w.heap.size+1:=by show (w.heap.push ob).size≤_; simp
 have O:∀ b k,h b=some k→(w.alloc ob).heap[φ b]?=w.heap[φ b]?:=fun b k hb=>hC.lt r hs G (by rw [hb]; simp)
 refine ⟨⟨rfl,rfl,rfl,by show _≤(w.heap.push ob).size; simp,fun x U _=>G x U,fun x o U _=>by simp [World.cell?,G x U],fun _ _ _ x=>x,fun _ _ _ _ x=>⟨⟨_,x⟩,rfl⟩,?_,?_,fun _ _ _ _ Z Y=>⟨⟨_,Z,Y⟩,rfl⟩⟩,?_,?_,?_,fun _ _ _ Z Y=>⟨⟨_,Z,Y⟩,rfl⟩⟩
 ·exact fun t ty S n _ hc=>⟨n,hc,Nat.le_refl _,fun _=>Yi rfl (O _ _ hc)⟩
 ·exact fun t ty S n _ hc=>⟨n,hc,Nat.le_refl _,fun _=>⟨rfl,fun c J=>⟨c,by rw [O _ _ hc]; exact J,rfl⟩⟩⟩
 ·exact fun b ty cs hc=>⟨⟨ty,cs,hc⟩,rfl⟩
 ·exact fun t ty S n hc=>⟨n,hc,Nat.le_refl _,fun _=>Yi rfl (O _ _ hc)⟩
 ·exact fun t ty S n hc=>⟨n,hc,Nat.le_refl _,fun _=>⟨rfl,fun c J=>⟨c,by rw [O _ _ hc]; exact J,rfl⟩⟩⟩
theorem tu {b:Act} {ob:Obj} {d:Tmp} (r:Q6 φ M0 N D T h b w) (hT:T d=none) (Z:Clear φ h w 1):Q6 φ (sZ M0 w.heap.size) N D T h (b.put (some d) v) (w.alloc ob):=by
 obtain ⟨E,X⟩:=yo (ob:=ob) r.hp Z
 have hk:∀ x o u,w.cell? ⟨x,o,none⟩=some u→¬ MM φ h M0 x o→(w.alloc ob).cell? ⟨x,o,none⟩=some u∧¬ MM φ h (sZ M0 w.heap.size) x o:=by
  intro x o u hc G;have O:=BC hc;obtain ⟨h1,h2⟩:=E.keeps M0 x o u hc G;refine ⟨h1,fun J=>?_⟩;rcases J with J | J | J
  ·exact G (.inl J)
  ·exact G (.inr J)
  ·omega
 have U:∀ x,x < w.heap.size→(w.alloc ob).heap[x]?=w.heap[x]?:=fun x O=>by show (w.heap.push ob)[x]?=_; rw [Array.getElem?_push,if_neg zo]
 refine ⟨r.dfs.keep E,by simp [Act.put,r.siz],⟨r.hp.inj,fun c k hb=>ZI hk X (Z.lt r.hp (w':=w.alloc ob) (by show (w.heap.push ob).size≤_; simp) U (by rw [hb]; simp)) (r.hp.blk c k hb),?_,?_,(r.hp.gm.evol E).w,fun g Y o G=>G.elim (fun G=>r.hp.gm.m g Y o (.inl G)) (fun G=>G.elim (fun G=>r.hp.gm.m g Y o (.inr G)) (fun e=>by have:=yZ r.hp.gm.w g Y; omega))⟩,?_⟩
 ·intro c hc o G;rcases G with G | G
  ·exact r.hp.fr c hc o G
  ·rcases Z c hc with h1 | h1 <;> omega
 ·intro x o O;show x < (w.heap.push ob).size;rw [Array.size_push];rcases O with O | O
  ·have:=r.hp.lt x o O; omega
  ·omega
 ·intro t x ht;refine ⟨(r.tm t x ht).1,?_⟩;have hne:¬ d=t:=fun e=>by rw [e,ht] at hT; cases hT
  have:(b.put (some d) v).tmps.getD t undef=b.tmps.getD t undef:=by simp [Act.put,Array.getElem?_setIfInBounds_ne hne]
  rw [this];exact (QI hk X).1 _ _ (r.tm t x ht).2
theorem mV {b:Act} {k ty:Nat} {i:TypeInfo} (r:Q6 φ (sZ M0 k) N D (look s.T) (look s.H) b w) (E:QT φ0 h0 w0 φ (look s.H) w)
  (ah:w0.heap.size≤k) (af:∀ x,¬ M0 k x) (ac:o.op=.alloc ty) (hd:o.dst=some d) (hi:P.info? ty=some i) (hz:i.zero=some z) (hN:d < N) (hb:b.tmps[d]?=some (.pointer (some ⟨k,0,none⟩))) (hw:w.heap[k]?=some (.cells z.cells ty (0,0)))
  (hu:WW P o (look s.T) (look s.H)=some u) :
  Q6 (Qu φ d k) M0 N D (look (XK s o.dst u).T) (look (XK s o.dst u).H) b w∧QT φ0 h0 w0 (Qu φ d k) (look (XK s o.dst u).H) w:=by
 simp only [WW,ac,hi,hz,zz,hd] at hu;cases hcs:cellsOf (zu z) with
 | none=>rw [hcs] at hu; cases hu
 | some cs =>
  rw [hcs] at hu;dsimp only at hu;cases hn:look s.H d with
  | some x=>rw [hn] at hu; cases hu
  | none =>
   rw [hn] at hu;dsimp only at hu;cases hu;have hT:∀ t,look (XK s o.dst (.ptr d 0,some (d, .box ty cs),[d])).T t=if d=t then some (.ptr d 0) else look s.T t:=fun t=>by simp [XK,hd,look]
   have hH:look (XK s o.dst (.ptr d 0,some (d, .box ty cs),[d])).H=upd (look s.H) d (.box ty cs):=by funext c; simp [XK,look,upd]
   rw [hH];have hne:∀ c q,look s.H c=some q→¬ d=c:=fun c q hc e=>by rw [e] at hn; rw [hn] at hc; cases hc
   have Z:∀ c,look s.H c ≠ none→φ c ≠ k:=fun c hc e=>r.hp.fr c hc 0 (.inr e)
   have ab:∀ x y,MM (Qu φ d k) (upd (look s.H) d (.box ty cs)) M0 x y→MM φ (look s.H) (sZ M0 k) x y:=by
    rintro x y (⟨c,q,G,O,J⟩ | h)
    ·by_cases e:d=c
     ·simp only [Qu,e,if_true] at O;exact .inr (.inr O.symm)
     ·simp only [upd,Qu,e,if_false] at G O;exact .inl ⟨c,q,G,O,J⟩
    ·exact .inr (.inl h)
   have X:VL φ (look s.H) w (Qu φ d k) (upd (look s.H) d (.box ty cs)) w:=by
    refine ⟨fun c Y cs' hc=>?_,fun t Y S n hc=>?_,fun t Y S n hc=>?_,fun c k' x hc ho=>?_⟩
    ·have:=hne c _ hc;exact ⟨⟨Y,cs',by simp [upd,this,hc]⟩,by simp [Qu,this]⟩
    ·have:=hne t _ hc;exact ⟨n,by simp [upd,this,hc],Nat.le_refl _,fun _=>Yi (by simp [Qu,this]) rfl⟩
    ·have:=hne t _ hc;exact ⟨n,by simp [upd,this,hc],Nat.le_refl _,fun _=>⟨by simp [Qu,this],fun c ad=>⟨c,ad,rfl⟩⟩⟩
    ·have:=hne c _ hc;exact ⟨⟨k',by simp [upd,this,hc],ho⟩,by simp [Qu,this]⟩
   have aa:∀ x y v,w.cell? ⟨x,y,none⟩=some v→¬ MM φ (look s.H) (sZ M0 k) x y→w.cell? ⟨x,y,none⟩=some v∧¬ MM (Qu φ d k) (upd (look s.H) d (.box ty cs)) M0 x y:=fun x y v hc hm=>⟨hc,fun hh=>hm (ab x y hh)⟩
   refine ⟨⟨?_,r.siz,⟨?_,?_,?_,fun x y hx=>r.hp.lt x y (.inl hx),r.hp.gm.sub ab⟩,?_⟩,?_⟩
   ·obtain ⟨g0,ms,g1,g2,g3⟩:=r.dfs;refine ⟨g0,ms,g1,g2,fun x hx=>?_⟩;obtain ⟨g4,g5,g6⟩:=g3 x hx;refine ⟨g4,g5,fun c hc e=>?_⟩;by_cases ec:d=c
    ·simp only [Qu,ec,if_true] at e;rw [← e,hw] at g5;cases g5
    ·simp only [upd,Qu,ec,if_false] at hc e;exact g6 c hc e
   ·intro c c' hc hc' e;by_cases e1:d=c <;> by_cases e2:d=c'
    ·exact e1.symm.trans e2
    ·simp only [Qu,e1,if_true] at e;have e3:¬ c=c':=fun x=>e2 (e1.trans x)
     simp only [e3,if_false] at e;simp only [upd,e2,if_false] at hc';exact absurd e.symm (Z c' hc')
    ·simp only [Qu,e2,if_true] at e;have e3:¬ c'=c:=fun x=>e1 (e2.trans x)
     simp only [e3,if_false] at e;simp only [upd,e1,if_false] at hc;exact absurd e (Z c hc)
    ·simp only [upd,Qu,e1,e2,if_false] at hc hc' e;exact r.hp.inj c c' hc hc' e
   ·intro c q hc;by_cases e:d=c
    ·have O:q=.box ty cs:=by simp only [upd,e,if_true,QN] at hc; exact hc.symm
     have J:Qu φ d k c=k:=by simp [Qu,e]
     rw [O,J];exact ⟨z.cells,hw,(QI aa X).2 _ _ (Vb hcs (V9 z)).1⟩
    ·have G:look s.H c=some q:=by simpa [upd,e] using hc
     have J:Qu φ d k c=φ c:=by simp [Qu,e]
     rw [J];exact ZI aa X rfl (r.hp.blk c q G)
   ·intro c hc y hm;by_cases e:d=c
    ·have J:Qu φ d k c=k:=by simp [Qu,e]
     rw [J] at hm;exact af _ hm
    ·have J:Qu φ d k c=φ c:=by simp [Qu,e]
     rw [J] at hm;exact r.hp.fr c (by simpa [upd,e] using hc) y (.inl hm)
   ·intro t x U;rw [hT] at U;by_cases e:d=t
    ·simp only [e,if_true,QN] at U;subst U;refine ⟨e ▸ hN,?_⟩;subst e;rw [Array.getD_eq_getD_getElem?,hb];simp only [Qe,Option.getD_some];exact ⟨by simp [Qu],ty,cs,by simp [upd]⟩
    ·simp only [e,if_false] at U;exact ⟨(r.tm t x U).1,(QI aa X).1 _ _ (r.tm t x U).2⟩
   ·refine ⟨E.os,E.tape,E.output,E.size,E.same,E.cell,?_,?_,?_,?_,?_⟩
    ·rintro x y hx ⟨c,q,G,O,J⟩;by_cases e:d=c
     ·simp only [Qu,e,if_true] at O; omega
     ·simp only [upd,Qu,e,if_false] at G O; exact E.mu x y hx ⟨c,q,G,O,J⟩
    ·intro c Y cs' hc hb;obtain ⟨⟨ae,G⟩,O⟩:=E.kb c Y cs' hc hb;have:=hne c _ G;exact ⟨⟨ae,by simp [upd,this,G]⟩,by simp [Qu,this,O]⟩
    ·intro t Y S n U hb;obtain ⟨n',G,O,J⟩:=E.kt t Y S n U hb;have:=hne t _ G;exact ⟨n',by simp [upd,this,G],O,fun e=>(by simpa [Qu,this] using J e)⟩
    ·intro t Y S n U hb;obtain ⟨n',G,O,J⟩:=E.kv t Y S n U hb;have:=hne t _ G;exact ⟨n',by simp [upd,this,G],O,fun e=>⟨by simp [Qu,this,(J e).1],(J e).2⟩⟩
    ·intro c k' x hc hb ho;obtain ⟨⟨k2,G,O⟩,J⟩:=E.ko c k' x hc hb ho;have:=hne c _ G;exact ⟨⟨k2,by simp [upd,this,G],O⟩,by simp [Qu,this,J]⟩
def gI (P:Program) (N:Nat) (ops:Array Oper) (Q:AX→St→Prop) (H:List Nat) (q d:Nat):List Nat→St→Prop
 | [],s=>Q .normal s
 | c :: rest,s=>match ops[c]? with
  | some o=>if c=q then (∃ u,Ky N o.dst=true∧WW P o (look s.T) (look s.H)=some u∧WT P ops (XW ops H c) (XK s o.dst u)∧gI P N ops Q H q d rest (XK s o.dst u))
   else XP P N o s (fun s'=>WT P ops (XW ops H c) s'∧(q ∈ rest→look s'.T d=none)∧gI P N ops Q H q d rest s') Q
  | none=>False
def SI (ops:Array Oper) (q:Nat):List Nat→Bool
 | c :: c' :: r=>(c != q||(ops[c']?).any (waits · q))&&SI ops q (c' :: r)
 | _=>true
def QcZ (ops:Array Oper) (H G:List Nat):Bool :=
 H.all (fun i=>match ops[i]? with | some o=>(match o.op with | .move _=>true | _=>false)&&G.all (fun c=>match (ops[c]?).bind (·.dst) with | some e=>!(o.looksAt ops).contains e | none=>true)||!(match o.op with | .move _=>true | _=>false) | none=>false)
def Ec (P:Program) (N:Nat) (H:List Nat) (q d:Nat) (G:List Nat) (ops:Array Oper):Bool :=
 (List.range ops.size).all (fun i=>H.contains i||G.contains i)&&Region.noSelect ops&&RD ops H&&chainOk ops (G.filter (· != q))&&decide G.Nodup&&H.all (fun i=>!G.contains i) &&
 H.all (fun i=>G.all fun c=>!Je ops.size ops i c)&&ops.toList.all (fun o=>o.guard.isNone)&&GQ 0 ops.toList &&
 H.all (fun i=>match (ops[i]?).bind (·.dst) with
  | some d=>(List.range ops.size).all fun j=>i == j||(match ops[j]? with | some J=>J.dst != some d&&(waits J i||!(J.looksAt ops).contains d) | none=>true)
  | none=>false)&&QcZ ops H G&&SI ops q G&&decide (d < N) &&
 G.all (fun c=>c == q||(match ops[c]? with | some o=>o.dst != some d | none=>false)) &&
 (match ops[q]? with
  | some o=>o.dst == some d&&(match o.op with | .alloc ty=>(match P.info? ty with | some i=>i.zero.isSome | none=>false) | _=>false)
  | none=>false)
theorem AB {ops:Array Oper} {q:Nat}:∀ (G:List Nat) (c':Nat) (l2:List Nat),SI ops q (G++q :: c' :: l2)=true→(ops[c']?).any (waits · q)=true
 | [],c',l2,h=>by
  simp only [List.nil_append,SI,Ze,bne_self_eq_false,Bool.false_or] at h;exact h.1
 | [x],c',l2,h=>by
  simp only [List.cons_append,List.nil_append,SI,Ze,bne_self_eq_false,Bool.false_or] at h;exact h.2.1
 | x :: y :: G,c',l2,h=>by
  simp only [List.cons_append,SI,Ze] at h;exact AB (y :: G) c' l2 h.2
theorem tC {b b':Act} {U:Oper} (Y:Gp P ops i s) (aa:ops[i]?=some U) (ab:U.dst=some d)
  (r':Q6 φ M0 N D (look s.T) (look s.H) b' w') (hv:b'.tmps[d]?=some v) (J:(execOp b.eval U).run P w=.ok (.value v) w) (hm:∀ x,U.op=.move x→b'.eval x=b.eval x):(execOp b'.eval U).run P w'=.ok (.value v) w':=by
 unfold Gp at Y;simp only [aa] at Y;split at Y
 ·rename_i x d' G O
  have Z:b.eval x=v:=by
   simp [execOp,G] at J;exact J
  simp [execOp,G,hm x G,Z]
 ·rename_i d' O G;obtain ⟨x,h2,h3,h4⟩:=Y;obtain ⟨v',h5,h6⟩:=qD r' h2;rw [ab] at O;cases O;have h7:=(r'.tm d x h3).2;rw [Array.getD_eq_getD_getElem?,hv] at h7;have:=ym h4 h6 h7;rw [h5,this];rfl
 ·cases Y
theorem QaL {Qh:AX→St→Prop} {H Cs:List Nat} {q:Nat} (hok:Ec P N H q d Cs ops=true) (ef:∀ s,Qh .normal s→Q .normal s) (ej:∀ v s,Qh (.panic v) s→Q (.panic v) (AA ops s)) :
  ∀ (af:Nat) (done ch:List Nat) (listed:Array Bool) (a b:Act) (w:World) (s:St) (φ:Nat→Nat) (M1:Zn),Cs=done++ch→listed.size=ops.size→IR listed ops.size≤af →
   (∀ (j:Nat) o,ops[j]?=some o→listed.getD j false=true→∀ e ∈ o.after,Region.binds .any e=true→listed.getD e.on false=true) →
   (∀ c ∈ done,listed.getD c false=true)→(∀ c ∈ ch,c ≠ q→listed.getD c false=false)→Agree (JW ops H listed) a b→Q6 φ M1 N D (look s.T) (look s.H) b w→QT φ0 h0 w0 φ (look s.H) w →
   (∀ i ∈ H,listed.getD i false=false→∃ o d v,ops[i]?=some o∧o.dst=some d∧b.tmps[d]?=some v∧(execOp b.eval o).run P w=.ok (.value v) w) →
   (q ∈ ch→look s.T d=none∧∀ i ∈ H,listed.getD i false=false→Gp P ops i s) →
   (((q ∈ ch→listed.getD q false=false)∧M1=M0)∨(q ∈ ch∧listed.getD q false=true∧ch.head? ≠ some q∧∃ k o ty i z,M1=sZ M0 k∧ops[q]?=some o∧o.op=.alloc ty∧o.dst=some d∧P.info? ty=some i∧i.zero=some z∧b.tmps[d]?=some (.pointer (some ⟨k,0,none⟩))∧w.heap[k]?=some (.cells z.cells ty (0,0))∧w0.heap.size≤k∧∀ x,¬ M0 k x)) →
   gI P N ops Qh H q d ch s→wpAny P .any ops (Post N D Q φ0 M0 h0 w0) af listed a w:=by
 simp only [Ec,Ze,decide_eq_true_eq] at hok;obtain ⟨⟨⟨⟨⟨⟨⟨⟨⟨⟨⟨⟨⟨⟨dh,dx⟩,cr⟩,bv⟩,aw⟩,b2⟩,bp⟩,dt⟩,cm⟩,b7⟩,ee⟩,bz⟩,da⟩,cg⟩,ab⟩:=hok;have bw:∀ (listed:Array Bool) (i:Nat),i < listed.size→listed.getD i true=listed.getD i false:=fun listed i hi=>by simp [hi]
 have bx:∀ (X:Tmp→Prop) (a b:Act),Agree X a b→(∀ t,X t→t ∈ NI ops)→∀ c w,Post N D Qh φ0 M0 h0 w0 (.panic c) b w→Post N D Q φ0 M0 h0 w0 (.panic c) a w:=by
  rintro X a b Y hX c w' ⟨φ',x,s',g1,g2,g3,g4⟩;cases x with
  | normal=>cases g4
  | exit i=>cases g4
  | ret=>cases g4
  | panic v=>exact ⟨φ', .panic v,AA ops s',ej _ _ g1,yn Y hX g2,g3,g4⟩
 have b6:∀ a w,¬ Post N D Qh φ0 M0 h0 w0 .outgrown a w:=fun a w h=>Wh ⟨a,w,h⟩
 have c0:∀ (Hv:List Nat) (listed:Array Bool) (t:Tmp),JW ops Hv listed t→t ∈ NI ops:=by
  rintro Hv listed t ⟨i,_,_,hd⟩;cases O:ops[i]? with
  | none=>rw [O] at hd; cases hd
  | some o =>
   rw [O] at hd;exact List.mem_filterMap.2 ⟨o,by have:=Array.mem_of_getElem? O; simpa using this,hd⟩
 have dq:∀ (j:Nat) o,ops[j]?=some o→o.guard=none:=by
  intro j o O;have:=List.all_eq_true.1 dt o (by have:=Array.mem_of_getElem? O; simpa using this);simpa using this
 have bq:∀ (listed:Array Bool),listed.size=ops.size→Region.ready .any ops listed=[]→∀ i,i < ops.size→listed.getD i false=true:=by
  intro listed aj hr i
  induction i using Nat.strongRecOn with
  | _ i ih =>
   intro hi;cases hq:listed.getD i false with
   | true=>rfl
   | false =>
    have:i ∈ Region.ready .any ops listed:=by
     rw [mem_ready];refine ⟨by rw [bw listed i zo]; exact hq,ops[i],Array.getElem?_eq_getElem hi,fun e he hb=>?_⟩;have G:=VN cm i ops[i] (by simp [hi]) e he hb;exact ih e.on zo zo
    rw [hr] at this;cases this
 have b3:∀ (listed:Array Bool) (ch:List Nat) (a b:Act) (w:World) (s:St) (φ:Nat→Nat) (M1:Zn),(∀ i,i < ops.size→listed.getD i false=true)→(∀ c ∈ ch,c ≠ q→listed.getD c false=false)→Agree (JW ops H listed) a b →
   Q6 φ M1 N D (look s.T) (look s.H) b w→QT φ0 h0 w0 φ (look s.H) w→(((q ∈ ch→listed.getD q false=false)∧M1=M0)∨(q ∈ ch∧ch.head? ≠ some q))→gI P N ops Qh H q d ch s→Post N D Q φ0 M0 h0 w0 .normal a w:=by
  intro listed ch a b w s φ M1 Z ad Y r E hM hx
  have dv:a=b:=bK Y (by
   rintro t ⟨i,hi,U,hd⟩;cases O:ops[i]? with
   | none=>rw [O] at hd; cases hd
   | some o=>rw [Z i (FY.1 O).1] at U; cases U)
  subst dv;cases ch with
  | nil =>
   rcases hM with ⟨_,rfl⟩ | ⟨h,_⟩
   ·exact ⟨φ, .normal,s,ef _ hx,r,E,rfl⟩
   ·cases h
  | cons c ch =>
   exfalso;simp only [gI] at hx;cases O:ops[c]? with
   | none=>rw [O] at hx; exact hx
   | some o =>
    have hc:=Z c (FY.1 O).1;by_cases ac:c=q
    ·rcases hM with ⟨h,_⟩ | ⟨_,h⟩
     ·rw [ac,h (by rw [ac]; exact List.mem_cons_self)] at hc;cases hc
     ·exact h (by rw [ac]; rfl)
    ·rw [ad c List.mem_cons_self ac] at hc;cases hc
 intro af
 induction af with
 | zero =>
  intro done ch listed a b w s φ M1 aa aj hu co bc ad Y r E J hT hM hx;have Z:∀ i,i < ops.size→listed.getD i false=true:=fun i hi=>by rw [← bw listed i zo]; exact CK (n:=ops.size) zo i hi
  refine ⟨List.eq_nil_iff_forall_not_mem.2 fun i hi=>?_,b3 listed ch a b w s φ M1 Z ad Y r E (hM.imp id fun h=>⟨h.1,h.2.2.1⟩) hx⟩;obtain ⟨G,o,O,_⟩:=mem_ready.1 hi;have db:=(FY.1 O).1;rw [bw listed i zo,Z i db] at G;cases G
 | succ af ih =>
  intro done ch listed a b w s φ M1 aa aj hu co bc ad Y r E J hT hM hx;refine ⟨fun hr=>b3 listed ch a b w s φ M1 (bq listed aj hr) ad Y r E (hM.imp id fun h=>⟨h.1,h.2.2.1⟩) hx,fun j hj=>?_⟩;obtain ⟨c4,o,O,Z⟩:=mem_ready.1 hj;have a7:j < ops.size:=(FY.1 O).1;have au:listed.getD j false=false:=by rw [← bw listed j zo]; exact c4
  have bn:∀ cs b,o.op ≠ .select cs b:=fun cs b=>Region.noSelect_spec dx j o cs b O
  have ay:∀ tm,Region.wanted o (yielded ops tm)=true:=fun tm=>by simp [Region.wanted,dq j o O]
  have eL:∀ k,(listed.setIfInBounds j true).getD k false=(listed.getD k false||decide (k=j)):=by
   intro k;by_cases ca:k=j
   ·subst ca;have:k < listed.size:=by omega
    simp [this]
   ·rw [getD_set_ne false (Ne.symm ca)];simp [ca]
  have bb:IR (listed.setIfInBounds j true) ops.size≤af:=by
   have:=PS c4 ops.size;rw [if_pos a7] at this;omega
  have ae:∀ (k:Nat) ok,ops[k]?=some ok→(listed.setIfInBounds j true).getD k false=true→∀ e ∈ ok.after,Region.binds .any e=true→(listed.setIfInBounds j true).getD e.on false=true:=by
   intro k ok hk U e he hb;rw [eL] at U ⊢;simp only [Bool.or_eq_true,decide_eq_true_eq] at U ⊢;rcases U with U | U
   ·exact .inl (co k ok hk U e he hb)
   ·subst U;rw [O] at hk;cases hk;exact .inl (Z e he hb)
  have aq:∀ i,(listed.setIfInBounds j true).getD i false=false→listed.getD i false=false∧i ≠ j:=by
   intro i U;rw [eL] at U;simp only [Bool.or_eq_false_iff,decide_eq_false_iff_not] at U;exact U
  have b1:∀ t ∈ o.looksAt ops,¬ JW ops H listed t∨∃ d,o.dst=some d∧t=d∧j ∈ H:=by
   intro t ht;by_cases hc:JW ops H listed t;rotate_left
   ·exact .inl hc
   obtain ⟨i,hi,U,hd⟩:=hc;have G:=List.all_eq_true.1 b7 i hi;rw [hd] at G;have h2:=List.all_eq_true.1 G j (by simp [a7]);simp only [O,Bool.or_eq_true,beq_iff_eq,Ze,Bool.not_eq_true',bne_iff_ne] at h2;rcases h2 with rfl | ⟨_,h2 | h2⟩
   ·rw [O] at hd;exact .inr ⟨t,hd,rfl,hi⟩
   ·obtain ⟨e,he,hb,bi⟩:=FC h2;have:=Z e he hb;rw [bi,U] at this;cases this
   ·simp [ht] at h2
  have bm:=List.all_eq_true.1 dh j (by simp [a7]);simp only [Bool.or_eq_true,List.contains_iff_mem] at bm
  have ck:q ∈ ch→q ∉ H:=by
   intro hq ck;have:=List.all_eq_true.1 b2 q ck;rw [aa] at this;simp [hq] at this
  by_cases ao:j ∈ H
  ·
   have av:j ∉ Cs:=by
    have:=List.all_eq_true.1 b2 j ao;simpa using this
   obtain ⟨o',dd,v,de,hd,hv,bl⟩:=J j ao au;rw [O] at de;cases de;have ce:dd ∉ o.looksAt ops:=qG O hd H cr ao
   have cn:∀ t ∈ o.looksAt ops,¬ JW ops H listed t:=by
    intro t ht;rcases b1 t ht with G | ⟨d',G,rfl,_⟩
    ·exact G
    ·rw [hd] at G;cases G;exact absurd ht ce
   unfold wpOp;simp only [O,ay,if_true];refine .inl ?_;unfold Oper.wp;rw [XV (ops:=ops) Y bn cn,bl];simp only [Oper.upon];have eh:q ∈ ch→q ≠ j:=fun h e=>ck h (e ▸ ao)
   refine ih done ch (listed.setIfInBounds j true) (a.put o.dst v) b w s φ M1 aa (by simpa using aj) bb ae (fun c hc=>by rw [eL,bc c hc]; rfl) ?_ ?_ r E (fun i hi U=>J i hi (aq i U).1) (fun h=>⟨(hT h).1,fun i hi U=>(hT h).2 i hi (aq i U).1⟩) ?_ hx
   ·intro c hc ac;rw [eL,ad c hc ac];have:c ≠ j:=fun e=>av (by rw [aa,← e]; exact List.mem_append_right _ hc)
    simp [this]
   ·refine ⟨by rw [← Y.1,hd]; rfl,by rw [← Y.2.1,hd]; simp [Act.put],fun t ht=>?_⟩;rw [hd];by_cases cp:dd=t
    ·subst cp
     have b8:dd < a.tmps.size:=by
      rw [Y.2.1];exact (FY.1 hv).1
     rw [hv];simp [Act.put,b8]
    ·rw [← Y.2.2 t (fun hc=>ht (by
      obtain ⟨i,hi,U,az⟩:=hc;refine ⟨i,hi,?_,az⟩;rw [eL,U];have:i ≠ j:=fun e=>cp (by rw [e,O] at az; exact Option.some.inj (hd.symm.trans az))
      simp [this]))]
     simp [Act.put,Array.getElem?_setIfInBounds_ne cp]
   ·rcases hM with ⟨G,h2⟩ | ⟨G,h2,h3⟩
    ·exact .inl ⟨fun h=>by rw [eL,G h]; simp [eh h],h2⟩
    ·exact .inr ⟨G,by rw [eL,h2]; rfl,h3⟩
  ·
   have av:j ∈ Cs:=bm.resolve_left ao
   have an:j ∈ ch:=by
    rw [aa] at av;rcases List.mem_append.1 av with G | G
    ·rw [bc j G] at au; cases au
    ·exact G
   have bh:∀ t ∈ o.looksAt ops,¬ JW ops H listed t:=by
    intro t ht;rcases b1 t ht with G | ⟨d',_,_,G⟩
    ·exact G
    ·exact absurd G ao
   have bk:∀ t,o.dst=some t→¬ JW ops H listed t:=by
    rintro t ht ⟨i,hi,U,hd⟩;have G:=List.all_eq_true.1 b7 i hi;rw [hd] at G;have h2:=List.all_eq_true.1 G j (by simp [a7]);simp only [O,Bool.or_eq_true,beq_iff_eq,Ze,Bool.not_eq_true',bne_iff_ne] at h2;rcases h2 with rfl | ⟨h2,_⟩
    ·exact ao hi
    ·exact h2 ht
   have cw:∀ x y,M0 x y→M1 x y:=by
    intro x y h;rcases hM with ⟨_,rfl⟩ | ⟨_,_,_,k,_,_,_,_,rfl,_⟩
    ·exact h
    ·exact .inl h
   have b9:∀ (b':Act) (w':World) (s':St) (φ':Nat→Nat) (M':Zn),(∀ t,o.dst ≠ some t→b'.tmps[t]?=b.tmps[t]?)→Q6 φ' M' N D (look s'.T) (look s'.H) b' w'→(∀ i ∈ H,(listed.setIfInBounds j true).getD i false=false→Gp P ops i s') →
     ∀ i ∈ H,(listed.setIfInBounds j true).getD i false=false→∃ o d v,ops[i]?=some o∧o.dst=some d∧b'.tmps[d]?=some v∧(execOp b'.eval o).run P w'=.ok (.value v) w':=by
    intro b' w' s' φ' M' al r' be i hi U;have bt:=(aq i U).1;obtain ⟨oi,di,v,bu,az,du,dn⟩:=J i hi bt;have cx:b'.tmps[di]?=some v:=by rw [al di (fun e=>bk di e ⟨i,hi,bt,by rw [bu]; exact az⟩)]; exact du
    refine ⟨oi,di,v,bu,az,cx,tC (be i hi U) bu az r' cx dn fun x ah=>?_⟩;cases x with
    | tmp t =>
     have hne:o.dst ≠ some t:=by
      intro e;have h2:=List.all_eq_true.1 ee i hi;simp only [bu,ah,Bool.true_and,Bool.not_true,Bool.or_false] at h2;have h3:=List.all_eq_true.1 h2 j av;simp only [O,QJ,e,Bool.not_eq_true'] at h3;have:t ∈ oi.looksAt ops:=List.mem_append_left _ (List.mem_filterMap.2 ⟨.tmp t,by simp [ah,Op.operands],rfl⟩);simp [this] at h3
     simp only [Act.eval];rw [Array.getD_eq_getD_getElem?,Array.getD_eq_getD_getElem?,al t hne]
    | _=>rfl
   have ax:∀ (s':St),WT P ops (XW ops H j) s'→∀ i ∈ H,(listed.setIfInBounds j true).getD i false=false→Gp P ops i s':=by
    intro s' be i hi U;have bt:=(aq i U).1
    have ea:Je ops.size ops j i=false:=by
     cases hq:Je ops.size ops j i with
     | false=>rfl
     | true =>
      have:=XB co _ j i o O Z hq;rw [bt] at this;cases this
    have c9:Je ops.size ops i j=false:=by
     have:=List.all_eq_true.1 (List.all_eq_true.1 bp i hi) j av;simpa using this
    exact be i (List.mem_filter.2 ⟨hi,by rw [ea,c9]; rfl⟩)
   have am:∀ (a' b':Act),Agree (JW ops H listed) a' b'→Agree (JW ops H (listed.setIfInBounds j true)) a' b':=by
    intro a' b' h;refine ⟨h.1,h.2.1,fun t ht=>h.2.2 t (fun hc=>ht ?_)⟩;obtain ⟨i,hi,U,hd⟩:=hc;refine ⟨i,hi,?_,hd⟩;rw [eL,U];have:i ≠ j:=fun e=>ao (e ▸ hi)
    simp [this]
   by_cases bf:j=q
   ·
    subst bf;rw [O] at ab;simp only [Ze,beq_iff_eq] at ab;obtain ⟨bd,ab⟩:=ab;split at ab;rotate_left
    ·cases ab
    rename_i ty ah;split at ab;rotate_left
    ·cases ab
    rename_i ti hi;obtain ⟨z,hz⟩:=Td.1 ab
    have dm:M1=M0:=by
     rcases hM with ⟨_,h⟩ | ⟨_,h,_⟩
     ·exact h
     ·rw [h] at au; cases au
    subst dm;unfold wpOp;simp only [O,ay,if_true];refine .inl ?_;cases ch with
    | nil=>cases an
    | cons c rest =>
     by_cases bj:c=j
     ·subst bj;simp only [gI,O,if_true] at hx;obtain ⟨u,c3,hu,U,ba⟩:=hx
      have hex:XP P N o s (fun s'=>s'=XK s o.dst u) Qh:=by
       unfold XP;simp only [ah];rw [hu];exact .inl ⟨c3,rfl⟩
      have hw:=BO hex r;have cd:=Go.Abs.Oper.wp_mono2 (K':=fun a' w'=>∃ φ' s',s'=XK s o.dst u∧Q6 φ' M1 N D (look s'.T) (look s'.H) a' w'∧QT φ (look s.H) w φ' (look s'.H) w') (Q':=Post N D Qh φ0 M1 h0 w0) hw (fun _ _ h=>h) (fun e a' w' p=>p.trans E);refine Oper.wp_mono ?_ (qB (ops:=ops) Y bn bh bk (bx _ _ _ Y (c0 _ _)) b6 cd);rintro a' w' ⟨b',ar,al,φ',s',rfl,r',E'⟩
      have bg:c ∉ rest:=by
       rw [aa] at aw;exact (List.nodup_cons.1 (List.nodup_append.1 aw).2.1).1
      refine ih (done++[c]) rest (listed.setIfInBounds c true) a' b' w' _ φ' M1 (by rw [aa]; simp) (by simpa using aj) bb ae (fun x hx=>by
       rw [eL];rcases List.mem_append.1 hx with G | G
       ·rw [bc x G]; rfl
       ·rw [List.mem_singleton] at G;simp [G]) ?_ (am _ _ ar) r' (E.trans E') (b9 b' w' _ φ' M1 al r' (ax _ U)) (fun h=>absurd h bg) (.inl ⟨fun h=>absurd h bg,rfl⟩) ba
      intro x hx ak;rw [eL,ad x (List.mem_cons_of_mem _ hx) ak];simp [ak]
     ·have bl:∀ ev,(execOp ev o).run P w=.ok (.value (.pointer (some ⟨w.heap.size,0,none⟩))) (w.alloc (.cells z.cells ty)):=fun ev=>by
       simp [execOp,ah,Instr.alloc,zeroValue,typeInfo,hi,hz,newVar,newRow,newObj,Sem.run]
      unfold Oper.wp;rw [bl];simp only [Oper.upon];rw [bd];obtain ⟨c1,ec⟩:=hT an;obtain ⟨r,E1,_,c6⟩:=r.lift 1;have E:=E.trans E1;have r2:=tu (ob:=.cells z.cells ty) (v:=.pointer (some ⟨w.heap.size,0,none⟩)) r c1 c6
      have al:∀ t,o.dst ≠ some t→(b.put (some d) (.pointer (some ⟨w.heap.size,0,none⟩))).tmps[t]?=b.tmps[t]?:=by
       intro t ht;have:d ≠ t:=fun e=>ht (by rw [bd,e])
       simp [Act.put,Array.getElem?_setIfInBounds_ne this]
      have dl:∀ i ∈ H,(listed.setIfInBounds j true).getD i false=false→Gp P ops i s:=fun i hi U=>ec i hi (aq i U).1
      refine ih done (c :: rest) (listed.setIfInBounds j true) _ _ _ s _ _ aa (by simpa using aj) bb ae (fun x hx=>by rw [eL,bc x hx]; rfl) ?_ (am _ _ (GX Y (some d) _)) r2 (E.trans (yo r.hp c6).1) (b9 _ _ s _ _ al r2 dl) (fun _=>⟨c1,dl⟩) (.inr ⟨an,by rw [eL]; simp,fun h=>bj (Option.some.inj h),w.heap.size,o,ty,ti,z,rfl,O,ah,bd,hi,hz,?_,?_,E.size,fun x hx=>Nat.lt_irrefl _ (r.hp.lt _ _ hx)⟩) hx
      ·intro x hx ak;rw [eL,ad x hx ak];simp [ak]
      ·have b8:d < b.tmps.size:=by rw [r.siz]; exact da
       simp [Act.put,b8]
      ·show (w.heap.push _)[w.heap.size]?=_;simp
   ·
    have br:∃ rest,ch=j :: rest:=by
     cases ch with
     | nil=>cases an
     | cons c rest =>
      by_cases bj:j=c
      ·exact ⟨rest,by rw [bj]⟩
      exfalso;have cj:j ∈ rest:=(List.mem_cons.1 an).resolve_left bj;obtain ⟨r1,r2,a6⟩:=List.append_of_mem cj
      have dj:∀ x,x ∈ c :: rest→x ≠ q→(ops[j]?).any (waits · x)=true→False:=by
       intro x hx ak hw;rw [O] at hw;obtain ⟨e,he,hb,bi⟩:=FC (o:=o) (i:=x) hw;have h2:=Z e he hb;rw [bi,ad x hx ak] at h2;cases h2
      by_cases ai:∀ x ∈ c :: r1,x=q
      ·
       have ac:c=q:=ai c List.mem_cons_self
       have dz:r1=[]:=by
        cases r1 with
        | nil=>rfl
        | cons y r1 =>
         exfalso;have hy:=ai y zq;have h3:=aw;rw [aa,a6] at h3;have h4:=(List.nodup_append.1 h3).2.1;rw [ac,hy] at h4;simp at h4
       subst dz;rcases hM with ⟨G,_⟩ | ⟨_,_,h3,_⟩
       ·have h4:=G (by rw [ac]; exact List.mem_cons_self);have h5:(ops[j]?).any (waits · q)=true:=AB done j r2 (by rw [aa,a6,ac] at bz; exact bz);rw [O] at h5;obtain ⟨e,he,hb,bi⟩:=FC (o:=o) (i:=q) h5;have h6:=Z e he hb;rw [bi,h4] at h6;cases h6
       ·exact h3 (by rw [ac]; rfl)
      ·simp only [Classical.not_forall] at ai;obtain ⟨x0,ek,dk⟩:=ai
       have el:(c :: r1).filter (· != q) ≠ []:=by
        intro e;have:x0 ∈ (c :: r1).filter (· != q):=List.mem_filter.2 ⟨ek,by simpa using dk⟩;rw [e] at this;cases this
       obtain ⟨p,x,c5⟩:∃ p x,(c :: r1).filter (· != q)=p++[x]:=⟨_,_,(List.dropLast_concat_getLast el).symm⟩;have eg:x ∈ (c :: r1).filter (· != q):=by rw [c5]; simp
       obtain ⟨eb,cq⟩:=List.mem_filter.1 eg
       have dw:Cs.filter (· != q)=(done.filter (· != q)++p)++x :: j :: r2.filter (· != q):=by
        rw [aa,List.filter_append,a6,show c :: (r1++j :: r2)=(c :: r1)++j :: r2 from rfl,List.filter_append,c5];have:(j :: r2).filter (· != q)=j :: r2.filter (· != q):=by simp [bf]
        rw [this];simp
       have b4:=bv;rw [dw] at b4;have G:=CX _ _ _ _ b4;exact dj x (by rw [a6,show c :: (r1++j :: r2)=(c :: r1)++j :: r2 from rfl]; exact List.mem_append_left _ eb) (by simpa using cq) G
    obtain ⟨rest,rfl⟩:=br;simp only [gI,O,if_neg bf] at hx;unfold wpOp;simp only [O,ay,if_true];refine .inl ?_;have hw:=BO hx r;have cd:=Go.Abs.Oper.wp_mono2 (K':=fun a' w'=>∃ φ' s',(WT P ops (XW ops H j) s'∧(q ∈ rest→look s'.T d=none)∧gI P N ops Qh H q d rest s')∧Q6 φ' M1 N D (look s'.T) (look s'.H) a' w'∧QT φ (look s.H) w φ' (look s'.H) w') (Q':=Post N D Qh φ0 M0 h0 w0) hw (fun _ _ h=>h) (fun e a' w' p=>tq cw (p.trans E));refine Oper.wp_mono ?_ (qB (ops:=ops) Y bn bh bk (bx _ _ _ Y (c0 _ _)) b6 cd);rintro a' w' ⟨b',ar,al,φ',s',⟨be,dp,ba⟩,r',E'⟩;have cl:=b9 b' w' s' φ' M1 al r' (ax s' be)
    have cj:j ∉ rest:=by
     rw [aa] at aw;exact (List.nodup_cons.1 (List.nodup_append.1 aw).2.1).1
    have a8:∀ c ∈ done++[j],(listed.setIfInBounds j true).getD c false=true:=fun x hx=>by
     rw [eL];rcases List.mem_append.1 hx with G | G
     ·rw [bc x G]; rfl
     ·rw [List.mem_singleton] at G;simp [G]
    have bo:∀ c ∈ rest,c ≠ q→(listed.setIfInBounds j true).getD c false=false:=by
     intro x hx ak;rw [eL,ad x (List.mem_cons_of_mem _ hx) ak];have:x ≠ j:=fun e=>cj (e ▸ hx)
     simp [this]
    have dc:q ∈ rest→look s'.T d=none∧∀ i ∈ H,(listed.setIfInBounds j true).getD i false=false→Gp P ops i s':=fun h=>⟨dp h,ax s' be⟩
    rcases hM with ⟨G,rfl⟩ | ⟨G,h2,h3,k,oq,ty,ti,z,rfl,c7,ah,bd,hi,hz,dy,c2,df,cz⟩
    ·refine ih (done++[j]) rest (listed.setIfInBounds j true) a' b' w' s' φ' M1 (by rw [aa]; simp) (by simpa using aj) bb ae a8 bo (am _ _ ar) r' (E.trans E') cl dc (.inl ⟨fun h=>?_,rfl⟩) ba;rw [eL,G (List.mem_cons_of_mem _ h)];simp [Ne.symm bf]
    ·have ed:q ∈ rest:=(List.mem_cons.1 G).resolve_left (Ne.symm bf)
     have ei:o.dst ≠ some d:=by
      have:=List.all_eq_true.1 cg j av;simp only [O,Bool.or_eq_true,beq_iff_eq,bne_iff_ne] at this;exact this.resolve_left bf
     have b0:b'.tmps[d]?=some (.pointer (some ⟨k,0,none⟩)):=by rw [al d ei]; exact dy
     have b5:w'.heap[k]?=some (.cells z.cells ty (0,0)):=by
      rw [E'.same k (FY.1 c2).1 (fun c hc e=>r.hp.fr c hc 0 (.inr e))];exact c2
     have cy:(listed.setIfInBounds j true).getD q false=true:=by rw [eL,h2]; rfl
     by_cases cc:rest.head?=some q
     ·cases rest with
      | nil=>cases cc
      | cons c rest =>
       obtain rfl:c=q:=Option.some.inj cc;simp only [gI,c7,if_true] at ba;obtain ⟨u,c3,hu,U,cq⟩:=ba;obtain ⟨r2,E2⟩:=mV r' (E.trans E') df cz ah bd hi hz da b0 b5 hu
       have bg:c ∉ rest:=by
        rw [aa] at aw;exact (List.nodup_cons.1 (List.nodup_cons.1 (List.nodup_append.1 aw).2.1).2).1
       refine ih (done++[j,c]) rest (listed.setIfInBounds j true) a' b' w' _ _ M0 (by rw [aa]; simp) (by simpa using aj) bb ae (fun x hx=>?_) (fun x hx=>bo x (List.mem_cons_of_mem _ hx)) (am _ _ ar) r2 E2 cl (fun h=>absurd h bg) (.inl ⟨fun h=>absurd h bg,rfl⟩) cq;rcases List.mem_append.1 hx with h4 | h4
       ·exact a8 x (List.mem_append_left _ h4)
       ·simp only [List.mem_cons,List.not_mem_nil,or_false] at h4;rcases h4 with h4 | h4
        ·exact a8 x (by simp [h4])
        ·rw [h4]; exact cy
     ·exact ih (done++[j]) rest (listed.setIfInBounds j true) a' b' w' s' φ' _ (by rw [aa]; simp) (by simpa using aj) bb ae a8 bo (am _ _ ar) r' (E.trans E') cl dc (.inr ⟨ed,cy,cc,k,oq,ty,ti,z,rfl,c7,ah,bd,hi,hz,b0,b5,df,cz⟩) ba
theorem Qc0 {R:Type} {r0:R} {Q:R→AX→St→Prop} (H:List Nat) (q d:Nat) (Cs:List Nat) (hm:P.follows .mixedOrders=true) (ad:UO ops=true) (hok:Ec P N H q d Cs ops=true) (h1:RB P N ops H s=some s1)
  (hl:WT P ops H s1) (hT:look s1.T d=none) (h:gI P N ops (qh ops Q r0) H q d Cs s1):Ex P N ro (.region id ops true) s (Q r0):=by
 intro φ M0 D a w r;refine wpIn_region_any hm (Nw ad Wh _ _ _ _ ?_);have hd:QT φ (look s.H) w φ (look s.H) { w with drawn:=w.drawn+1 }:=BD rfl rfl rfl rfl;have r1:Q6 φ M0 N D (look s.T) (look s.H) a { w with drawn:=w.drawn+1 }:=r.keep hd (Ri rfl) (Sd (w:=w) rfl hd r.hp);have J:=hok;simp only [Ec,Ze,decide_eq_true_eq] at J;obtain ⟨⟨⟨⟨⟨⟨⟨⟨⟨⟨⟨⟨⟨⟨ai,ac⟩,O⟩,Z⟩,am⟩,ah⟩,aa⟩,an⟩,ab⟩,al⟩,aq⟩,ak⟩,ao⟩,ae⟩,aj⟩:=J;obtain ⟨b,rb,hH,U,hJ⟩:=IW ac H s s1 a _ O h1 r1
 have G:∀ (j:Nat),(Array.replicate ops.size false).getD j false=false:=by
  intro j;rcases Nat.lt_or_ge j ops.size with h | h
  ·simp [h]
  ·simp [h]
 have Y:∀ n,IR (Array.replicate ops.size false) n≤n:=by
  intro n
  induction n with
  | zero=>simp [IR]
  | succ n ih=>simp only [IR]; split <;> omega
 have h2:=QaL (D:=D) (φ0:=φ) (h0:=look s.H) (w0:=w) (M0:=M0) hok (Q:=Q r0) (Qh:=qh ops Q r0) (fun _ h=>h) (fun _ _ h=>h) ops.size [] Cs (Array.replicate ops.size false) a b { w with drawn:=w.drawn+1 } s1 φ M0 rfl zq (Y _) (fun j o _ hj=>by rw [G] at hj; cases hj) (fun c hc=>by cases hc) (fun c _ _=>G c)
  ⟨U.1,U.2.1,fun t ht=>U.2.2 t (fun hc=>ht (by obtain ⟨i,hi,af⟩:=hc; exact ⟨i,hi,G i,af⟩))⟩ rb (by rw [hH]; exact hd) (fun i hi _=>hJ i hi) (fun _=>⟨hT,fun i hi _=>hl i hi⟩) (.inl ⟨fun _=>G q,rfl⟩) h
 refine XA ?_ _ _ _ _ h2;exact fun e a' w' h=>h
structure uk {R:Type} (a:Option R) (P:Program) (N:Nat) (ops:Array Oper) (Q:R→AX→St→Prop) (H:List Nat) (q d:Nat) (Ch:List Nat) (s:St):Prop where
 intro ::
 h:∀ r,a=some r→gI P N ops (qh ops Q r) H q d Ch s
def fKf {R:Type} (P:Program) (N:Nat) (ops:Array Oper) (Q:R→AX→St→Prop) (H:List Nat) (q d:Nat) (Ch:List Nat) (c:Nat):R→St→Prop:=fun r s=>WT P ops (XW ops H c) s∧(q ∈ Ch→look s.T d=none)∧gI P N ops (qh ops Q r) H q d Ch s
theorem ul {Ch:List Nat} {q:Nat} (h:(!Ch.contains q||(look s.T d).isNone)=true):q ∈ Ch→look s.T d=none:=by
 intro G;cases e:look s.T d with
 | none=>rfl
 | some x=>simp [G,e] at h
section
variable {R V E:Type} {a a1 a2:Option R} {P:Program} {N:Nat} {ro:Option Nat} {id:Nat} {ops:Array Oper} {o:Oper} {s s1 s':St} {Q:R→AX→St→Prop} {f:FuncId} {args args':List AV} {dst:Option Tmp} {H Ch:List Nat} {c i q d:Nat}
theorem um (H:List Nat) (q d:Nat) (Ch:List Nat) (Z:P.follows .mixedOrders=true) (O:UO ops=true) (hok:Ec P N H q d Ch ops=true) (Y:(RB P N ops H s).isSome=true) (J:WT P ops H ((RB P N ops H s).getD s)) (G:(look ((RB P N ops H s).getD s).T d).isNone=true)
  (h:uk a P N ops Q H q d Ch ((RB P N ops H s).getD s)):QO a P N ro (.region id ops true) s Q:=by
 obtain ⟨s1,e⟩:=Td.1 Y;rw [e] at h J G;simp only [Option.getD_some] at h J G;exact ⟨fun r U=>Qc0 H q d Ch Z O hok e J (by cases e:look s1.T d with | none=>rfl | some x=>rw [e] at G; cases G) (h.h r U)⟩
theorem Qeu (h:Zt a Q .normal s):uk a P N ops Q H q d [] s:=⟨fun r G=>h.h r G⟩
theorem kf (G:List Nat) (O:XW ops H c=G) (Y:WT P ops G s) (U:(!Ch.contains q||(look s.T d).isNone)=true) (h:uk a P N ops Q H q d Ch s):Dv a (fKf P N ops Q H q d Ch c) s :=
 ⟨fun r J=>⟨O ▸ Y,ul U,h.h r J⟩⟩
theorem f_q (U:List Nat) (Z:XW ops H q=U) (h0:(RF P N ops q s).isSome=true) (J:WT P ops U ((RF P N ops q s).getD s)) (h:uk a P N ops Q H q d Ch ((RF P N ops q s).getD s)):uk a P N ops Q H q d (q :: Ch) s:=by
 obtain ⟨s',G⟩:=Td.1 h0;rw [G] at J h;simp only [Option.getD_some] at J h;unfold RF at G;refine ⟨fun r Y=>?_⟩;simp only [gI];cases ho:ops[q]? with
 | none=>rw [ho] at G; cases G
 | some o =>
  simp only [ho,QJ,if_true] at G ⊢;split at G
  ·cases G
  ·cases G
  ·cases G
  ·split at G;rotate_left
   ·cases G
   rename_i O;obtain ⟨u,hu,rfl⟩:=GK.1 G;exact ⟨u,O,hu,Z ▸ J,h.h r Y⟩
theorem QhD (L':List Nat) (O:Nat.beq c q=false) (hL:XW ops H c=L') (h0:(RF P N ops c s).isSome=true) (U:WT P ops L' ((RF P N ops c s).getD s)) (Z:(!Ch.contains q||(look ((RF P N ops c s).getD s).T d).isNone)=true) (h:uk a P N ops Q H q d Ch ((RF P N ops c s).getD s)):uk a P N ops Q H q d (c :: Ch) s:=by
 obtain ⟨s',G⟩:=Td.1 h0;rw [G] at U h Z;simp only [Option.getD_some] at U h Z;unfold RF at G;refine ⟨fun r hr=>?_⟩;have hne:¬ c=q:=fun e=>by subst e; simp at O
 simp only [gI];cases ho:ops[c]? with
 | none=>rw [ho] at G; cases G
 | some o =>
  simp only [ho,QJ,if_neg hne] at G ⊢;unfold XP;split at G
  ·cases G
  ·cases G
  ·cases G
  ·rename_i n1 n2 n3;split at G;rotate_left
   ·cases G
   rename_i Y;obtain ⟨u,hu,rfl⟩:=GK.1 G
   have key:O1 N o s (fun s'=>WT P ops (XW ops H c) s'∧(q ∈ Ch→look s'.T d=none)∧gI P N ops (qh ops Q r) H q d Ch s') (WW P o (look s.T) (look s.H)):=by
    rw [hu];exact ⟨Y,hL ▸ U,ul Z,h.h r hr⟩
   split
   ·rename_i J; exact absurd J (n1 _ _ _)
   ·rename_i J; exact absurd J (n2 _)
   ·rename_i J; exact absurd J (n3 _ _ _)
   ·exact .inl key
theorem IX (hf:(ops[c]?).bind (fun o=>(ZO (look s.T) o.op).map fun p=>(p.1,p.2,o.dst))=some (f,args,dst)) (hb:K7 P f=true) (J:Nat.beq c q=false) (h:NB a P N f args dst s (fKf P N ops Q H q d Ch c) (qh ops Q)):uk a P N ops Q H q d (c :: Ch) s:=by
 refine ⟨fun r U=>?_⟩;have hne:¬ c=q:=fun e=>by subst e; simp at J
 simp only [gI];cases ho:ops[c]? with
 | none=>rw [ho] at hf; cases hf
 | some o =>
  simp only [ho,QJ,if_neg hne] at hf ⊢;obtain ⟨⟨f0,G⟩,Y,O⟩:=GK.1 hf;simp only [Prod.mk.injEq] at O;obtain ⟨rfl,rfl,rfl⟩:=O;exact Xy Y hb (h.h r U)
end
def tF (k:Nat) (x:AV):Blk→Blk
 | .box ty cs=>.box ty (cs.set k x)
 | q=>q
def Gy (b k:Nat) (x:AV) (s:St):St:=⟨s.T,s.H.map fun p=>if p.1=b then (p.1,tF k x p.2) else p⟩
theorem Mo {b k:Nat} {x:AV}:∀ (H:List (Nat × Blk)) (c:Nat),look (H.map fun p=>if p.1=b then (p.1,tF k x p.2) else p) c=if b=c then (look H c).map (tF k x) else look H c
 | [],c=>by simp [look]
 | (d,q) :: H,c=>by
  rw [List.map_cons];by_cases J:d=b
  ·subst J;simp only [if_true,look];by_cases G:d=c
   ·simp [G]
   ·simp only [G,if_false];rw [Mo H c];simp [G]
  ·simp only [J,if_false,look];by_cases G:d=c
   ·subst G;simp [Ne.symm J]
   ·simp only [G,if_false];exact Mo H c
theorem qL {k:Nat} {x:AV} {ty:Nat} {cs:List AV} (hb:look s.H b=some (.box ty cs)):look (Gy b k x s).H=upd (look s.H) b (.box ty (cs.set k x)):=by
 funext c;show look (s.H.map _) c=_;rw [Mo];by_cases e:b=c
 ·subst e; simp [upd,hb,tF]
 ·simp [upd,e]
theorem RG {φ:Nat→Nat} {h:QG} {w:World} {M:Zn}:∀ {cs:List AV} {l:List Value} {k:Nat} {x:AV},Qi φ h w M cs l→cs[k]?=some x→∃ u,l[k]?=some u∧Qe φ h w M x u
 | [],l,k,x,_,h=>by simp at h
 | c :: cs,l,k,x,G,h=>by
  simp only [Qi] at G;obtain ⟨y,ys,rfl,O,J⟩:=G;cases k with
  | zero=>simp at h; subst h; exact ⟨y,rfl,O⟩
  | succ k=>simp at h; simpa using RG J h
theorem FE {φ:Nat→Nat} {h:QG} {w:World} {M:Zn}:∀ {cs:List AV} {l:List Value} {k:Nat} {x:AV} {u:Value},Qi φ h w M cs l→l[k]?=some u→Qe φ h w M x u→Qi φ h w M (cs.set k x) l
 | [],l,k,x,u,J,G,O=>by simpa using J
 | c :: cs,l,k,x,u,J,G,O=>by
  simp only [Qi] at J;obtain ⟨y,ys,rfl,Y,U⟩:=J;cases k with
  | zero=>simp at G; subst G; exact ⟨_,ys,rfl,O,U⟩
  | succ k=>simp at G; exact ⟨y,ys,rfl,Y,FE U G O⟩
section
variable {φ φ0:Nat→Nat} {h h0:QG} {w w0:World} {M0:Zn} {b ty:Nat} {cs cs':List AV}
theorem C8 (hb:h b=some (.box ty cs)):VL φ h w φ (upd h b (.box ty cs')) w:=by
 refine ⟨fun c t q hc=>⟨?_,rfl⟩,fun t J S n hc=>⟨n,?_,Nat.le_refl _,fun _=>Yi rfl rfl⟩,fun t J S n hc=>⟨n,?_,Nat.le_refl _,fun _=>⟨rfl,fun c hc=>⟨c,hc,rfl⟩⟩⟩,fun c k x hc G=>⟨⟨k,?_,G⟩,rfl⟩⟩
 ·by_cases e:b=c
  ·subst e; exact ⟨ty,cs',by simp [upd]⟩
  ·exact ⟨t,q,by simp [upd,e,hc]⟩
 ·have:¬ b=t:=fun e=>by subst e; rw [hb] at hc; cases hc
  simp [upd,this,hc]
 ·have:¬ b=t:=fun e=>by subst e; rw [hb] at hc; cases hc
  simp [upd,this,hc]
 ·have:¬ b=c:=fun e=>by subst e; rw [hb] at hc; cases hc; cases G
  simp [upd,this,hc]
theorem Ed (hb:h b=some (.box ty cs)):∀ r o,DJ φ (upd h b (.box ty cs')) r o→DJ φ h r o:=by
 rintro r o ⟨c,k,J,G,O⟩;by_cases e:b=c
 ·subst e;exact ⟨b,_,hb,G,trivial⟩
 ·simp only [upd,e,if_false] at J;exact ⟨c,k,J,G,O⟩
theorem Ee (hb:h b=some (.box ty cs)):QT φ h w φ (upd h b (.box ty cs')) w:=by
 have X:=C8 (φ:=φ) (w:=w) (cs':=cs') hb;refine ⟨rfl,rfl,rfl,Nat.le_refl _,fun _ _ _=>rfl,fun _ _ _ _=>rfl,fun r o _ O=>Ed hb r o O,fun c t q _ hc=>?_,fun t G S n _ hc=>X.t t G S n hc,fun t G S n _ hc=>X.v t G S n hc,fun c k x _ hc J=>X.o c k x hc J⟩;by_cases e:b=c
 ·subst e;rw [hb] at hc;cases hc;exact ⟨⟨cs',by simp [upd]⟩,rfl⟩
 ·exact ⟨⟨q,by simp [upd,e,hc]⟩,rfl⟩
theorem QaM (hb:h b=some (.box ty cs)) (r:Zw φ h w M0) (hc:∀ c:Array Value,w.heap[φ b]?=some (.cells c ty (0,0))→Qi φ h w (MM φ h M0) cs' c.toList):Zw φ (upd h b (.box ty cs')) w M0:=by
 have Y:∀ x o v,w.cell? ⟨x,o,none⟩=some v→¬ MM φ h M0 x o→w.cell? ⟨x,o,none⟩=some v∧¬ MM φ (upd h b (.box ty cs')) M0 x o:=fun x o v O Z=>⟨O,fun U=>Z (U.imp (Ed hb x o) id)⟩
 have X:=C8 (φ:=φ) (w:=w) (cs':=cs') hb
 have G:∀ c,upd h b (.box ty cs') c ≠ none→h c ≠ none:=fun c hc=>by
  by_cases e:b=c
  ·subst e; rw [hb]; simp
  ·simpa [upd,e] using hc
 refine ⟨fun c d hc hd=>r.inj c d (G c hc) (G d hd),fun c k J=>?_,fun c hc=>r.fr c (G c hc),r.lt,r.gm.sub fun x o U=>U.imp (Ed hb x o) id⟩;by_cases e:b=c
 ·subst e;simp only [upd,if_true,QN] at J;subst J;obtain ⟨q,O,Z⟩:=r.blk b _ hb;exact ⟨q,O,(QI Y X).2 _ _ (hc q O)⟩
 ·simp only [upd,e,if_false] at J;exact ZI Y X rfl (r.blk c k J)
end
theorem vY {ty:Nat} {cs cs':List AV} (r:Q6 φ M0 N D T h a w) (hb:h b=some (.box ty cs)) (hc:∀ c:Array Value,w.heap[φ b]?=some (.cells c ty (0,0))→Qi φ h w (MM φ h M0) cs' c.toList) :
  Q6 φ M0 N D T (upd h b (.box ty cs')) a w:=by
 have J:∀ x o v,w.cell? ⟨x,o,none⟩=some v→¬ MM φ h M0 x o→w.cell? ⟨x,o,none⟩=some v∧¬ MM φ (upd h b (.box ty cs')) M0 x o:=fun x o v U O=>⟨U,fun Y=>O (Y.imp (Ed hb x o) id)⟩
 exact ⟨r.dfs.keep (Ee hb),r.siz,QaM hb r.hp hc,fun t x G=>⟨(r.tm t x G).1,(QI J (C8 hb)).1 _ _ (r.tm t x G).2⟩⟩
theorem NK {α:Type} {f:Nat→Bool}:∀ {H:List (Nat × α)} {c:Nat},f c=true→look (H.filter fun p=>f p.1) c=look H c
 | [],c,_=>rfl
 | (d,q) :: H,c,hf=>by
  by_cases e:d=c
  ·subst e;rw [List.filter_cons_of_pos (by simpa using hf)];simp [look]
  ·by_cases G:f d=true
   ·rw [List.filter_cons_of_pos (by simpa using G)];simp only [look,e,if_false];exact NK hf
   ·rw [List.filter_cons_of_neg (by simpa using G)];simp only [look,e,if_false];exact NK hf
def qM (t:Nat) (s G:St):Bool:=okT (look G.H) G.T&&lQ (look G.H) G.H&&KU (look G.H) (s.H.filter fun p=>p.1 != t)&&(look G.H t).isNone
def M3 (φ:Nat→Nat) (w:World) (t S n:Nat) (M0:Zn):Zn:=fun r o=>M0 r o∨(r=φ t∧n * S≤o∧r < w.heap.size)
theorem uo {t ty S:Nat} {K:FZ} (r:Q6 φ M0 N D (look s.T) (look s.H) a w) (af:look s.H t=some (.arr ty S n)) (hok:qM t s (shr K s)=true) :
  Q6 φ (M3 φ w t S n M0) N D (look (shr K s).T) (look (shr K s).H) a w∧(∀ x v,ZW (look (shr K s).H) x=true→Qe φ (look s.H) w (MM φ (look s.H) M0) x v→Qe φ (look (shr K s).H) w (MM φ (look (shr K s).H) (M3 φ w t S n M0)) x v)∧(∀ b k',look (shr K s).H b=some k'→∃ k,look s.H b=some k∧leB k k') ∧
  (∀ r o,MM φ (look (shr K s).H) (M3 φ w t S n M0) r o→MM φ (look s.H) M0 r o):=by
 simp only [qM,Ze] at hok;obtain ⟨⟨⟨ai,ak⟩,hK⟩,ad⟩:=hok;have hT:qf (look s.T) (look (shr K s).H) (shr K s).T:=GV ai;have hH:MH (look s.H) (look (shr K s).H) (shr K s).H:=Y1 ak;generalize shr K s=s' at *;have ah:look s'.H t=none:=by cases e:look s'.H t with | none=>rfl | some x=>rw [e] at ad; cases ad
 have hh:∀ b k',look s'.H b=some k'→∃ k,look s.H b=some k∧leB k k':=fun b k' hb=>(Jr hH b k' hb).1
 have ae:∀ r o,DJ φ (look s'.H) r o→DJ φ (look s.H) r o:=by
  rintro x o ⟨b,k',Y,G,O⟩;obtain ⟨k,U,h5⟩:=hh b k' Y;refine ⟨b,k,U,G,?_⟩;cases k with
  | arr ty S n=>simp only [leB] at h5; subst h5; exact O
  | _=>trivial
 have hM:∀ r o,MM φ (look s'.H) (M3 φ w t S n M0) r o→MM φ (look s.H) M0 r o:=by
  rintro x o (h | h | ⟨rfl,h,_⟩)
  ·exact .inl (ae x o h)
  ·exact .inr h
  ·exact .inl ⟨t,_,af,rfl,h⟩
 have J:∀ b,look s'.H b ≠ none→look s.H b ≠ none:=fun b hb=>by
  cases hq:look s'.H b with
  | none=>exact absurd hq hb
  | some k'=>obtain ⟨k,Y,_⟩:=hh b k' hq; rw [Y]; simp
 obtain ⟨c1,c2⟩:=PX (φ:=φ) (w:=w) hM hh
 have ac:∀ b,look s'.H b ≠ none→φ b ≠ φ t:=by
  intro b hb e;have:=r.hp.inj b t (J b hb) (by rw [af]; simp) e;rw [this,ah] at hb;exact hb rfl
 have aj:Zw φ (look s'.H) w (M3 φ w t S n M0):=by
  refine ⟨fun b c hb hc=>r.hp.inj b c (J b hb) (J c hc),fun b k' hb=>?_,fun b hb o hm=>?_,fun x o Z=>?_,r.hp.gm.sub hM⟩
  ·obtain ⟨⟨k,Y,G⟩,O⟩:=Jr hH b k' hb;have U:=r.hp.blk b k Y;cases k with
   | box ty cs =>
    simp only [leB] at G;obtain ⟨cs',rfl,h5⟩:=G;obtain ⟨c,h6,h7⟩:=U;exact ⟨c,h6,c2 _ _ O (JJ.2 _ _ _ h5 h7)⟩
   | arr ty S n=>simp only [leB] at G; subst G; exact U
   | vec ty S es =>
    simp only [leB] at G;subst G;obtain ⟨c,cap,g1,g2,g3,g4,g5,g6,g7⟩:=U;exact ⟨c,cap,g1,g2,g3,g4,g5,g6,c2 _ _ (PW _ _) g7⟩
   | lp T nf st pd =>
    simp only [leB] at G;subst G;obtain ⟨tmps,d,g1,g2,g3⟩:=U;exact ⟨tmps,d,g1,g2,fun t x ht=>⟨(g3 t x ht).1,c1 _ _ (Hg O ht) (g3 t x ht).2⟩⟩
   | mp es =>
    simp only [leB] at G;subst G;obtain ⟨en,cl,g1,g2,g3⟩:=U;exact ⟨en,cl,g1,g2,c2 _ _ (Rq _ _) g3⟩
   | mf es =>
    simp only [leB] at G;subst G;obtain ⟨en,cl,g1,g2,g3,g5⟩:=U;exact ⟨en,cl,g1,g2,c2 _ _ (WF O) g3,g5⟩
   | mg en cl es =>
    simp only [leB] at G;subst G;obtain ⟨g1,g2,g3,g5⟩:=U;exact ⟨g1,g2,c2 _ _ (WF O) g3,g5⟩
   | it m cl sn =>
    simp only [leB] at G;subst G;obtain ⟨g1,k0,g2,g3⟩:=U;obtain ⟨km,ab⟩:=Td.1 O;obtain ⟨k1,g5,g6⟩:=hh m km ab;rw [g2] at g5;cases g5;exact ⟨g1,km,ab,XT g6 g3⟩
  ·rcases hm with hm | ⟨hm,_⟩
   ·exact r.hp.fr b (J b hb) o hm
   ·exact ac b hb hm
  ·rcases Z with Z | ⟨rfl,_,Z⟩
   ·exact r.hp.lt x o Z
   ·exact Z
 have aa:Marks φ D (look s'.H) a w:=by
  obtain ⟨h0,ms,Y,G,O⟩:=r.dfs;exact ⟨h0,ms,Y,G,fun x Z=>⟨(O x Z).1,(O x Z).2.1,fun b hb=>(O x Z).2.2 b (J b hb)⟩⟩
 refine ⟨⟨aa,r.siz,aj,fun t x ht=>?_⟩,c1,hh,hM⟩;obtain ⟨y,Y,G,O⟩:=BR hT t x ht;exact ⟨(r.tm t y Y).1,c1 _ _ O (JJ.1 _ _ _ G (r.tm t y Y).2)⟩
def zO (b k t:Nat) (x:AV) (q:Blk) (s:St):St:=⟨s.T,(t,q) :: s.H.map fun p=>if p.1=b then (p.1,tF k x p.2) else p⟩
def cellAt (b k:Nat) (s:St):Option AV:=(look s.H b).bind fun q=>match q with | .box _ cs=>cs[k]? | _=>none
def Qev (b k t:Nat) (x:AV) (q:Blk) (u:Value) (K:St→Prop):St→Prop:=fun s'=>cellAt b k s'=some (.p (.val u))∧look s'.H t=none∧K (zO b k t x q s')
theorem Lj {k:Nat} {x:AV} (h:cellAt b k s=some x):∃ ty cs,look s.H b=some (.box ty cs)∧cs[k]?=some x:=by
 obtain ⟨y,J,G⟩:=Option.bind_eq_some_iff.1 h;split at G
 ·exact ⟨_,_,J,G⟩
 ·cases G
theorem uq {a':Act} {k t ty S:Nat} {u:Value} {K:FZ} (r:Q6 φ M0 N D (look s.T) (look s.H) a w) (ac:look s.H t=some (.arr ty S n)) (hok:qM t s (shr K s)=true) (hn:es.length=n) (bb:¬ b=t)
  (ao:Qe φ (look s.H) w (MM φ (look s.H) M0) (.tsl S es t) u) (hc:cellAt b k s'=some (.p (.val u))) (a7:look s'.H t=none) (r':Q6 φ' (M3 φ w t S n M0) N D (look s'.T) (look s'.H) a' w') (E':QT φ (look (shr K s).H) w φ' (look s'.H) w') :
  ∃ ad,Q6 ad M0 N D (look (zO b k t (.tsl S es t) (.arr ty S n) s').T) (look (zO b k t (.tsl S es t) (.arr ty S n) s').H) a' w'∧QT φ (look s.H) w ad (look (zO b k t (.tsl S es t) (.arr ty S n) s').H) w' ∧
   ∀ x v,Qe φ' (look s'.H) w' (MM φ' (look s'.H) (M3 φ w t S n M0)) x v→Qe ad (look (zO b k t (.tsl S es t) (.arr ty S n) s').H) w' (MM ad (look (zO b k t (.tsl S es t) (.arr ty S n) s').H) M0) x v:=by
 obtain ⟨rd,_,hh,a8⟩:=uo r ac hok;simp only [qM,Ze] at hok;obtain ⟨⟨⟨be,bf⟩,hK⟩,az⟩:=hok;obtain ⟨SL,cs,hb,bc⟩:=Lj hc
 have hH:look (zO b k t (.tsl S es t) (.arr ty S n) s').H=upd (upd (look s'.H) b (.box SL (cs.set k (.tsl S es t)))) t (.arr ty S n):=by
  funext c;simp only [zO,look];rw [Mo];by_cases e:t=c
  ·simp [upd,e]
  ·by_cases Y:b=c
   ·subst Y; simp [upd,e,hb,tF]
   ·simp [upd,e,Y]
 rw [hH];show ∃ ad,Q6 ad M0 N D (look s'.T) _ a' w'∧_;obtain ⟨tf,ar⟩:∃ tf,tf=if φ t < w.heap.size then φ t else w'.heap.size+((s'.H.map (·.1)).map φ').foldr max 0+1:=⟨_,rfl⟩
 have U:φ t < w.heap.size→tf=φ t:=fun h=>by rw [ar,if_pos h]
 have af:¬ φ t < w.heap.size→w'.heap.size≤tf:=fun h=>by rw [ar,if_neg h]; omega
 have aw:¬ φ t < w.heap.size→n=0:=fun h=>by
  rcases r.hp.blk t _ ac with h0 | ⟨c,cap,Z,_⟩
  ·exact h0.1
  ·exact absurd (FY.1 Z).1 h
 have ay:∀ c,look s'.H c ≠ none→φ' c ≠ tf:=by
  intro c hc e;by_cases hlt:φ t < w.heap.size
  ·rw [U hlt] at e;exact r'.hp.fr c hc (n * S) (.inr ⟨e,Nat.le_refl _,by rw [e]; exact hlt⟩)
  ·have:=Gx ((s'.H.map (·.1)).map φ') (φ' c) (List.mem_map_of_mem (Z8.1 hc));rw [ar,if_neg hlt] at e;omega
 have aa:φ t < w.heap.size→w'.heap[φ t]?=w.heap[φ t]?:=fun hlt=>E'.same (φ t) hlt fun c hc e=>rd.hp.fr c hc (n * S) (.inr ⟨e,Nat.le_refl _,by rw [e]; exact hlt⟩)
 have av:∀ c,look (shr K s).H c ≠ none→look s.H c ≠ none:=fun c hb=>by
  cases hq:look (shr K s).H c with
  | none=>exact absurd hq hb
  | some k'=>obtain ⟨k,Z,_⟩:=hh c k' hq; rw [Z]; simp
 have ak:∀ x o,DJ φ (look (shr K s).H) x o→DJ φ (look s.H) x o:=by
  rintro x o ⟨c,k',Z,h2,h3⟩;obtain ⟨k,h4,h5⟩:=hh c k' Z;refine ⟨c,k,h4,h2,?_⟩;cases k with
  | arr ty S n=>simp only [leB] at h5; subst h5; exact h3
  | _=>trivial
 let h0:QG:=upd (upd (look s'.H) b (.box SL (cs.set k (.tsl S es t)))) t (.arr ty S n)
 have an:h0 t=some (.arr ty S n):=by simp [h0,upd]
 have aq:h0 b=some (.box SL (cs.set k (.tsl S es t))):=by simp [h0,upd,Ne.symm bb]
 have ab:∀ c,¬ t=c→¬ b=c→h0 c=look s'.H c:=fun c O Y=>by simp [h0,upd,O,Y]
 have G:∀ c,¬ t=c→Qu φ' t tf c=φ' c:=fun c e=>by simp [Qu,e]
 have J:Qu φ' t tf t=tf:=by simp [Qu]
 have ai:∀ x o,DJ (Qu φ' t tf) h0 x o→DJ φ' (look s'.H) x o∨(x=tf∧n * S≤o):=by
  rintro x o ⟨c,q,Z,h2,h3⟩;by_cases O:t=c
  ·subst O;rw [an] at Z;cases Z;rw [J] at h2;exact .inr ⟨h2.symm,h3⟩
  ·rw [G c O] at h2;by_cases Y:b=c
   ·subst Y;exact .inl ⟨b,_,hb,h2,trivial⟩
   ·rw [ab c O Y] at Z;exact .inl ⟨c,q,Z,h2,h3⟩
 have au:∀ x o,x < w'.heap.size→MM (Qu φ' t tf) h0 M0 x o→MM φ' (look s'.H) (M3 φ w t S n M0) x o:=by
  rintro x o hx (h | h)
  ·rcases ai x o h with h | ⟨Z,h2⟩
   ·exact .inl h
   ·by_cases hlt:φ t < w.heap.size
    ·rw [U hlt] at Z;exact .inr (.inr ⟨Z,h2,by rw [Z]; exact hlt⟩)
    ·have:=af hlt;omega
  ·exact .inr (.inl h)
 have ae:∀ c q,look s'.H c=some q→¬ t=c:=fun c q hc e=>by subst e; rw [a7] at hc; cases hc
 have ah:∀ c q,look s'.H c=some q→b=c→q=.box SL cs:=fun c q hc e=>by subst e; rw [hb] at hc; exact (Option.some.inj hc).symm
 have X:VL φ' (look s'.H) w' (Qu φ' t tf) h0 w':=by
  refine ⟨fun c t' cs' hc=>⟨?_,G c (ae c _ hc)⟩,fun c t' S n hc=>?_,fun c t' S n hc=>?_,fun c k' x hc ho=>?_⟩
  ·by_cases e:b=c
   ·subst e; exact ⟨_,_,aq⟩
   ·exact ⟨t',cs',by rw [ab c (ae c _ hc) e]; exact hc⟩
  ·have e:¬ b=c:=fun e=>by cases ah c _ hc e
   exact ⟨n,by rw [ab c (ae c _ hc) e]; exact hc,Nat.le_refl _,fun _=>Yi (G c (ae c _ hc)) rfl⟩
  ·have e:¬ b=c:=fun e=>by cases ah c _ hc e
   exact ⟨n,by rw [ab c (ae c _ hc) e]; exact hc,Nat.le_refl _,fun _=>⟨G c (ae c _ hc),fun c ba=>⟨c,ba,rfl⟩⟩⟩
  ·have e:¬ b=c:=fun e=>by rw [ah c _ hc e] at ho; cases ho
   exact ⟨⟨k',by rw [ab c (ae c _ hc) e]; exact hc,ho⟩,G c (ae c _ hc)⟩
 have aj:∀ x o v,w'.cell? ⟨x,o,none⟩=some v→¬ MM φ' (look s'.H) (M3 φ w t S n M0) x o→w'.cell? ⟨x,o,none⟩=some v∧¬ MM (Qu φ' t tf) h0 M0 x o:=fun x o v Z h2=>⟨Z,fun hm=>h2 (au x o (BC Z) hm)⟩
 have a6:Qe (Qu φ' t tf) h0 w' (MM (Qu φ' t tf) h0 M0) (.tsl S es t) u:=by
  simp only [Qe] at ao ⊢;obtain ⟨p1,Vs,n2,p2,p3,p4⟩:=ao;rw [ac] at p2;cases p2;refine ⟨(ZP (w:=w) (w':=w') (M:=MM φ (look s.H) M0) (fun x o v g1 g2=>?_)).1 _ _ p1,ty,n,an,by omega,fun _=>?_⟩;rotate_left
  ·rcases p4 hn with ⟨z1,z2,z3⟩ | ⟨cap,c2,q1,q2,q3,q4,q5⟩
   ·have hlt:¬ φ t < w.heap.size:=fun h=>by have:=Oy z3; omega
    exact .inl ⟨z1,z2,by rw [J]; exact ZE (af hlt)⟩
   ·have hlt:φ t < w.heap.size:=(FY.1 q2).1;exact .inr ⟨cap,c2,by rw [J,U hlt]; exact q1,by rw [J,U hlt,aa hlt]; exact q2,q3,q4,q5⟩
  obtain ⟨g3,g4⟩:=E'.keeps (M3 φ w t S n M0) x o v g1 (fun hm=>g2 (a8 x o hm));exact aj x o v g3 g4
 refine ⟨Qu φ' t tf,⟨?_,r'.siz,⟨?_,?_,?_,fun x o hx=>r'.hp.lt x o (.inl hx),r'.hp.gm.w,fun g hg o hm=>r'.hp.gm.m g hg o (au g o (yZ r'.hp.gm.w g hg) hm)⟩,fun c x ax=>⟨(r'.tm c x ax).1,(QI aj X).1 _ _ (r'.tm c x ax).2⟩⟩,?_,(QI aj X).1⟩
 ·obtain ⟨g0,ms,g1,g2,g3⟩:=r'.dfs;refine ⟨g0,ms,g1,g2,fun x hx=>?_⟩;obtain ⟨g4,g5,g6⟩:=g3 x hx;refine ⟨g4,g5,fun c hc e=>?_⟩;by_cases O:t=c
  ·subst O;rw [J] at e;by_cases hlt:φ t < w.heap.size
   ·rw [U hlt] at e;rcases r.hp.blk t _ ac with ⟨_,q1⟩ | ⟨c2,cap,q1,_⟩
    ·rw [← e,aa hlt,q1] at g5;cases g5
    ·rw [← e,aa hlt,q1] at g5;cases g5
   ·have Z:=af hlt;have h2:=(FY.1 g5).1;omega
  ·rw [G c O] at e;refine g6 c ?_ e;by_cases Y:b=c
   ·subst Y; rw [hb]; simp
   ·rw [← ab c O Y]; exact hc
 ·have am:∀ c,h0 c ≠ none→¬ t=c→look s'.H c ≠ none:=fun c hc O=>by
   by_cases Y:b=c
   ·subst Y; rw [hb]; simp
   ·rw [← ab c O Y]; exact hc
  intro c d hc hd e;by_cases O:t=c <;> by_cases Y:t=d
  ·exact O.symm.trans Y
  ·subst O;rw [J,G d Y] at e;exact absurd e.symm (ay d (am d hd Y))
  ·subst Y;rw [J,G c O] at e;exact absurd e (ay c (am c hc O))
  ·rw [G c O,G d Y] at e;exact r'.hp.inj c d (am c hc O) (am d hd Y) e
 ·intro c q hc;by_cases O:t=c
  ·subst O;have:q=.arr ty S n:=Option.some.inj (hc.symm.trans an);subst this;rw [J];by_cases hlt:φ t < w.heap.size
   ·rw [U hlt];rcases r.hp.blk t _ ac with ⟨q0,q1⟩ | ⟨c2,cap,q1,q2⟩
    ·exact .inl ⟨q0,by rw [aa hlt]; exact q1⟩
    ·exact .inr ⟨c2,cap,by rw [aa hlt]; exact q1,q2⟩
   ·exact .inl ⟨aw hlt,ZE (af hlt)⟩
  ·rw [G c O];by_cases Y:b=c
   ·subst Y;have:q=.box SL (cs.set k (.tsl S es t)):=Option.some.inj (hc.symm.trans aq);subst this;obtain ⟨c1,g1,g2⟩:=r'.hp.blk b _ hb;obtain ⟨u',g3,g4⟩:=RG g2 bc;simp only [Qe,QH] at g4;subst g4;exact ⟨c1,g1,FE ((QI aj X).2 _ _ g2) g3 a6⟩
   ·have hc':look s'.H c=some q:=by rw [← ab c O Y]; exact hc
    exact ZI aj X rfl (r'.hp.blk c q hc')
 ·intro c hc o hm;by_cases O:t=c
  ·subst O;rw [J] at hm;by_cases hlt:φ t < w.heap.size
   ·rw [U hlt] at hm;exact r.hp.fr t (by rw [ac]; simp) o hm
   ·have Z:=af hlt;have h2:=r'.hp.lt _ _ (.inl hm);omega
  ·rw [G c O] at hm;refine r'.hp.fr c ?_ o (.inl hm);by_cases Y:b=c
   ·subst Y; rw [hb]; simp
   ·rw [← ab c O Y]; exact hc
 ·have al:∀ c q,1000≤c→¬ t=c→look s.H c=some q→∃ q',look (shr K s).H c=some q'∧leB q q':=by
   intro c q hc O hq
   have hf:look (s.H.filter fun p=>p.1 != t) c=some q:=by
    rw [NK (f:=fun x=>x != t) (by simpa using fun e=>O e.symm)];exact hq
   obtain ⟨q',Z⟩:=Kt hK c _ hc hf;obtain ⟨q2,h2,h3⟩:=hh c q' Z;rw [hq] at h2;cases h2;exact ⟨q',Z,h3⟩
  refine ⟨E'.os,E'.tape,E'.output,E'.size,fun x hx az=>E'.same x hx (fun c hc=>az c (av c hc)),fun x o hx hm=>E'.cell x o hx (fun h=>hm (ak x o h)),?_,?_,?_,?_,?_⟩
  ·intro x o hx hm;rcases ai x o hm with h | ⟨Z,h⟩
   ·exact ak x o (E'.mu x o hx h)
   ·by_cases hlt:φ t < w.heap.size
    ·rw [U hlt] at Z;exact ⟨t,_,ac,Z.symm,h⟩
    ·have:=af hlt;have:=E'.size;omega
  ·intro c t' q hc hq;have O:¬ t=c:=fun e=>by subst e; rw [ac] at hq; cases hq
   obtain ⟨q',Z,h2⟩:=al c _ hc O hq;simp only [leB] at h2;obtain ⟨cs',rfl,_⟩:=h2;obtain ⟨⟨bd,h3⟩,h4⟩:=E'.kb c t' cs' hc Z;refine ⟨?_,by rw [G c O]; exact h4⟩;by_cases Y:b=c
   ·subst Y;rw [hb] at h3;cases h3;exact ⟨_,aq⟩
   ·exact ⟨bd,(ab c O Y).trans h3⟩
  ·intro c t' S' n' hc hq;by_cases O:t=c
   ·subst O;rw [ac] at hq;cases hq;refine ⟨n,an,Nat.le_refl _,fun _=>?_⟩;by_cases hlt:φ t < w.heap.size
    ·exact Yi (J.trans (U hlt)) (aa hlt)
    ·exact Nl (ZE zo) (by rw [J]; exact ZE (af hlt))
   ·obtain ⟨q',Z,h2⟩:=al c _ hc O hq;simp only [leB] at h2;subst h2;obtain ⟨n2,h3,h4,h5⟩:=E'.kt c t' S' n' hc Z;have Y:¬ b=c:=fun e=>by cases ah c _ h3 e
    exact ⟨n2,(ab c O Y).trans h3,h4,fun e=>by rw [G c O]; exact h5 e⟩
  ·intro c t' S' es' hc hq;have O:¬ t=c:=fun e=>by subst e; rw [ac] at hq; cases hq
   obtain ⟨q',Z,h2⟩:=al c _ hc O hq;simp only [leB] at h2;subst h2;obtain ⟨n2,h3,h4,h5⟩:=E'.kv c t' S' es' hc Z;have Y:¬ b=c:=fun e=>by cases ah c _ h3 e
   exact ⟨n2,(ab c O Y).trans h3,h4,fun e=>⟨by rw [G c O]; exact (h5 e).1,(h5 e).2⟩⟩
  ·intro c q x hc hq ho;have O:¬ t=c:=fun e=>by subst e; rw [ac] at hq; cases hq; cases ho
   obtain ⟨q',Z,h2⟩:=al c _ hc O hq;obtain ⟨⟨q2,h3,h4⟩,h5⟩:=E'.ko c q' x hc Z (XT h2 ho);have Y:¬ b=c:=fun e=>by rw [ah c _ h3 e] at h4; cases h4
   exact ⟨⟨q2,(ab c O Y).trans h3,h4⟩,by rw [G c O]; exact h5⟩
section
variable {R:Type} {a:Option R} {P:Program} {N:Nat} {f:FuncId} {args:List AV} {dst:Option Tmp} {s:St} {K:R→St→Prop} {Q:R→AX→St→Prop}
def Qew {R:Type} (b k t:Nat) (x:AV) (q:Blk) (u:Value) (K:R→St→Prop):R→St→Prop:=fun r=>Qev b k t x q u (K r)
def Qex {R:Type} (b k t:Nat) (x:AV) (q:Blk) (u:Value) (Q:R→AX→St→Prop):R→AX→St→Prop:=fun r e=>Qev b k t x q u (Q r e)
theorem Wj (b k t ty S n:Nat) (es:List (List PV)) (C:FZ)   (hn:es.length=n) (hok:∀ J O G,(qM t (Gy b k (.p (.val (.slice J O G))) s) (shr C (Gy b k (.p (.val (.slice J O G))) s))&&Z0 (look (shr C (Gy b k (.p (.val (.slice J O G))) s)).H) args)=true)
  (h:∀ J O G,NB a P N f args dst (shr C (Gy b k (.p (.val (.slice J O G))) s)) (Qew b k t (.tsl S es t) (.arr ty S n) (.slice J O G) K) (Qex b k t (.tsl S es t) (.arr ty S n) (.slice J O G) Q))(hb:cellAt b k s=some (.tsl S es t):=by kernel_rfl)(ab:look s.H t=some (.arr ty S n):=by kernel_rfl):NB a P N f args dst s K Q:=by
 refine ⟨fun r hr=>?_⟩;intro φ M0 D G w vs r1 ha;obtain ⟨AP,cs,hq,Dk⟩:=Lj hb;obtain ⟨c,g1,g2⟩:=r1.hp.blk b _ hq;obtain ⟨u,g3,g4⟩:=RG g2 Dk
 have aa:∃ J O G,u=.slice J O G:=by
  have g5:=g4;simp only [Qe] at g5;obtain ⟨p1,Vs,n2,p2,p3,p4⟩:=g5;rw [ab] at p2;cases p2;rcases p4 hn with ⟨_,q1,_⟩ | ⟨cap,c2,q1,_⟩
  ·exact ⟨_,_,_,q1⟩
  ·exact ⟨_,_,_,q1⟩
 obtain ⟨J,O,aj,aa⟩:=aa;have af:¬ b=t:=fun e=>by subst e; rw [hq] at ab; cases ab
 have hU:look (Gy b k (.p (.val u)) s).H=upd (look s.H) b (.box AP (cs.set k (.p (.val u)))):=qL hq;have hk:∀ x o v,w.cell? ⟨x,o,none⟩=some v→¬ MM φ (look s.H) M0 x o→w.cell? ⟨x,o,none⟩=some v∧¬ MM φ (upd (look s.H) b (.box AP (cs.set k (.p (.val u))))) M0 x o:=fun x o v g1 g2=>⟨g1,fun hm=>g2 (hm.imp (Ed hq x o) id)⟩
 have r2:Q6 φ M0 N D (look (Gy b k (.p (.val u)) s).T) (look (Gy b k (.p (.val u)) s).H) G w:=by
  rw [hU];refine vY r1 hq fun c2 ah=>?_
  rw [g1] at ah;cases ah;exact FE g2 g3 (by simp [Qe,QH])
 have ae:look (Gy b k (.p (.val u)) s).H t=some (.arr ty S n):=by rw [hU]; simp [upd,af,ab]
 have ad:Qe φ (look (Gy b k (.p (.val u)) s).H) w (MM φ (look (Gy b k (.p (.val u)) s).H) M0) (.tsl S es t) u:=by
  rw [hU];exact (QI hk (C8 hq)).1 _ _ g4
 have E1:QT φ (look s.H) w φ (look (Gy b k (.p (.val u)) s).H) w:=by rw [hU]; exact Ee hq
 have an:Qi φ (look (Gy b k (.p (.val u)) s).H) w (MM φ (look (Gy b k (.p (.val u)) s).H) M0) args vs:=by
  rw [hU];exact (QI hk (C8 hq)).2 _ _ ha
 have Y:=hok J O aj;rw [← aa] at Y;simp only [Ze] at Y;obtain ⟨U,ai⟩:=Y;obtain ⟨r3,c1,hh,ak⟩:=uo r2 ae U;have am:=(PX (φ:=φ) (w:=w) ak hh).2 _ _ ai an;have hu:=h J O aj;rw [← aa] at hu;refine Calls.mono (hu.h r hr φ _ D G w vs r3 am) fun e w' he=>?_
 cases e with
 | returned v =>
  obtain ⟨φ',s',⟨k1,k2,k3⟩,r',E'⟩:=he;obtain ⟨Z,r4,E4,_⟩:=uq r2 ae U hn af ad k1 k2 r' E';exact ⟨Z,_,k3,r4,E1.trans E4⟩
 | panicked chain =>
  obtain ⟨φ',x,s',⟨k1,k2,k3⟩,r',E',hx⟩:=he;obtain ⟨Z,r4,E4,hX⟩:=uq r2 ae U hn af ad k1 k2 r' E';refine ⟨Z,x,_,k3,r4,E1.trans E4,?_⟩;cases x with
  | panic v =>
   obtain ⟨y,e1,e2⟩:=hx;exact ⟨y,e1,hX _ _ e2⟩
  | _=>exact hx
 | outgrown=>exact he
theorem Xm {k t:Nat} {x:AV} {q:Blk} {u:Value} (s0:St) (e:zO b k t x q s'=s0)   (h:Dv a K s0)(hb:cellAt b k s'=some (.p (.val u)):=by kernel_rfl)(J:look s'.H t=none:=by kernel_rfl):Dv a (Qew b k t x q u K) s':=by
 subst e;exact ⟨fun r G=>⟨hb,J,h.h r G⟩⟩
theorem QfV {k t:Nat} {x:AV} {q:Blk} {u:Value} {ex:AX} (s0:St) (e:zO b k t x q s'=s0) (hb:cellAt b k s'=some (.p (.val u))) (J:look s'.H t=none) (h:Zt a Q ex s0):Zt a (Qex b k t x q u Q) ex s':=by
 subst e;exact ⟨fun r G=>⟨hb,J,h.h r G⟩⟩
end
section
variable {P:Program} {o:Oper} {T:Nat→Option AV} {h:QG}
theorem ut (l:List UInt8) (a b:Nat):(JI l).extract a b=JI ((l.take b).drop a):=by
 apply ByteArray.ext;simp [JI,ByteArray.data_extract,List.drop_take]
theorem QaN (l:List UInt8):(JI l).size=l.length:=by simp [JI,ByteArray.size]
theorem Yy {P:Program} {s:Sem α} {a:α} (f:α→Sem β) (h:Yj P s=some a):Yj P (s >>= f)=Yj P (f a):=by
 induction s with
 | pure b=>simp only [Yj,QN] at h; subst h; rfl
 | program k G=>exact G P h
 | mark m k G=>exact G h
 | _=>simp [Yj] at h
theorem M4 {d:TypeDesc} (h:P.underlying t=some d):Yj P (underlying t)=some d:=by
 unfold underlying;rw [Yy (a:=P) _ rfl,h];rfl
theorem Ef {k:IntKind} {i:Int} {y:Nat} {c:BoundsCode} (h0:0≤i) (G:i≤y):Yj P (Instr.sliceBound (.int k i) y c)=some i.toNat:=by
 simp [Instr.sliceBound,asIntOf,h0,G];rfl
def lS (T:Nat→Option AV) (x:Option Operand):Option Value:=x.map fun y=>(known T y).getD undef
theorem qN {d n:Int} (h:ND T d (some x)=some n):∃ k,known T x=some (.int k n):=by
 simp only [ND] at h;split at h
 ·rename_i k m G;cases h;exact ⟨k,by simp [known,G]; rfl⟩
 ·cases h
theorem tH {hi:Option Operand} {a b:Int} (G:ND T 0 lo=some a) (J:ND T len hi=some b) (h0:0≤a) (Z:a≤b) (Y:b≤len):Yj P (Instr.sliceBounds false len len (lS T lo) (lS T hi) none)=some (a.toNat,b.toNat,len):=by
 have hb:(b.toNat:Int)=b:=by omega
 cases hi with
 | none =>
  simp only [ND,QN] at J;subst J;cases lo with
  | none =>
   simp only [ND,QN] at G;subst G;simp [Instr.sliceBounds,lS];rfl
  | some x =>
   obtain ⟨k,U⟩:=qN G;simp only [Instr.sliceBounds,lS,Option.map_some,Option.map_none,U,Option.getD_some,pure_bind];rw [Yy _ (Ef h0 Z)];rfl
 | some y =>
  obtain ⟨k',O⟩:=qN J;cases lo with
  | none =>
   simp only [ND,QN] at G;subst G;simp only [Instr.sliceBounds,lS,Option.map_some,Option.map_none,O,Option.getD_some,pure_bind];rw [Yy _ (Ef zo Y)];rfl
  | some x =>
   obtain ⟨k,U⟩:=qN G;simp only [Instr.sliceBounds,lS,Option.map_some,U,O,Option.getD_some,pure_bind];rw [Yy _ (Ef zo Y)];rw [Yy _ (Ef h0 zo)];rfl
theorem NL {hi:Option Operand} {l:List UInt8} {a b:Int} (Z:o.op=.slice t x lo hi none) (ht:P.underlying t=some .string) (hx:Za T x=some (.p (.val (.string (JI l))))) (J:ND T 0 lo=some a) (O:ND T l.length hi=some b)
  (hc:sliceB a b l.length=true):WW P o T h=some (.p (.val (.string (JI ((l.take b.toNat).drop a.toNat)))),none,[]):=by
 simp only [sliceB,decide_eq_true_eq] at hc;obtain ⟨c1,c2,c3⟩:=hc;have h1:Tz P T t x lo hi none=none:=by simp [Tz,ht,hx]
 have G:known T x=some (.string (JI l)):=by simp [known,hx]; rfl
 have U:(allKnown T o.op.operands.toList&&Xw o.op)=true:=by
  rw [Z]
  have e1:∀ y,lo=some y→(known T y).isSome=true:=by
   rintro y rfl;obtain ⟨k,G⟩:=qN J;rw [G]; rfl
  have e2:∀ y,hi=some y→(known T y).isSome=true:=by
   rintro y rfl;obtain ⟨k,G⟩:=qN O;rw [G]; rfl
  cases lo with
  | none =>
   cases hi with
   | none=>simp [Op.operands,allKnown,Xw,G]
   | some y=>simp [Op.operands,allKnown,Xw,G,e2 y rfl]
  | some x =>
   cases hi with
   | none=>simp [Op.operands,allKnown,Xw,G,e1 x rfl]
   | some y=>simp [Op.operands,allKnown,Xw,G,e1 x rfl,e2 y rfl]
 have Y:Yj P (execOp (fun x=>(known T x).getD undef) o)=some (.value (.string (JI ((l.take b.toNat).drop a.toNat)))):=by
  unfold execOp;rw [Z];dsimp only
  have:Yj P (Instr.sliceAt t ((known T x).getD undef) (lS T lo) (lS T hi) none)=some (.string (JI ((l.take b.toNat).drop a.toNat))):=by
   rw [G];unfold Instr.sliceAt;rw [Yy _ (M4 ht)];show Yj P (Instr.slice t (.string (JI l)) (lS T lo) (lS T hi) none)=_;unfold Instr.slice;rw [Yy _ (M4 ht)];have hB:=tH (P:=P) (T:=T) J O c1 c2 c3;rw [← QaN l] at hB
   have:Yj P (Instr.sliceBounds false (JI l).size (JI l).size (lS T lo) (lS T hi) none >>= fun x=>(pure (.string ((JI l).extract x.1 x.2.1)):Sem Value))=some (.string (JI ((l.take b.toNat).drop a.toNat))):=by
    rw [Yy _ hB,ut];rfl
   exact this
  exact (Yy _ this)
 simp only [WW,Z,h1,Ti];unfold Gm;rw [if_pos U,Y];rfl
end
def Qc1:AV→Bool
 | .p (.val (.slice none 0 0))=>true
 | .vnil=>true
 | _=>false
theorem uu {x:AV} (G:Qc1 x=true) (J:Qe φ h w M x v):v=.slice none 0 0:=by
 unfold Qc1 at G;split at G
 ·simpa [Qe,QH] using J
 ·simpa [Qe] using J
 ·cases G
def pnC (S t:Nat):List (Nat × Nat)→St→St
 | [],s=>s
 | (b,k) :: l,s=>pnC S t l (Gy b k (.tsl S [] t) s)
def Qc2 (S t:Nat):List (Nat × Nat)→St→Bool
 | [],_=>true
 | (b,k) :: l,s=>(match cellAt b k s with | some x=>Qc1 x | none=>false)&&Qc2 S t l (Gy b k (.tsl S [] t) s)
def pnS (ty S t:Nat) (ts:List Nat) (bs:List (Nat × Nat)) (s:St):St:=pnC S t bs ⟨ts.map (fun x=>(x,AV.tsl S [] t))++s.T,(t, .arr ty S 0) :: s.H⟩
def QhF (ty S t:Nat) (ts:List Nat) (bs:List (Nat × Nat)) (s:St):Bool :=
 (look s.H t).isNone&&ts.all (fun x=>match look s.T x with | some v=>Qc1 v | none=>false)&&Qc2 S t bs ⟨ts.map (fun x=>(x,AV.tsl S [] t))++s.T,(t, .arr ty S 0) :: s.H⟩
def Qc3 (φ:Nat→Nat) (h:QG) (w:World) (ty S t:Nat):Prop:=w.heap[φ t]?=none∧h t=some (.arr ty S 0)
theorem QaO {ty S t:Nat} (p:Qc3 φ h w ty S t):Qe φ h w M (.tsl S [] t) (.slice none 0 0):=by
 simp only [Qe,QH];exact ⟨.inr ⟨trivial,none,0,rfl⟩,ty,0,p.2,Nat.le_refl _,fun _=>.inl (by simp [p.1])⟩
theorem QaP {N:Nat} {D:DB} {φ:Nat→Nat} {M0:Zn} {a:Act} {w:World} {ty S t:Nat}:∀ (bs:List (Nat × Nat)) (s:St),Qc2 S t bs s=true→Qc3 φ (look s.H) w ty S t→Q6 φ M0 N D (look s.T) (look s.H) a w →
  Q6 φ M0 N D (look (pnC S t bs s).T) (look (pnC S t bs s).H) a w∧QT φ (look s.H) w φ (look (pnC S t bs s).H) w
 | [],s,_,_,r=>⟨r,QT.refl _ _ _⟩
 | (b,k) :: bs,s,h,p,r=>by
  simp only [Qc2,Ze] at h;obtain ⟨J,h2⟩:=h;cases hc:cellAt b k s with
  | none=>rw [hc] at J; cases J
  | some x =>
   rw [hc] at J;obtain ⟨AP,cs,hb,Y⟩:=Lj hc;have U:=qL (k:=k) (x:=.tsl S [] t) hb;have O:¬ b=t:=fun e=>by rw [e,p.2] at hb; cases hb
   have p':Qc3 φ (look (Gy b k (.tsl S [] t) s).H) w ty S t:=⟨p.1,by rw [U]; simp [upd,O,p.2]⟩
   have r':Q6 φ M0 N D (look (Gy b k (.tsl S [] t) s).T) (look (Gy b k (.tsl S [] t) s).H) a w:=by
    rw [U];refine vY r hb fun c G=>?_
    obtain ⟨c0,g1,g2⟩:=r.hp.blk b _ hb;rw [g1] at G;cases G;obtain ⟨u,g3,g4⟩:=RG g2 Y;rw [uu J g4] at g3;exact FE g2 g3 (QaO p)
   obtain ⟨r2,E2⟩:=QaP bs (Gy b k (.tsl S [] t) s) h2 p' r';have Z:QT φ (look s.H) w φ (look (Gy b k (.tsl S [] t) s).H) w:=by rw [U]; exact Ee hb
   exact ⟨r2,Z.trans E2⟩
theorem uw {S t:Nat} {T:List (Nat × AV)}:∀ (ts:List Nat) (x:Nat),look (ts.map (fun x=>(x,AV.tsl S [] t))++T) x=if x ∈ ts then some (.tsl S [] t) else look T x
 | [],x=>by simp
 | y :: ts,x=>by
  simp only [List.map_cons,List.cons_append,look,List.mem_cons];by_cases e:y=x
  ·simp [e]
  ·have G:¬ x=y:=fun h=>e h.symm
   simp only [e,G,if_false,false_or];exact uw ts x
theorem Yk (ty S t:Nat) (ts:List Nat) (bs:List (Nat × Nat)) (hok:QhF ty S t ts bs s=true:=by kernel_rfl):Weak N s (pnS ty S t ts bs s):=by
 intro φ M0 D a w r;simp only [QhF,Ze] at hok;obtain ⟨⟨h1,h2⟩,h3⟩:=hok;have hn:look s.H t=none:=by cases e:look s.H t with | none=>rfl | some x=>rw [e] at h1; cases h1
 obtain ⟨f,hf⟩:∃ f,f=w.heap.size+((s.H.map (·.1)).map φ).foldr max 0+1:=⟨_,rfl⟩
 have ac:∀ c,look s.H c ≠ none→φ c ≠ f:=by
  intro c hc e;have:=Gx ((s.H.map (·.1)).map φ) (φ c) (List.mem_map_of_mem (Z8.1 hc));omega
 have aa:w.heap.size≤f:=by omega
 have hne:∀ c q,look s.H c=some q→¬ t=c:=fun c q hc e=>by rw [e] at hn; rw [hn] at hc; cases hc
 have G:Qu φ t f t=f:=by simp [Qu]
 have X:VL φ (look s.H) w (Qu φ t f) (upd (look s.H) t (.arr ty S 0)) w:=by
  refine ⟨fun c O cs' hc=>?_,fun c O S n hc=>?_,fun c O S n hc=>?_,fun c k' x hc ho=>?_⟩
  ·have:=hne c _ hc;exact ⟨⟨O,cs',by simp [upd,this,hc]⟩,by simp [Qu,this]⟩
  ·have:=hne c _ hc;exact ⟨n,by simp [upd,this,hc],Nat.le_refl _,fun _=>Yi (by simp [Qu,this]) rfl⟩
  ·have:=hne c _ hc;exact ⟨n,by simp [upd,this,hc],Nat.le_refl _,fun _=>⟨by simp [Qu,this],fun c ad=>⟨c,ad,rfl⟩⟩⟩
  ·have:=hne c _ hc;exact ⟨⟨k',by simp [upd,this,hc],ho⟩,by simp [Qu,this]⟩
 have ab:∀ x o,x < w.heap.size→DJ (Qu φ t f) (upd (look s.H) t (.arr ty S 0)) x o→DJ φ (look s.H) x o:=by
  rintro x o U ⟨c,q,g1,g2,g3⟩;by_cases e:t=c
  ·simp only [Qu,e,if_true] at g2;omega
  ·simp only [upd,Qu,e,if_false] at g1 g2;exact ⟨c,q,g1,g2,g3⟩
 have E:QT φ (look s.H) w (Qu φ t f) (upd (look s.H) t (.arr ty S 0)) w :=
  ⟨rfl,rfl,rfl,Nat.le_refl _,fun _ _ _=>rfl,fun _ _ _ _=>rfl,fun x o U J=>ab x o U J,
   fun c O cs _ hc=>by have:=hne c _ hc; exact ⟨⟨cs,by simp [upd,this,hc]⟩,by simp [Qu,this]⟩,fun c O S n _ hc=>X.t c O S n hc,fun c O S n _ hc=>X.v c O S n hc,fun c k x _ hc ho=>X.o c k x hc ho⟩
 have hp:Zw (Qu φ t f) (upd (look s.H) t (.arr ty S 0)) w M0:=by
  refine ⟨fun c d hc hd e=>?_,fun c q hc=>?_,fun c hc o J=>?_,r.hp.lt,r.hp.gm.evol E⟩
  ·by_cases Z:t=c <;> by_cases Y:t=d
   ·exact Z.symm.trans Y
   ·have e3:¬ c=d:=fun x=>Y (Z.trans x)
    simp only [Qu,Z,if_true,e3,if_false] at e;simp only [upd,Y,if_false] at hd;exact absurd e.symm (ac d hd)
   ·have e3:¬ d=c:=fun x=>Z (Y.trans x)
    simp only [Qu,Y,if_true,e3,if_false] at e;simp only [upd,Z,if_false] at hc;exact absurd e (ac c hc)
   ·simp only [Qu,Z,Y,if_false] at e;simp only [upd,Z,Y,if_false] at hc hd;exact r.hp.inj c d hc hd e
  ·by_cases e:t=c
   ·have:q=.arr ty S 0:=by simpa [upd,e] using hc.symm
    subst this;rw [← e,G];exact .inl ⟨rfl,ZE aa⟩
   ·have hc':look s.H c=some q:=by simpa [upd,e] using hc
    have h3:Qu φ t f c=φ c:=by simp [Qu,e]
    rw [h3];exact ZI (E.keeps M0) X rfl (r.hp.blk c q hc')
  ·by_cases e:t=c
   ·rw [← e,G] at J;have:=r.hp.lt _ _ J;omega
   ·have h3:Qu φ t f c=φ c:=by simp [Qu,e]
    rw [h3] at J;exact r.hp.fr c (by simpa [upd,e] using hc) o J
 have r1:=r.keep E X hp;have pa:Qc3 (Qu φ t f) (upd (look s.H) t (.arr ty S 0)) w ty S t:=⟨by rw [G]; exact ZE aa,by simp [upd]⟩
 let s1:St:=⟨ts.map (fun x=>(x,AV.tsl S [] t))++s.T,(t, .arr ty S 0) :: s.H⟩
 have r2:Q6 (Qu φ t f) M0 N D (look s1.T) (look s1.H) a w:=by
  refine ⟨r1.dfs,r1.siz,r1.hp,fun x v U=>?_⟩;rw [uw] at U;by_cases J:x ∈ ts
  ·rw [if_pos J] at U;cases U;have h4:=List.all_eq_true.1 h2 x J;cases hl:look s.T x with
   | none=>rw [hl] at h4; cases h4
   | some y =>
    rw [hl] at h4;obtain ⟨g1,g2⟩:=r1.tm x y hl;refine ⟨g1,?_⟩;rw [uu h4 g2];exact QaO pa
  ·rw [if_neg J] at U;exact r1.tm x v U
 obtain ⟨r3,E3⟩:=QaP (ty:=ty) bs s1 h3 pa r2;exact ⟨_,r3,E.trans E3⟩
section
variable {P:Program} {o:Oper} {T:Nat→Option AV} {h:QG}
def VJ (lo hi G:Int) (len:Nat):Bool:=decide (0≤lo∧lo≤hi∧hi≤G∧G≤len)
theorem UD {z:Operand} {S:Nat} {l:List α} {sv:AV} {a b c:Int} (ho:o.op=.slice t x lo (some y) (some z)) (ht:P.underlying t=some (.slice e)) (Y:(P.info? e).map (·.size)=some S) (hx:Za T x=some sv) (hs:elems sv=some (S,List.map enc l))
  (U:ND T 0 lo=some a) (aa:ND T (List.map enc l).length (some y)=some b) (G:ND T (List.map enc l).length (some z)=some c) (hc:VJ a b c l.length=true):WW P o T h=some (.p (.sl S (List.map enc ((l.take b.toNat).drop a.toNat))),none,[]):=by
 obtain ⟨i,Z,J⟩:=GK.1 Y;simp only [VJ,decide_eq_true_eq] at hc;have h1:=NE (d:=0) U hc.1;have h2:=NE aa zo;have O:=NE G zo;have h3:a.toNat≤b.toNat:=by omega
 have h4:b.toNat≤l.length:=by omega
 have h5:S=i.size∧a.toNat≤b.toNat∧b.toNat≤(List.map enc l).length:=⟨J.symm,h3,by simpa using h4⟩
 have h6:Tz P T t x lo (some y) (some z)=some (.p (.sl S (((List.map enc l).take b.toNat).drop a.toNat)),none,[]):=by
  simp only [Tz,ht,hx,hs,Z,h1,h2,O];rw [if_pos h5,if_pos (by simp; omega)]
 simp only [WW,ho,h6,Ti,List.map_drop,List.map_take]
theorem IY {w k:List UInt8} {f:Bool} {x:AV} {l:List (Bool × List UInt8 × AV)} (h:(Qt w k&&f)=true):F9 w ((f,k,x) :: l)=some x:=by simp only [F9,h,if_true]
theorem UV {w k:List UInt8} {f:Bool} {x:AV} {l:List (Bool × List UInt8 × AV)} {q:Option AV} (h:(Qt w k&&f)=false) (G:F9 w l=q):F9 w ((f,k,x) :: l)=q:=by simp only [F9,h,Bool.false_eq_true,if_false]; exact G
theorem Qc4 {w:List UInt8}:F9 w []=none:=rfl
theorem IZ {w:List UInt8} {es:List (Bool × List UInt8 × AV)} {v:AV} (J:o.op=.lookup t x ix ok) (O:P.underlying t=some (.map kt e)) (G:P.underlying kt=some .string) (U:Za T x=some (.mv b)) (hi:Za T ix=some (.p (.val (.string (JI w))))) (hb:h b=some (.mf es)) (hf:F9 w es=some v) :
  WW P o T h=some (CE ok v true,none,[b]):=by
 simp [WW,Ti,J,J4,Jq,O,G,U,hi,hb,Tv,hf]
theorem Qc5 {w:List UInt8} {es:List (Bool × List UInt8 × AV)} (J:o.op=.lookup t x ix ok) (U:P.underlying t=some (.map kt e)) (G:P.underlying kt=some .string) (Y:Za T x=some (.mv b)) (hi:Za T ix=some (.p (.val (.string (JI w))))) (hb:h b=some (.mf es)) (O:(P.info? e).bind (·.zero)=some z) (hf:F9 w es=none) :
  WW P o T h=some (CE ok (zu z) false,none,[b]):=by
 simp [WW,Ti,J,J4,Jq,U,G,Y,hi,hb,Tv,hf,O]
end
def QhG (b:Nat) (k:Blk) (s:St):St:=⟨s.T,s.H.map fun p=>if p.1=b then (p.1,k) else p⟩
theorem yt {k O:Blk}:∀ (H:List (Nat × Blk)) (c:Nat),look H b=some O→look (H.map fun p=>if p.1=b then (p.1,k) else p) c=upd (look H) b k c
 | H,c,h0=>by
  have:∀ (H:List (Nat × Blk)) (c:Nat),look (H.map fun p=>if p.1=b then (p.1,k) else p) c=if b=c then (look H c).map (fun _=>k) else look H c:=by
   intro H
   induction H with
   | nil=>intro c; simp [look]
   | cons p H J =>
    intro c;obtain ⟨d,q⟩:=p;rw [List.map_cons];by_cases G:d=b
    ·subst G;simp only [if_true,look];by_cases e:d=c
     ·simp [e]
     ·simp only [e,if_false]; rw [J]; simp [e]
    ·simp only [G,if_false,look];by_cases e:d=c
     ·subst e; simp [Ne.symm G]
     ·simp only [e,if_false]; exact J c
  rw [this];by_cases e:b=c
  ·subst e; simp [upd,h0]
  ·simp [upd,e]
theorem bM (b:Nat) {es:List (Bool × List UInt8 × AV)} (es':List (Bool × List UInt8 × AV)) (hb:Qcy (look s.H b)=some es) (he:Tf es'=Tf es):Weak N s (QhG b (.mf es') s):=by
 intro φ M0 D a w r;obtain ⟨k0,G,J,en,clock,hw,O,Y,U⟩:=iQ hb r.hp;have hH:look (QhG b (.mf es') s).H=upd (look s.H) b (.mf es'):=by funext c; exact yt s.H c G
 rw [hH];show ∃ φ',Q6 φ' M0 N D (look s.T) _ a w∧_
 have aa:∀ x o,DJ φ (upd (look s.H) b (.mf es')) x o→DJ φ (look s.H) x o:=by
  rintro x y ⟨d,q,g1,g2,g3⟩;by_cases e:b=d
  ·refine ⟨b,_,G,by rw [e]; exact g2,?_⟩;cases k0 <;> first | trivial | cases J
  ·exact ⟨d,q,by simpa [upd,e] using g1,g2,g3⟩
 have hne:∀ c k,look s.H c=some k→k.ob=none→¬ b=c:=fun c k hc hk e=>by rw [← e,G] at hc; cases hc; rw [hk] at J; cases J
 have X:VL φ (look s.H) w φ (upd (look s.H) b (.mf es')) w:=by
  refine ⟨fun c t q hc=>⟨⟨t,q,?_⟩,rfl⟩,fun c t S n hc=>⟨n,?_,Nat.le_refl _,fun _=>Yi rfl rfl⟩,fun c t S n hc=>⟨n,?_,Nat.le_refl _,fun _=>⟨rfl,fun c hc=>⟨c,hc,rfl⟩⟩⟩,fun c k x hc Z=>⟨?_,rfl⟩⟩
  ·simp [upd,hne c _ hc rfl,hc]
  ·simp [upd,hne c _ hc rfl,hc]
  ·simp [upd,hne c _ hc rfl,hc]
  ·by_cases e:b=c
   ·subst e;rw [G] at hc;cases hc;rw [J] at Z;exact ⟨.mf es',by simp [upd],Z⟩
   ·exact ⟨k,by simp [upd,e,hc],Z⟩
 have E:QT φ (look s.H) w φ (upd (look s.H) b (.mf es')) w :=
  ⟨rfl,rfl,rfl,Nat.le_refl _,fun _ _ _=>rfl,fun _ _ _ _=>rfl,fun x o _ hm=>aa x o hm,
   fun c t cs _ hc=>⟨⟨cs,by simp [upd,hne c _ hc rfl,hc]⟩,rfl⟩,fun c t S n _ hc=>X.t c t S n hc,fun c t S n _ hc=>X.v c t S n hc,fun c k x _ hc Z=>X.o c k x hc Z⟩
 have g:∀ d,upd (look s.H) b (.mf es') d ≠ none→look s.H d ≠ none:=fun d hd=>by
  by_cases e:b=d
  ·rw [← e,G]; simp
  ·simpa [upd,e] using hd
 refine ⟨φ,r.keep E X ⟨fun c d hc hd e=>r.hp.inj c d (g c hc) (g d hd) e,fun c q hc=>?_,fun c hc=>r.hp.fr c (g c hc),r.hp.lt,r.hp.gm.evol E⟩,E⟩;by_cases e:b=c
 ·subst e;have:q=.mf es':=by simpa [upd] using hc.symm
  subst this;exact ⟨en,clock,hw,by rw [he]; exact O,by rw [he]; exact (QI (E.keeps M0) X).2 _ _ Y,U⟩
 ·have hc':look s.H c=some q:=by simpa [upd,e] using hc
  exact ZI (E.keeps M0) X rfl (r.hp.blk c q hc')
theorem uy (G:P.underlying kt=some .string) (a b:List UInt8):eqV P 4 kt (.string (JI a)) (.string (JI b))=some (Qt a b):=by
 have:=pW G (JI a) b;rw [Tv] at this;exact this
end Go.Abs
namespace Go.Abs
open Go Go.ChangeShapes Go.WideShapes
variable {b base d:Nat}{h:QG}{n off:Nat}{t:TypeId}{v:Value}
def Eg (P:Program) (total:Nat):Nat→List Field→Bool
 | off,[]=>off == total
 | off,f :: r=>f.offset == off&&Eg P total (off+P.cellsOf f.type) r
def Hm (P:Program):Nat→TypeId→Bool
 | 0,_=>false
 | d+1,t=>match P.underlying t with
  | some .bool=>P.cellsOf t == 1
  | some (.int _)=>P.cellsOf t == 1
  | some .string=>P.cellsOf t == 1
  | some (.slice e)=>P.cellsOf t == 1&&Nat.blt 0 (P.cellsOf e)&&Hm P d e
  | some (.struct G)=>Eg P (P.cellsOf t) 0 G.toList&&G.toList.all (fun f=>Hm P d f.type)
  | some (.array n e)=>n * P.cellsOf e == P.cellsOf t&&Hm P d e
  | _=>false
def Qc6 (S:TypeId→List PV→Prop):List Field→List PV→Prop
 | [],cs=>cs=[]
 | f :: r,cs=>∃ a b,cs=a++b∧S f.type a∧Qc6 S r b
def ShN (S:List PV→Prop):Nat→List PV→Prop
 | 0,cs=>cs=[]
 | n+1,cs=>∃ a b,cs=a++b∧S a∧ShN S n b
def Sh (P:Program):Nat→TypeId→List PV→Prop
 | 0,_,_=>False
 | d+1,t,cs=>match P.underlying t with
  | some .bool=>∃ b,cs=[.val (.bool b)]
  | some (.int k)=>∃ n,cs=[.val (.int k n)]∧(Lit.int k n).wf=true
  | some .string=>∃ s:List UInt8,cs=[.val (.string (JI s))]∧s.length≤maxLen
  | some (.slice e)=>∃ es,cs=[.sl (P.cellsOf e) es]∧es.length≤maxLen∧∀ x ∈ es,Sh P d e x
  | some (.struct G)=>Qc6 (Sh P d) G.toList cs
  | some (.array n e)=>ShN (Sh P d e) n cs
  | _=>False
section
variable {H:Type} {enc:TypeId × Value→H} {P:Program} {w:World} {held:Bool} {φ:Nat→Nat} {M:Zn}
theorem qO {a:Addr} {G:List Value} (h:w.cells? base a n=some G):G.length=n∧∀ i,i < n→w.cell? (a.add i)=G[i]?:=by
 unfold World.cells? at h;split at h
 ·have J:=mapM_some_length h;refine ⟨by simpa using J,fun i hi=>?_⟩;exact mapM_some_get h i i (by simp [hi])
 ·cases h
def Got (P:Program) (w:World) (φ:Nat→Nat) (M:Zn) (d:Nat) (t:TypeId) (G:List Value):Prop :=
 ∃ cs:List PV,Sh P d t cs∧Qi φ GL w M (cs.map .p) G∧(∀ v ∈ G,v.oneCell'=true)
theorem Eh {c:PV} (J:Sh P d t [c]) (O:QH w M c v) (G:v.oneCell'=true):Got P w φ M d t [v] :=
 ⟨[c],J,by simp only [List.map_cons,List.map_nil,Qi,Qe]; exact ⟨v,[],rfl,O,rfl⟩,by simpa using G⟩
theorem yu {φ:Nat→Nat} {w:World} {M:Zn} {a b:List AV} {l m:List Value} (J:Qi φ h w M a l) (G:Qi φ h w M b m):Qi φ h w M (a++b) (l++m):=Zi J G
theorem add_zero (a:Addr):a.add 0=a:=rfl
theorem uz:(⟨b,off,none⟩:Addr).add n=⟨b,off+n,none⟩:=by
 unfold Addr.add;split
 ·rename_i h; subst h; rfl
 ·rfl
theorem cell?_spot {a:Addr} (h:w.cell? a=some v):a.spot=none:=by
 unfold World.cell? at h;split at h
 ·split at h
  ·cases h
  ·rename_i G; cases hs:a.spot with
   | none=>rfl
   | some s=>simp [hs] at G
 ·cases h
theorem yw {Q:Nat→List PV→Prop}:∀ (n:Nat),(∀ i,i < n→∃ c,Q i c)→∃ es:List (List PV),es.length=n∧∀ i c,es[i]?=some c→Q i c
 | 0,_=>⟨[],rfl,by simp⟩
 | n+1,h=>by
  obtain ⟨es,G,J⟩:=yw n (fun i hi=>h i zo);obtain ⟨c,hc⟩:=h n zo;refine ⟨es++[c],by simp [G],fun i c' hi=>?_⟩;rcases Nat.lt_or_ge i n with hlt | O
  ·rw [List.getElem?_append_left zo] at hi;exact J i c' hi
  ·have:i < n+1:=by have:=(List.getElem?_eq_some_iff.1 hi).1; simp [G] at this; omega
   obtain rfl:i=n:=by omega
   rw [List.getElem?_append_right zo] at hi;simp [G] at hi;subst hi;exact hc
theorem uA {S r:Nat}:∀ (es:List (List PV)) (o:Nat),(∀ i e,es[i]?=some e→e.length=S∧VE w M r (o+i * S) e)→VF w M S r o es
 | [],o,_=>by simp [VF]
 | e :: es,o,h=>by
  simp only [VF];refine ⟨by have:=h 0 e zq; simpa using this,uA es (o+S) fun i G J=>?_⟩;have:=h (i+1) G (by simpa using J)
  rwa [show o+(i+1) * S=o+S+i * S from by rw [Nat.add_mul]; omega] at this
theorem QaQ (hM:∀ r o,¬ M r o):∀ (d aa:Nat) (t:TypeId) (G:List Value) (x:DataW H × List MemPlace),Hm P d t=true→DataW.trod enc P w 0 (fun _=>true) held aa t G=some x→Got P w φ M d t G∧G.length=P.cellsOf t:=by
 intro d
 induction d with
 | zero=>intro aa t G x hp; cases hp
 | succ d ih =>
  intro aa t G x hp h
  have ak:∀ (U:List Field) (off total:Nat) (G:List Value),G.length=total→Eg P total off U=true→U.all (fun f=>Hm P d f.type)=true →
    (∀ f ∈ U,∃ n y,DataW.trod enc P w 0 (fun _=>true) held n f.type ((G.drop f.offset).take (P.cellsOf f.type))=some y)→∃ cs,Qc6 (Sh P d) U cs∧Qi φ GL w M (cs.map .p) (G.drop off)∧(∀ v ∈ G.drop off,v.oneCell'=true):=by
   intro U
   induction U with
   | nil =>
    intro off total G O ht _ _;simp only [Eg,beq_iff_eq] at ht;have:G.drop off=[]:=List.drop_eq_nil_of_le zo;exact ⟨[],rfl,by rw [this]; simp [Qi],by rw [this]; simp⟩
   | cons f U aq =>
    intro off total G O ht ha hm;simp only [Eg,Ze,beq_iff_eq] at ht;simp only [List.all_cons,Ze] at ha;obtain ⟨n,y,hy⟩:=hm f zq;rw [ht.1] at hy;obtain ⟨⟨c1,g1,g2,g3⟩,_⟩:=ih n f.type _ y ha.1 hy;obtain ⟨c2,k1,k2,k3⟩:=aq (off+P.cellsOf f.type) total G O ht.2 ha.2 (fun f hf=>hm f (by simp [hf]))
    have e:G.drop off=(G.drop off).take (P.cellsOf f.type)++G.drop (off+P.cellsOf f.type):=by
     rw [← List.drop_drop]; exact (List.take_append_drop _ _).symm
    refine ⟨c1++c2,⟨c1,c2,rfl,g1,k1⟩,?_,?_⟩
    ·rw [e,List.map_append]; exact yu g2 k2
    ·rw [e]; intro v Y;rcases List.mem_append.1 Y with Y | Y
     ·exact g3 v Y
     ·exact k3 v Y
  have an:∀ (e:TypeId) (n k:Nat) (G:List Value),G.length=(k+n) * P.cellsOf e→Hm P d e=true →
    (∀ i,k≤i→i < k+n→∃ m y,DataW.trod enc P w 0 (fun _=>true) held m e ((G.drop (i * P.cellsOf e)).take (P.cellsOf e))=some y)→∃ cs,ShN (Sh P d e) n cs∧Qi φ GL w M (cs.map .p) (G.drop (k * P.cellsOf e))∧(∀ v ∈ G.drop (k * P.cellsOf e),v.oneCell'=true):=by
   intro e n
   induction n with
   | zero =>
    intro k G O _ _;have:G.drop (k * P.cellsOf e)=[]:=List.drop_eq_nil_of_le (by simp at O; omega);exact ⟨[],rfl,by rw [this]; simp [Qi],by rw [this]; simp⟩
   | succ n am =>
    intro k G O af hm;obtain ⟨m,y,hy⟩:=hm k zo zo;obtain ⟨⟨c1,g1,g2,g3⟩,_⟩:=ih m e _ y af hy;obtain ⟨c2,k1,k2,k3⟩:=am (k+1) G (by rw [O]; congr 1; omega) af (fun i h1 h2=>hm i zo zo)
    have e':G.drop (k * P.cellsOf e)=(G.drop (k * P.cellsOf e)).take (P.cellsOf e)++G.drop ((k+1) * P.cellsOf e):=by
     rw [Nat.add_mul,Nat.one_mul,← List.drop_drop]; exact (List.take_append_drop _ _).symm
    refine ⟨c1++c2,⟨c1,c2,rfl,g1,k1⟩,?_,?_⟩
    ·rw [e',List.map_append]; exact yu g2 k2
    ·rw [e']; intro v Y;rcases List.mem_append.1 Y with Y | Y
     ·exact g3 v Y
     ·exact k3 v Y
  unfold Hm at hp;cases hu:P.underlying t with
  | none=>rw [hu] at hp; cases hp
  | some td =>
   rw [hu] at hp;cases td with
   | bool =>
    obtain ⟨b,rfl,_⟩:=DataW.trod_bool hu h;simp only [beq_iff_eq] at hp;exact ⟨Eh (c:=.val (.bool b)) (by simp only [Sh,hu]; exact ⟨b,rfl⟩) (by simp [QH]) rfl,by simp [hp]⟩
   | int k =>
    obtain ⟨n,rfl,_,hw⟩:=DataW.trod_int hu h;simp only [beq_iff_eq] at hp;exact ⟨Eh (c:=.val (.int k n)) (by simp only [Sh,hu]; exact ⟨n,rfl,hw⟩) (by simp [QH]) rfl,by simp [hp]⟩
   | string =>
    obtain ⟨b,rfl,_,hw⟩:=DataW.trod_string hu h;simp only [beq_iff_eq] at hp;refine ⟨Eh (c:=.val (.string b)) ?_ (by simp [QH]) rfl,by simp [hp]⟩;simp only [Sh,hu];exact ⟨b.data.toList,by simp [JI],by simpa using hw⟩
   | slice e =>
    simp only [Ze,beq_iff_eq,Nat.blt_eq] at hp;rcases DataW.trod_slice hu h with ⟨rfl,_⟩ | ⟨a,len,cap,elems,rest,n,_,rfl,_,_,av,aw,au,ad⟩
    ·refine ⟨Eh (c:=.sl (P.cellsOf e) []) ?_ (by simp only [QH]; exact .inr ⟨trivial,none,0,rfl⟩) rfl,by simp [hp.1.1]⟩;simp only [Sh,hu];exact ⟨[],rfl,by simp,by simp⟩
    ·have ah:=ad.1
     have aj:∀ i,i < len→∃ (G:List Value) (cs:List PV),w.cells? 0 (a.add (i * P.cellsOf e)) (P.cellsOf e)=some G∧Sh P d e cs∧Qi φ GL w M (cs.map .p) G∧(∀ v ∈ G,v.oneCell'=true):=by
      intro i hi;have h1:elems[i]?=some elems[i]:=List.getElem?_eq_getElem zo;have h2:=ah i hi;rw [h1] at h2;obtain ⟨G,J,h4⟩:=Option.bind_eq_some_iff.1 h2;obtain ⟨⟨cs,g1,g2,g3⟩,_⟩:=ih _ e G _ hp.2 h4;exact ⟨G,cs,J,g1,g2,g3⟩
     obtain ⟨es,ae,hq⟩:=yw (Q:=fun i cs=>∃ G,w.cells? 0 (a.add (i * P.cellsOf e)) (P.cellsOf e)=some G∧Sh P d e cs∧Qi φ GL w M (cs.map .p) G∧(∀ v ∈ G,v.oneCell'=true)) len (fun i hi=>by
      obtain ⟨G,cs,h1,h2⟩:=aj i hi;exact ⟨cs,G,h1,h2⟩)
     refine ⟨Eh (c:=.sl (P.cellsOf e) es) ?_ ?_ rfl,by simp [hp.1.1]⟩
     ·simp only [Sh,hu];refine ⟨es,rfl,by omega,fun x hx=>?_⟩;obtain ⟨i,hi,rfl⟩:=List.getElem_of_mem hx;obtain ⟨G,_,h2,_⟩:=hq i es[i] (List.getElem?_eq_getElem hi);exact h2
     ·simp only [QH];by_cases h0:len=0
      ·subst h0;exact .inr ⟨List.eq_nil_of_length_eq_zero ae,some a,cap,rfl⟩
      ·have Z:a.spot=none:=by
        obtain ⟨G,h1,_⟩:=hq 0 es[0] (List.getElem?_eq_getElem zo);obtain ⟨g1,g2⟩:=qO h1;have J:=g2 0 hp.1.2;simp only [Nat.zero_mul,add_zero] at J;rw [List.getElem?_eq_getElem zo] at J;exact cell?_spot J
       obtain ⟨ab,ao,ax⟩:=a;simp only at Z;subst Z;refine .inl ⟨ab,ao,cap,by rw [ae],by omega,uA es ao fun i c hi=>?_⟩;obtain ⟨G,h1,h2,J,h4⟩:=hq i c hi;obtain ⟨g1,g2⟩:=qO h1;have ai:=Zp J;refine ⟨by simp at ai; omega,?_⟩;rw [Rj];intro j q hj;obtain ⟨v,k1,k2⟩:=NA J j q hj;have ar:j < P.cellsOf e:=by have:=(List.getElem?_eq_some_iff.1 k1).1; omega
       have k3:=g2 j ar;rw [uz,uz,k1] at k3;exact ⟨v,k3,hM _ _,h4 v (List.mem_of_getElem? k1),k2⟩
   | struct U =>
    simp only [Ze] at hp;obtain ⟨xs,n,_,_,O,hx,ac⟩:=DataW.trod_struct hu h
    obtain ⟨cs,g1,g2,g3⟩:=ak U.toList 0 (P.cellsOf t) G O hp.1 hp.2 (by
     intro f hf;obtain ⟨i,hi,rfl⟩:=List.getElem_of_mem hf;have h1:U[i]?=some U.toList[i]:=by simp
     have h2:=ac i _ h1;have J:i < xs.length:=by rw [hx]; simpa using hi
     exact ⟨n,xs[i],by rw [h2]; exact List.getElem?_eq_getElem J⟩)
    simp only [List.drop_zero] at g2 g3;exact ⟨⟨cs,by simp only [Sh,hu]; exact g1,g2,g3⟩,O⟩
   | array n e =>
    simp only [Ze,beq_iff_eq] at hp;obtain ⟨xs,m,_,_,O,hx,ac⟩:=DataW.trod_array hu h
    obtain ⟨cs,g1,g2,g3⟩:=an e n 0 G (by rw [O,Nat.zero_add,hp.1]) hp.2 (by
     intro i _ hi;have al:i < n:=by omega
     have J:i < xs.length:=by omega
     exact ⟨m,xs[i],by rw [ac i al]; exact List.getElem?_eq_getElem J⟩)
    simp only [Nat.zero_mul,List.drop_zero] at g2 g3;exact ⟨⟨cs,by simp only [Sh,hu]; exact g1,g2,g3⟩,O⟩
   | _=>cases hp
end
end Go.Abs
namespace Go.Abs
open Go Go.ChangeShapes Go.WideShapes Go.ChangeAt Go.RowKit
variable {base d:Nat}{e:TypeId}{f:FuncId}{fn:Func}{h':QG}{t:TypeId}{v:Value}{w':World}{α:Type}{φ':Nat→Nat}
def QfW:List PV→AV
 | [c]=>.p c
 | cs=>ag cs
def mW (P:Program) (t:TypeId) (cs:List PV):AV :=
 match P.underlying t with
 | some (.struct _)=>ag cs
 | some (.array _ _)=>ag cs
 | _=>QfW cs
def qP (P:Program) (d:Nat):List TypeId→List AV→Prop
 | [],G=>G=[]
 | t :: ts,G=>∃ cs r,G=mW P t cs :: r∧Sh P d t cs∧qP P d ts r
section
variable {H:Type} {enc:TypeId × Value→H} {P:Program} {w:World} {φ:Nat→Nat} {M:Zn}
theorem Qc7 (Z:∀ r o,¬ M r o) {x:DataW H} {ps:List MemPlace} (hp:Hm P d t=true) (J:Value.okWide P w .any base t v)
  (h:DataW.Trod enc P w 0 (fun _=>true) true t v x ps):∃ cs,Sh P d t cs∧Qe φ GL w M (mW P t cs) v:=by
 obtain ⟨O,h⟩:=h;obtain ⟨⟨cs,h1,G,h3⟩,hl⟩:=QaQ (φ:=φ) Z d O t _ _ hp h;refine ⟨cs,h1,?_⟩;cases d with
 | zero=>cases hp
 | succ d =>
  unfold Value.okWide at J;unfold mW;cases hu:P.underlying t with
  | none=>simp [Hm,hu] at hp
  | some td =>
   rw [hu] at J
   have one:(∀ c,v ≠ .agg c)→P.cellsOf t=1→Qe φ GL w M (QfW cs) v:=by
    intro ha hc;have e:v.cells=#[v]:=by cases v <;> first | rfl | exact absurd rfl (ha _)
    rw [e] at G
    match cs,G with
    | [c],G =>
     simp only [List.map_cons,List.map_nil,Qi] at G;obtain ⟨y,ys,U,Y,e3⟩:=G;simp at U;obtain ⟨rfl,rfl⟩:=U;exact Y
    | [],G=>simp [Qi] at G
    | _ :: _ :: _,G =>
     simp only [List.map_cons,Qi] at G;obtain ⟨y,ys,U,_,z,zs,Y,_⟩:=G;subst Y;simp at U
   have agg:(∃ c,v=.agg c)→Qe φ GL w M (ag cs) v:=by
    rintro ⟨c,rfl⟩;exact ⟨c.toList,by simp,G⟩
   cases td with
   | bool =>
    simp only [Hm,hu,beq_iff_eq] at hp;exact one (fun c hc=>by subst hc; simp [Cell.okWide,Cell.ok,hu] at J) hp
   | int k =>
    simp only [Hm,hu,beq_iff_eq] at hp;exact one (fun c hc=>by subst hc; simp [Cell.okWide,Cell.ok,hu] at J) hp
   | string =>
    simp only [Hm,hu,beq_iff_eq] at hp;exact one (fun c hc=>by subst hc; simp [Cell.okWide,Cell.ok,hu] at J) hp
   | slice e =>
    simp only [Hm,hu,Ze,beq_iff_eq] at hp;exact one (fun c hc=>by subst hc; simp [Cell.okWide,Cell.ok,hu] at J) hp.1.1
   | struct fs =>
    obtain ⟨c,rfl,_⟩:=J;exact agg ⟨c,rfl⟩
   | array n e =>
    obtain ⟨c,rfl,_⟩:=J;exact agg ⟨c,rfl⟩
   | _=>simp [Hm,hu] at hp
theorem uB (U:∀ r o,¬ M r o) {d base:Nat}:∀ {ts:List TypeId} {J:List Value} {ds:List (DataW H)} {ps:List MemPlace},ts.all (Hm P d)=true →
  (∀ (j:Nat) t v,ts[j]?=some t→J[j]?=some v→Value.okWide P w .any base t v)→DataW.TrodAll enc P w 0 (fun _=>true) true ts J ds ps→∃ G,qP P d ts G∧Qi φ GL w M G J
 | [],J,ds,ps,_,_,h=>by
  obtain ⟨rfl,_,_⟩:=trodAll_nil h;exact ⟨[],rfl,rfl⟩
 | t :: ts,J,ds,ps,hp,Y,h=>by
  obtain ⟨v,O,d',Z,p,q,rfl,rfl,rfl,h1,h2⟩:=trodAll_cons h;simp only [List.all_cons,Ze] at hp;obtain ⟨cs,g1,g2⟩:=Qc7 (φ:=φ) U hp.1 (Y 0 t v rfl rfl) h1;obtain ⟨G,g3,g4⟩:=uB U hp.2 (fun j t v a b=>Y (j+1) t v (by simpa using a) (by simpa using b)) h2;exact ⟨_,⟨cs,G,rfl,g1,g3⟩,v,O,rfl,g2,g4⟩
structure Over (w w':World):Prop where
 os:w'.os=w.os
 output:w'.output=w.output
 same:∀ r,r < w.heap.size→w'.heap[r]?=w.heap[r]?
theorem vZ {φ:Nat→Nat} {w:World} (E:QT φ GL w φ' h' w'):Over w w' :=
 ⟨E.os,E.output,fun r G=>E.same r G (fun b hb=>absurd rfl hb)⟩
theorem Over.kept {w:World} (o:Over w w') (G:MemPlace→Prop):w.keptBut w' G:=by
 refine ⟨o.os,o.output,fun i hi=>?_⟩;rw [o.same i hi];cases h:w.heap[i]? with
 | none=>rfl
 | some x=>cases x <;> simp
theorem Over.at {w:World} (o:Over w w') {p:MemPlace} (h:p.block < w.heap.size):w.sameAt w' p:=by
 cases p with
 | cell b off=>simp only [World.sameAt,World.cell?]; rw [o.same b h]
 | map b=>exact o.same b h
theorem Over.frozen {w:World} (o:Over w w') {a:Addr} (h:a.block < w.heap.size):w'.frozen? a=w.frozen? a:=by
 simp only [World.frozen?]; rw [o.same _ h]
theorem TK {w w':World} (O:laidOutB P=true) {U:Nat→Bool} (G:∀ b,b < w.heap.size→U b=true) (o:Over w w'):∀ {ts:List TypeId} {J:List Value} {ds:List (DataW H)} {ps:List MemPlace},ts.all (fun t=>P.readableRec t&&Nat.blt t P.types.size)=true→(∀ p ∈ ps,p.block < w.heap.size) →
  DataW.TrodAll enc P w 0 (fun _=>true) true ts J ds ps→DataW.TrodAll enc P w' 0 U true ts J ds ps
 | [],J,ds,ps,_,_,h=>by
  obtain ⟨rfl,rfl,rfl⟩:=trodAll_nil h;exact rfl
 | t :: ts,J,ds,ps,hp,hb,h=>by
  obtain ⟨v,Z,d',Y,p,q,rfl,rfl,rfl,h1,h2⟩:=trodAll_cons h;simp only [List.all_cons,Ze,Nat.blt_eq] at hp;refine ⟨p,q,Go.WideElems.Trod_stays O hp.1.1 hp.1.2 h1 (fun p hp=>o.at (hb p (by simp [hp]))) (fun p hp=>G _ (hb p (by simp [hp]))),TK O G o (by simpa using hp.2) (fun p hp=>hb p (by simp [hp])) h2,rfl⟩
theorem zP {s:ChangeSpec} {tb:TypeId} {apart fresh handsOn again:Bool}
  (hl:laidOutB P=true) (Z:fn.params.toList.all (Hm P d)=true) (J:fn.params.toList.all (fun t=>P.readableRec t&&Nat.blt t P.types.size)=true)
  (hres:fn.resultTypes=#[tb]) (ac:P.underlying tb=some .bool) (G:s.vars=[])
  (aa:∀ ds:List (DataW H),ds.length=fn.params.size→s.fn H ds={ results:=[.lit (.bool true)],args:=ds })
  {W:World} {args:Array Value} {ds gs:List (DataW H)} {before:List MemPlace}
  (ae:∀ (j:Nat) t v,fn.params[j]?=some t→args[j]?=some v→Value.okWide P W .any base t v)
  (hW:DataW.Whole enc P fn.params.toList s.vars apart W args.toList ds gs before)
  (U:∀ O,qP P d fn.params.toList O→Qi (fun x=>x) GL W (MM (fun x=>x) GL (fun _ _=>False)) O args.toList→QB P f O (.ret (.p (.val (.bool true))))) (hg:fI W:=by exact trivial) :
  Calls P f args W fun e W'=>∃ v,e=.returned v∧s.post enc P fn apart fresh handsOn again W args v W':=by
 have ab:=hW;obtain ⟨p,q,hA,hV,rfl,ah,af⟩:=hW;rw [G] at hV;obtain ⟨rfl,rfl⟩:=trodVars_none hV
 have ad:ds.length=fn.params.size:=by
  have:∀ {ts:List TypeId} {vs:List Value} {ds:List (DataW H)} {ps:List MemPlace},DataW.TrodAll enc P W 0 (fun _=>true) true ts vs ds ps→ds.length=ts.length:=by
   intro ts
   induction ts with
   | nil=>intro vs ds ps h; obtain ⟨_,rfl,_⟩:=trodAll_nil h; rfl
   | cons t ts ih=>intro vs ds ps h; obtain ⟨v,aj,d',ak,p,q,rfl,rfl,rfl,h1,h2⟩:=trodAll_cons h; simp [ih h2]
  simpa using this hA
 obtain ⟨O,g1,g2⟩:=uB (φ:=fun x=>x) (M:=MM (fun x=>x) GL (fun _ _=>False)) (base:=base) (fun r o h=>h.elim VY id) Z
  (fun j t v a b=>ae j t v (by simpa using a) (by simpa using b)) hA
 have hc:=U O g1 g2 (fun x=>x) (fun _ _=>False) W args.toList (He (fun _ _ h=>h.elim) hg (fun _ _ _ h=>h)) g2;simp only [Array.toArray_toList] at hc;refine hc.mono ?_;rintro e w' ⟨φ',r',h',⟨rfl,rfl⟩,ai,E,hv⟩;obtain ⟨v,rfl,hv⟩:=hv;simp only [Qe,QH] at hv;subst hv;have o:=vZ E;have hlt:∀ x ∈ p,x.block < W.heap.size:=fun x hx=>ab.lt x (by simpa using hx)
 refine ⟨_,rfl,?_⟩;have Y:s.fn H (ds++[])={ results:=[.lit (.bool true)],args:=ds }:=by rw [List.append_nil]; exact aa ds ad
 have hr:∀ (b:Nat) (sp:Nat→Bool) (hd:Bool),DataW.TrodAll enc P w' b sp hd fn.resultTypes.toList ((Value.bool true).resultList fn.resultTypes.size) [.lit (.bool true)] []:=fun b sp hd=>by
  rw [hres]; exact trodAll_cons_mk (shut_bool ac _) trodAll_mk0
 refine ⟨ds,[],p++[],[],p,[],ab,by rw [Y]; exact hr _ _ _,by rw [Y]; exact TK hl (fun b hb=>by simpa using hb) o J hlt hA,by rw [Y,G]; rfl,o.kept _,fun _=>?_⟩;refine ⟨ok_one hres rfl (okWide_bool_mk ac _),[.lit (.bool true)]++ds,[],([]++p)++[],⟨[]++p,[],?_,?_,rfl,?_,?_⟩,?_⟩
 ·exact trodAll_append (TK hl (fun b hb=>rfl) o J hlt hA) (hr _ _ _)
 ·rw [G]; rfl
 ·intro b off hp;rw [o.frozen (by exact hlt (.cell b off) (by simpa using hp))];exact ah b off (by simpa using hp)
 ·intro ha; simpa using af ha
 ·intro x hx _; simpa using hx
theorem wh {s:ChangeSpec} {tb:TypeId} {apart fresh handsOn again:Bool}
  (hl:laidOutB P=true) (U:fn.params.toList.all (Hm P d)=true) (Z:fn.params.toList.all (fun t=>P.readableRec t&&Nat.blt t P.types.size)=true)
  (hres:fn.resultTypes=#[tb]) (ab:P.underlying tb=some .bool) (O:s.vars=[])
  (Y:∀ ds:List (DataW H),ds.length=fn.params.size→s.fn H ds={ results:=[.lit (.bool true)],args:=ds })
  (J:∀ G,qP P d fn.params.toList G→QB P f G (.ret (.p (.val (.bool true)))))
  {W:World} {args:Array Value} {ds gs:List (DataW H)} {before:List MemPlace}
  (aa:∀ (j:Nat) t v,fn.params[j]?=some t→args[j]?=some v→Value.okWide P W .any base t v)
  (hW:DataW.Whole enc P fn.params.toList s.vars apart W args.toList ds gs before) (hg:fI W:=by exact trivial) :
  Calls P f args W fun e W'=>∃ v,e=.returned v∧s.post enc P fn apart fresh handsOn again W args v W' :=
 zP hl U Z hres ab O Y aa hW (fun G h _=>J G h) hg
end
def RH (x:Int):Prop:=-9223372036854775808≤x∧x≤9223372036854775807
def QhH (l:List UInt8):Prop:=l.length≤maxLen
def bN {α:Type} (W:α→Prop) (l:List α):Prop:=l.length≤maxLen∧∀ x ∈ l,W x
section
variable {P:Program} {d:Nat} {t:TypeId} {cs:List PV}
theorem TL (hu:P.underlying t=some (.int .i64)) (h:Sh P (d+1) t cs):∃ n,cs=[.val (.int .i64 n)]∧RH n:=by
 simp only [Sh,hu] at h;obtain ⟨n,rfl,G⟩:=h;exact ⟨n,rfl,by simpa [Lit.wf,IntKind.min,IntKind.max,IntKind.signed,IntKind.bits,RH] using G⟩
theorem QfX (hu:P.underlying t=some .string) (h:Sh P (d+1) t cs):∃ s:List UInt8,cs=[.val (.string (JI s))]∧QhH s:=by
 simp only [Sh,hu] at h;exact h
theorem Mq {G:Array Field} (hu:P.underlying t=some (.struct G)) (h:Sh P (d+1) t cs):Qc6 (Sh P d) G.toList cs:=by
 simpa only [Sh,hu] using h
theorem wm {S:Nat} {f:α→List PV} {W:α→Prop} (hu:P.underlying t=some (.slice e)) (hS:P.cellsOf e=S) (O:∀ c,Sh P d e c→∃ r,c=f r∧W r) (h:Sh P (d+1) t cs) :
  ∃ l:List α,cs=[.sl S (List.map f l)]∧bN W l:=by
 simp only [Sh,hu] at h;obtain ⟨es,rfl,G,J⟩:=h
 have:∃ l:List α,es=List.map f l∧∀ x ∈ l,W x:=by
  clear G
  induction es with
  | nil=>exact ⟨[],rfl,by simp⟩
  | cons e es Z =>
   obtain ⟨r,rfl,U⟩:=O e (J e zq);obtain ⟨l,rfl,G⟩:=Z (fun x h=>J x (by simp [h]));exact ⟨r :: l,rfl,by simpa using ⟨U,G⟩⟩
 obtain ⟨l,rfl,Y⟩:=this;exact ⟨l,by rw [hS],by simpa using G,Y⟩
theorem AC {G:Array Field} (hu:P.underlying t=some (.struct G)):mW P t cs=ag cs:=by simp only [mW,hu]
theorem QaR {c:PV} (hu:P.underlying t=some .string):mW P t [c]=.p c:=by simp only [mW,hu,QfW]
end
end Go.Abs
namespace Go.Abs
open Go
variable {D:DB}{K:St→Prop}{M0:Zn}{N:Nat}{P:Program}{Q:AX→St→Prop}{T:Nat→Option AV}{a:Act}{b:Nat}{dst:Option Tmp}{e:TypeId}{es es':List (List PV)}{f:FuncId}{h:QG}{id:Nat}{ix:Operand}{len:Nat}{o:Oper}{ops:Array Oper}{ro:Option Nat}{s s':St}{t:TypeId}{tk:Nat}{tx ty:TypeId}{v:Value}{w w':World}{x y:Operand}{z:Value}{φ:Nat→Nat}
section
variable {R:Type} {a:Option R} {P:Program} {N:Nat} {ops:Array Oper} {o:Oper} {l:List Oper} {acc:List Yg} {s:St} {Q:R→AX→St→Prop}
theorem QfY (hw:ZA ops o (look s.T)=some true) (hp:(plain o.op&&Ky N o.dst)=true) (U:∀ c,o.op ≠ .defer c)
  (h:∀ φ M0 D O w,Q6 φ M0 N D (look (mk ops o s true).T) (look s.H) O w→∃ x s',look s'.T=look (mk ops o s true).T∧K8 a P N ops Q false ((none,[]) :: acc) l (St.put s' o.dst x)∧Yield P o φ M0 (look s.H) O w x (look s'.H)):K8 a P N ops Q false acc (o :: l) s:=by
 simp only [Ze] at hp;refine ⟨fun r Z=>?_⟩;show KT P N ops (Q r) (o :: l) s;simp only [KT,hw,ZB,MX hp.1];show XP P N o _ _ _;unfold XP
 have key:pX P N o (mk ops o s true) (KT P N ops (Q r) l):=by
  refine ⟨U,hp.2,fun φ M0 D O w J=>?_⟩
  ·obtain ⟨x,s',h1,h2,Y⟩:=h φ M0 D O w J;exact ⟨x,s',h1,h2.h r Z,Y⟩
 have hp:=hp.1;split
 ·rename_i G; rw [G] at hp; cases hp
 ·rename_i G; rw [G] at hp; cases hp
 ·rename_i G; rw [G] at hp; cases hp
 ·exact .inr key
theorem Gz:K8 (none:Option R) P N ops Q false acc l s:=⟨fun r G=>by cases G⟩
end
def Ib (a b:List UInt8):Bool:=decide (a.length+b.length≤9223372036854775807)
theorem Ei {a b:List UInt8} (G:o.op=.binOp .add tx x y ty) (J:Za T x=some (.p (.val (.string (JI a))))) (O:Za T y=some (.p (.val (.string (JI b))))) (hc:Ib a b=true) :
  WW P o T h=some (.p (.val (.string (JI (a++b)))),none,[]):=by
 unfold Ib at hc;have hc:=of_decide_eq_true hc;simp [WW,Ti,G,Sm,J,O,vz,Tv,hc]
section
variable {P:Program} {ops:Array Oper} {Q:Exit→Act→World→Prop} {k:Nat} {ok:Oper}
theorem tJ (h:IV k ops=true) (hq:¬ LetsOut Q) (hp:∀ c a w v,Q (.panic c) (a.put ((ops[k]?).bind (·.dst)) v) w→Q (.panic c) a w) (hh:wpAny P .any (JV k ops) Q (JV k ops).size (Array.replicate (JV k ops).size false) a w) :
  wpAny P .any ops Q ops.size (Array.replicate ops.size false) a w:=by
 unfold IV at h;cases hk:ops[k]? with
 | none=>rw [hk] at h; cases h
 | some ok =>
  rw [hk] at h;simp only [Ze] at h;obtain ⟨⟨⟨O,ae⟩,aa⟩,Z⟩:=h;have ai:k < ops.size:=(FY.1 hk).1;rw [mM hk] at hh;obtain ⟨n,hn⟩:∃ n,ops.size=n+1:=⟨ops.size - 1,by omega⟩
  have Y:∃ x,ok.op=.move x∧ok.guard=none:=by
   unfold mJ at O;split at O
   ·exact ⟨_,by assumption,by assumption⟩
   ·cases O
  obtain ⟨x,ab,U⟩:=Y
  have J:∀ w,(execOp a.eval ok).run P w=.ok (.value (a.eval x)) w:=by
   intro w;simp [execOp,ab]
  have hy:Yields P ops ok (a.eval x) a:=.inl ⟨by simp [Region.wanted,U],J⟩
  have ad:(0:Nat) ∈ Region.ready .any (JV k ops) (Array.replicate (n+1) false):=by
   rw [mem_ready];exact ⟨by simp,_,NG hk,fun e he=>by simp at he⟩
  have ac:k ∈ Region.ready .any ops (Array.replicate (n+1) false):=by
   rw [mem_ready];refine ⟨by simp [show k < n+1 by omega],ok,hk,fun e he hb=>?_⟩;have:=List.all_eq_true.1 ae e (by simpa using he);rw [hb] at this;cases this
  rw [hn] at hh ⊢;have G:=hh.2 0 ad;unfold wpOp at G;rw [NG hk] at G;simp only [Region.wanted,U,if_true] at G
  have h3:wpAny P .any (JV k ops) Q n ((Array.replicate (n+1) false).setIfInBounds 0 true) (a.put ok.dst (a.eval x)) w:=by
   rcases G with G | ⟨_,G⟩
   ·unfold Oper.wp at G;rw [show ∀ g,execOp a.eval { dst:=ok.dst,op:=ok.op,type:=ok.type,pos:=ok.pos,after:=#[],guard:=g }=execOp a.eval ok from fun _=>rfl,J w] at G;exact G
   ·exact absurd G hq
  have h4:wpAny P .any ops Q n ((Array.replicate (n+1) false).setIfInBounds k true) (a.put ok.dst (a.eval x)) w:=by
   refine mO hk n _ _ _ w (by simp [hn]) (by simp [hn]) zq ?_ ?_ h3
   ·have:k < n+1:=by omega
    simp [this]
   ·intro i hi;rw [getD_set_ne false (QaA hi).symm,getD_set_ne false (Ne.symm hi)];simp [Array.getElem?_replicate];split <;> split <;> rfl
  exact wpAny_first hk (Region.noSelect_spec aa) (fun c a w h=>hp c a w _ (by rw [hk]; exact h)) n _ a w (fun j oj hj hne ah af=>Region.free_spec hk (by rw [hn] at Z; exact Z) j oj hj hne ah af) ac hy h4
end
def RI (d:Option Tmp) (s:St):St:=⟨s.T.filter fun p=>some p.1 != d,s.H⟩
theorem RJ {d:Option Tmp} {t:Nat} {x:AV}:∀ {T:List (Nat × AV)},look (T.filter fun p=>some p.1 != d) t=some x→look T t=some x∧d ≠ some t
 | [],h=>by cases h
 | (c,y) :: T,h=>by
  by_cases e:some c=d
  ·have hf:((c,y) :: T).filter (fun p=>some p.1 != d)=T.filter fun p=>some p.1 != d:=by simp [e]
   rw [hf] at h;have O:=RJ h;refine ⟨?_,O.2⟩;have G:c ≠ t:=fun J=>O.2 (by rw [← e,J])
   simp [look,G,O.1]
  ·have hf:((c,y) :: T).filter (fun p=>some p.1 != d)=(c,y) :: T.filter fun p=>some p.1 != d:=by simp [e]
   rw [hf] at h;simp only [look] at h ⊢;by_cases G:c=t
   ·subst G;simp only [if_true] at h ⊢;exact ⟨h,fun J=>e J.symm⟩
   ·simp only [G,if_false] at h ⊢;exact RJ h
def qd {R:Type} (d:Option Tmp) (Q:R→AX→St→Prop):R→AX→St→Prop:=fun r x s=>match x with | .normal=>Q r .normal s | .panic v=>Q r (.panic v) (RI d s) | _=>False
theorem QaS {d:Option Tmp} (r:Q6 φ M0 N D (look s.T) (look s.H) (a.put d v) w):Q6 φ M0 N D (look (RI d s).T) (look (RI d s).H) a w:=by
 cases d with
 | none =>
  refine ⟨r.dfs,r.siz,r.hp,fun t x G=>r.tm t x (RJ G).1⟩
 | some d =>
  refine ⟨r.dfs,by have:=r.siz; simpa [Act.put] using this,r.hp,fun t x G=>?_⟩;obtain ⟨U,O⟩:=RJ G;have J:=r.tm t x U;have:d ≠ t:=fun e=>O (by rw [e])
  have e:(a.put (some d) v).tmps.getD t undef=a.tmps.getD t undef:=by simp [Act.put,Array.getElem?_setIfInBounds_ne this]
  rw [e] at J;exact J
theorem tK {d:Option Tmp} (r:Q6 φ M0 N D (look s.T) (look s.H) a w):Q6 φ M0 N D (look (RI d s).T) (look (RI d s).H) a w :=
 ⟨r.dfs,r.siz,r.hp,fun t x G=>r.tm t x (RJ G).1⟩
theorem drop_drop (d:Option Tmp) (s:St):RI d (RI d s)=RI d s:=by simp [RI,List.filter_filter]
theorem QaT {R:Type} {J:R} {Q:R→AX→St→Prop} (k:Nat) (O:P.follows .mixedOrders=true) (G:UO ops=true) (hf:IV k ops=true) (h:Ki P N (JV k ops) (qd ((ops[k]?).bind (·.dst)) Q J) (JV k ops).toList [] s):Ex P N ro (.region id ops true) s (Q J):=by
 intro φ M0 D a w r;refine wpIn_region_any O (Nw G Wh _ _ _ _ ?_);have Y:=O9 h r
 have U:=tJ hf Wh (fun c Z w' v hc=>by
  obtain ⟨φ',x,s',g1,g2,g3,g4⟩:=hc;cases x with
  | normal=>cases g4
  | exit i=>cases g4
  | ret=>cases g4
  | panic u =>
   refine ⟨φ', .panic u,RI ((ops[k]?).bind (·.dst)) s',?_,QaS g2,g3,g4⟩;show Q J (.panic u) (RI _ (RI _ s'));rw [drop_drop];exact g1) Y
 refine XA ?_ _ _ _ _ U;rintro e Z w' ⟨φ',x,s',g1,g2,g3,g4⟩;cases x with
 | normal=>exact ⟨φ', .normal,s',g1,g2,g3,g4⟩
 | exit i=>exact g1.elim
 | ret=>exact g1.elim
 | panic v=>exact ⟨φ', .panic v,RI ((ops[k]?).bind (·.dst)) s',g1,tK g2,g3,g4⟩
section
variable {R:Type} {a:Option R} {P:Program} {N:Nat} {ro:Option Nat} {id:Nat} {ops:Array Oper} {s s':St} {Q:R→AX→St→Prop} {d:Option Tmp} {v:AV}
theorem QaU (k:Nat) (O:P.follows .mixedOrders=true) (J:UO ops=true) (hf:IV k ops=true) (h:K8 a P N (JV k ops) (qd ((ops[k]?).bind (·.dst)) Q) true [] (JV k ops).toList s):QO a P N ro (.region id ops true) s Q:=⟨fun r G=>QaT k O J hf (h.h r G)⟩
theorem QjC (h:Zt a Q .normal s):Zt a (qd d Q) .normal s:=⟨fun r G=>h.h r G⟩
end
abbrev FV:=Fn × Array Value × Array Value
def fv (x:FV):Value:=.func x.1 x.2.1 x.2.2
def kOf (s:St):FZ:=⟨s.T.map (·.1),s.H.map (·.1),[],[]⟩
section
variable {R V:Type} {o:Option R} {P:Program} {N:Nat} {ro:Option Nat} {c y:Code} {s:St} {Q:R→AX→St→Prop} {ops:Array Oper} {draw:Bool} {id:Nat}
theorem Qf (J:P.follows .mixedOrders=true) (s':St)  (h:QO o P N ro y s' Q)(G:(TJ P N ops draw s).bind (LF (kOf s'))=some s':=by kernel_rfl):QO o P N ro (.seq (.region id ops draw) y) s Q:=sR J _ s' G h
theorem Qk (s':St)  (h:QO o P N ro y s' Q)(G:LF (kOf s') s=some s':=by kernel_rfl):Zt o (sj P N ro y Q) .normal s:=sN _ s' G h
theorem NM (s':St)  (h:QO o P N ro c s' Q)(G:LF (kOf s') s=some s':=by kernel_rfl):QO o P N ro c s Q:=sP _ s' G h
theorem QS {S:V→St} (v:V) (G:LF (kOf (S v)) s=some (S v):=by kernel_rfl):Zt (some v) (Qan N S) .normal s:=Qao v _ G
theorem KP {k:V→Option R} {S:V→St} (v:V) (G:LF (kOf (S v)) s=some (S v):=by kernel_rfl):Zt (k v) (kQ N k S Q) .normal s:=Qjs v _ G
theorem H5 (h:LF (kOf s') s=some s':=by kernel_rfl):Weak N s s':=Hl h
end
def c8b (c:UInt8):List PV:=[.val (.int .u8 c.toNat)]
section
variable {P:Program} {N:Nat} {D:DB} {o:Oper} {φ:Nat→Nat} {M0:Zn} {T:Nat→Option AV} {h:QG} {a:Act} {w:World}
theorem Wx (b:List UInt8):(JI b).size=b.length:=by simp [JI,ByteArray.size]
theorem C9 {u:TypeId} {s:Operand} (J:o.op=.call ⟨.builtin .append,#[s,x],#[t,u]⟩) (G:(Builtin.append_ #[t,u] o.type #[a.eval s,a.eval x]).run P w=.ok v w') :
  (execOp a.eval o).run P w=.ok (.value v) w':=by
 simp [execOp,J,resolve,invoke,builtin,G]
theorem qQ:∀ b:List UInt8,(b.map c8b).flatten=b.map fun c=>PV.val (.int .u8 c.toNat)
 | []=>rfl
 | c :: b=>by
  simp only [List.map_cons,List.flatten_cons,qQ b];rfl
set_option maxHeartbeats 1000000 in
theorem tL (r:Q6 φ M0 N D T h a w) {u:TypeId} {i:TypeInfo} {s:Operand} {b:List UInt8} (ho:o.op=.call ⟨.builtin .append,#[s,x],#[t,u]⟩)
  (ht:P.underlying t=some (.slice ty)) (hu:P.underlying u=some .string) (hi:P.info? ty=some i) (aj:i.size=1) (av:i.bytes=1) (hz:i.zero=some z) (a6:z.cells.size=i.size∧0 < i.size)
  (hs:Za T s=some (.tsl i.size es tk)) (hx:Za T x=some (.p (.val (.string (JI b))))) (Z:h tk=some (.arr ty i.size es.length)) (bb:es.length+es'.length≤140737488355328) (af:es'=b.map c8b) (bd:b ≠ []) :
  Yield P o φ M0 h a w (.tsl i.size (es++es') tk) (upd h tk (.arr ty i.size (es.length+es'.length))):=by
 have an:es'.length=b.length:=by rw [af]; simp
 have ba:(es.length+es'.length) * i.bytes≤140737488355328:=by rw [av]; omega
 obtain ⟨l,hl⟩:∃ l:List Value,l=b.map fun c=>Value.int .u8 c.toNat:=⟨_,rfl⟩
 have h3:∀ e ∈ es',e.length=i.size:=by
  intro e he;rw [af] at he;obtain ⟨c,_,rfl⟩:=List.mem_map.1 he;rw [aj]; rfl
 have h5:l.length=es'.length * i.size:=by rw [an,aj,hl]; simp
 have h7:∀ v ∈ l,v.oneCell'=true:=by
  intro v hv;rw [hl] at hv;obtain ⟨c,_,rfl⟩:=List.mem_map.1 hv;rfl
 have bi:0 < es'.length:=by rw [an]; exact List.length_pos_iff.2 bd
 refine Yield.of_lift r 1 fun φ r E0 X0 hC=>?_
 have h8:∀ (j:Nat) (c:PV) (v:Value),es'.flatten[j]?=some c→l[j]?=some v→QH w (MM φ h M0) c v:=by
  intro j c v O hv;have hf:es'.flatten=b.map fun c=>PV.val (.int .u8 c.toNat):=by rw [af,qQ]
  rw [hf,List.getElem?_map] at O;rw [hl,List.getElem?_map] at hv;cases hb:b[j]? with
  | none=>rw [hb] at O; cases O
  | some q =>
   rw [hb] at O hv;simp only [Option.map_some,QN] at O hv;subst O; subst hv;simp [QH]
 have aw:a.eval x=.string (JI b):=by
  have:=r.ev hx;simpa [Qe,QH] using this
 have a7:=r.ev hs;simp only [Qe] at a7;obtain ⟨be,Vs,n2,au,bj,ao⟩:=a7;rw [Z] at au;cases au;rcases ao rfl with ⟨bc,am,_⟩ | ⟨J,c0,am,ax,ae,a8,ah⟩
 ·have az:es=[]:=List.length_eq_zero_iff.1 bc;subst az;simp only [List.length_nil,Nat.zero_add] at ba bb Z ⊢
  have ac:(Builtin.append_ #[t,u] o.type #[.slice none 0 0, .string (JI b)]).run P w=.ok (.slice (some ⟨w.heap.size,0,none⟩) es'.length (grownCap w es'.length 0 ty)) (w.drew.alloc (.cells (l.toArray++Builtin.zeroCells z.cells (grownCap w es'.length 0 ty - es'.length)) ty)):=by
   have:=run_append_nil_string (P:=P) w t u o.type ty i z ht hu hi hz (JI b) (by rw [Wx]; omega) (by rw [Wx]; omega) (by rw [Wx,av]; omega);rw [Wx] at this;rw [an];refine this.trans ?_;rw [hl];simp [JI]
  have ad:=grownCap_ge w es'.length 0 ty;have ai:grownCap w es'.length 0 ty≤maxLen:=grownCap_le_maxLen w es'.length 0 ty (by unfold maxLen; omega);generalize grownCap w es'.length 0 ty=gc at *
  let C:Array Value:=l.toArray++Builtin.zeroCells z.cells (gc - es'.length)
  let w':World:=w.drew.alloc (.cells C ty)
  obtain ⟨E,X⟩:=Gv (w:=w) (w':=w') (ob:=.cells C ty) (φ:=φ) (h:=h) (M0:=M0) (n':=es'.length) Z zo rfl rfl rfl rfl r.hp hC
  have ab:C.size=gc * i.size:=by
   simp only [C,Array.size_append,List.size_toArray,size_zeroCells,a6.1,h5];rw [← Nat.add_mul]; congr 1; omega
  have G:w'.heap[w.heap.size]?=some (.cells C ty (0,0)):=by show (w.heap.push _)[w.heap.size]?=_; simp
  have U:Qu φ tk w.heap.size tk=w.heap.size:=by simp [Qu]
  have hH:Zw (Qu φ tk w.heap.size) (upd h tk (.arr ty i.size es'.length)) w' M0 :=
   Rl Z r.hp E X (fun b hb=>by simp [Qu,Ne.symm hb]) (.inr ⟨U,hC⟩) (fun d hd _=>hC.lt r.hp (w':=w') (by show (w.heap.push _).size≤_; simp) (fun x hx=>by show (w.heap.push _)[x]?=_; rw [Array.getElem?_push,if_neg zo]) hd) (by rw [U]; exact G) ab ad ai
  refine ⟨_, .slice (some ⟨w.heap.size,0,none⟩) es'.length gc,w',Qu φ tk w.heap.size,C9 ho (by rw [am,aw]; exact ac), .inl rfl,?_,hH,E,X⟩
  have Y:∀ x,x < es'.length * i.size→¬ MM (Qu φ tk w.heap.size) (upd h tk (.arr ty i.size es'.length)) M0 w.heap.size x:=fun x hx =>
   Rm (φ:=φ) (h:=h) r.hp hC (d:=tk) (ty:=ty) (S:=i.size) (n:=es'.length) (by simp [upd]) U (fun b k hb hk=>⟨by simpa [upd,Ne.symm hb] using hk,by simp [Qu,Ne.symm hb]⟩) hx
  simp only [Qe,QH,List.nil_append];refine ⟨.inl ⟨w.heap.size,0,gc,rfl,ad,?_⟩,ty,es'.length,by simp [upd],Nat.le_refl _,fun _=>.inr ⟨gc,C,by rw [U],by rw [U]; exact G,ab,ad,ai⟩⟩;rw [Kk];refine ⟨h3,JS (l:=l) (by rw [h5,Zj h3]) ?_ ?_ h7 ?_⟩
  ·intro j v O;rw [ZU G];have hlt:j < l.length:=(List.getElem?_eq_some_iff.1 O).1;simp only [Nat.zero_add,C];rw [Array.getElem?_append_left (by simpa using hlt)];simpa using O
  ·intro j O;simp only [Nat.zero_add];exact Y j (by rw [← h5]; exact O)
  ·intro j c v O hv;exact (ZP (E.keeps M0)).1 _ _ (h8 j c v O hv)
 have ak:VF w (MM φ h M0) i.size (φ tk) 0 es:=by
  by_cases ar:es=[]
  ·subst ar; simp [VF]
  ·obtain ⟨r2,o2,bh,l2,g1,_,_,g4,_⟩:=Xh be ar;rw [am] at g1;simp only [Value.slice.injEq,QN,Addr.mk.injEq] at g1;obtain ⟨⟨rfl,rfl,_⟩,_⟩:=g1;exact g4
 have al:∀ e ∈ es,e.length=i.size:=((Kk es 0).1 ak).1;by_cases aa:es.length+es'.length≤J
 ·have bg:es.length * i.size+l.length≤c0.size:=by rw [h5,ae,← Nat.add_mul]; exact Nat.mul_le_mul_right _ aa
  have ac:(Builtin.append_ #[t,u] o.type #[.slice (some ⟨φ tk,0,none⟩) es.length J, .string (JI b)]).run P w=.ok (.slice (some ⟨φ tk,0,none⟩) (es.length+es'.length) J) (w.setRow (φ tk) (c0.toList.take (es.length * i.size)++l++c0.toList.drop (es.length * i.size+l.length)).toArray):=by
   have:=Lib.run_append_room_string (P:=P) w t u o.type ty i ht hu hi aj (φ tk) es.length J c0 ax (JI b) (by rw [Wx]; omega) (by rw [Wx,ae,aj]; omega);rw [Wx] at this;rw [h5,an,aj,Nat.mul_one,Nat.mul_one,hl];refine this.trans ?_;simp [Lib.strCells,JI]
  let C:Array Value:=(c0.toList.take (es.length * i.size)++l++c0.toList.drop (es.length * i.size+l.length)).toArray
  have ay:(c0.toList.take (es.length * i.size)).length=es.length * i.size:=by simp; omega
  have ab:C.size=c0.size:=by simp [C]; omega
  obtain ⟨E,X⟩:=Ai (φ:=φ) (h:=h) (w:=w) (M0:=M0) (n':=es.length+es'.length) (c':=C) Z ax zo ab (fun x hx=>by
   simp only [C,List.getElem?_toArray];rw [List.append_assoc,List.getElem?_append_left (by rw [ay]; exact hx),List.getElem?_take,if_pos hx];simp) r.hp
  have G:(w.setRow (φ tk) C).heap[φ tk]?=some (.cells C ty (0,0)):=setRow_heap w _ c0 C ty _ ax
  have hH:Zw φ (upd h tk (.arr ty i.size (es.length+es'.length))) (w.setRow (φ tk) C) M0 :=
   Rl Z r.hp E X (fun _ _=>rfl) (.inl rfl) (fun d hd bf=>setRow_other w _ _ C (fun e=>bf (r.hp.inj d tk hd (by rw [Z]; simp) e))) G (by rw [ab,ae]) aa ah
  refine ⟨_, .slice (some ⟨φ tk,0,none⟩) (es.length+es'.length) J,_,φ,C9 ho (by rw [am,aw]; exact ac), .inl rfl,?_,hH,E,X⟩
  have Y:∀ x,x < (es.length+es'.length) * i.size→¬ MM φ (upd h tk (.arr ty i.size (es.length+es'.length))) M0 (φ tk) x:=by
   rintro x hx (⟨b,k,q1,q2,q3⟩ | q1)
   ·by_cases e:tk=b
    ·subst e;have:k=.arr ty i.size (es.length+es'.length):=by simpa [upd] using q1.symm
     subst this;simp only at q3;omega
    ·have q4:h b=some k:=by simpa [upd,e] using q1
     exact e (r.hp.inj b tk (by rw [q4]; simp) (by rw [Z]; simp) q2).symm
   ·exact r.hp.fr tk (by rw [Z]; simp) x q1
  simp only [Qe,QH];refine ⟨.inl ⟨φ tk,0,J,by simp,by simpa using aa,?_⟩,ty,es.length+es'.length,by simp [upd],by simp,fun _=>.inr ⟨J,C,rfl,G,by rw [ab,ae],aa,ah⟩⟩;rw [Va];refine ⟨(ZP (E.keeps M0)).2.1 _ _ _ _ ak,?_⟩;rw [Kk];refine ⟨h3,JS (l:=l) (by rw [h5,Zj h3]) ?_ ?_ h7 ?_⟩
  ·intro j v O;rw [ZU G];have hlt:j < l.length:=(List.getElem?_eq_some_iff.1 O).1;simp only [Nat.zero_add,C,List.getElem?_toArray];rw [List.append_assoc,List.getElem?_append_right (by rw [ay]; omega),ay,List.getElem?_append_left zo];rw [show es.length * i.size+j - es.length * i.size=j from by omega];exact O
  ·intro j O;simp only [Nat.zero_add];refine Y _ ?_;rw [h5] at O;rw [Nat.add_mul]; omega
  ·intro j c v O hv;exact (ZP (E.keeps M0)).1 _ _ (h8 j c v O hv)
 ·obtain ⟨ol,g1,g2,g3,g4⟩:=Fj _ _ ((Kk es 0).1 ak).2;have aq:ol.length=es.length * i.size:=by rw [g1,Zj al]
  have ac:(Builtin.append_ #[t,u] o.type #[.slice (some ⟨φ tk,0,none⟩) es.length J, .string (JI b)]).run P w=.ok (.slice (some ⟨w.heap.size,0,none⟩) (es.length+es'.length) (grownCap w (es.length+es'.length) J ty)) (w.drew.alloc (.cells (ol.toArray++l.toArray++Builtin.zeroCells z.cells (grownCap w (es.length+es'.length) J ty - (es.length+es'.length))) ty)):=by
   have:=Lib.run_append_grow_string (P:=P) w t u o.type ty i z ht hu hi hz ⟨φ tk,0,none⟩ es.length J ol aq (fun j v O=>by rw [Addr.add_lit]; exact g2 j v O) (JI b) (by rw [Wx]; omega) (by rw [Wx]; omega) (growslice_fits (by rw [Wx]; omega) (by rw [Wx,av]; omega));rw [Wx] at this;rw [an];refine this.trans ?_;rw [hl];simp [Lib.strCells,JI]
  have ad:=grownCap_ge w (es.length+es'.length) J ty;have ai:grownCap w (es.length+es'.length) J ty≤maxLen:=grownCap_le_maxLen w _ J ty (by unfold maxLen; omega);generalize grownCap w (es.length+es'.length) J ty=gc at *
  let C:Array Value:=ol.toArray++l.toArray++Builtin.zeroCells z.cells (gc - (es.length+es'.length))
  let w':World:=w.drew.alloc (.cells C ty)
  obtain ⟨E,X⟩:=Gv (w:=w) (w':=w') (ob:=.cells C ty) (φ:=φ) (h:=h) (M0:=M0) (n':=es.length+es'.length) Z zo rfl rfl rfl rfl r.hp hC
  have ab:C.size=gc * i.size:=by
   simp only [C,Array.size_append,List.size_toArray,size_zeroCells,a6.1,h5,aq];rw [← Nat.add_mul,← Nat.add_mul]; congr 1; omega
  have G:w'.heap[w.heap.size]?=some (.cells C ty (0,0)):=by show (w.heap.push _)[w.heap.size]?=_; simp
  have U:Qu φ tk w.heap.size tk=w.heap.size:=by simp [Qu]
  have hH:Zw (Qu φ tk w.heap.size) (upd h tk (.arr ty i.size (es.length+es'.length))) w' M0 :=
   Rl Z r.hp E X (fun b hb=>by simp [Qu,Ne.symm hb]) (.inr ⟨U,hC⟩) (fun d hd _=>hC.lt r.hp (w':=w') (by show (w.heap.push _).size≤_; simp) (fun x hx=>by show (w.heap.push _)[x]?=_; rw [Array.getElem?_push,if_neg zo]) hd) (by rw [U]; exact G) ab ad ai
  refine ⟨_, .slice (some ⟨w.heap.size,0,none⟩) (es.length+es'.length) gc,w',Qu φ tk w.heap.size,C9 ho (by rw [am,aw]; exact ac), .inl rfl,?_,hH,E,X⟩
  have Y:∀ x,x < (es.length+es'.length) * i.size→¬ MM (Qu φ tk w.heap.size) (upd h tk (.arr ty i.size (es.length+es'.length))) M0 w.heap.size x:=fun x hx =>
   Rm (φ:=φ) (h:=h) r.hp hC (d:=tk) (ty:=ty) (S:=i.size) (n:=es.length+es'.length) (by simp [upd]) U (fun b k hb hk=>⟨by simpa [upd,Ne.symm hb] using hk,by simp [Qu,Ne.symm hb]⟩) hx
  simp only [Qe,QH];refine ⟨.inl ⟨w.heap.size,0,gc,by simp,by simpa using ad,?_⟩,ty,es.length+es'.length,by simp [upd],by simp,fun _=>.inr ⟨gc,C,by rw [U],by rw [U]; exact G,ab,ad,ai⟩⟩;rw [Va];constructor
  ·rw [Kk];refine ⟨al,JS (l:=ol) g1 ?_ ?_ g3 ?_⟩
   ·intro j v O;rw [ZU G];have hlt:j < ol.length:=(List.getElem?_eq_some_iff.1 O).1;simp only [Nat.zero_add,C];rw [Array.append_assoc,Array.getElem?_append_left (by simpa using hlt)];simpa using O
   ·intro j O;simp only [Nat.zero_add];refine Y _ ?_;rw [aq] at O;rw [Nat.add_mul]; omega
   ·intro j c v O hv;exact (ZP (E.keeps M0)).1 _ _ (g4 j c v O hv)
  ·rw [Kk];refine ⟨h3,JS (l:=l) (by rw [h5,Zj h3]) ?_ ?_ h7 ?_⟩
   ·intro j v O;rw [ZU G];have hlt:j < l.length:=(List.getElem?_eq_some_iff.1 O).1;simp only [Nat.zero_add,C];rw [Array.append_assoc,Array.getElem?_append_right (by simp; omega),Array.getElem?_append_left (by simp; omega)];simp only [List.size_toArray,aq,List.getElem?_toArray];rw [show es.length * i.size+j - es.length * i.size=j from by omega];exact O
   ·intro j O;simp only [Nat.zero_add];refine Y _ ?_;rw [h5] at O;rw [Nat.add_mul]; omega
   ·intro j c v O hv;exact (ZP (E.keeps M0)).1 _ _ (h8 j c v O hv)
end
section
variable {R:Type} {a:Option R} {P:Program} {N:Nat} {ops:Array Oper} {o:Oper} {l:List Oper} {acc:List Yg} {s:St} {Q:R→AX→St→Prop}
theorem GA {u:TypeId} {bs b:List UInt8}  (U:o.op=.call ⟨.builtin .append,#[x,y],#[t,u]⟩) 
  (ht:P.underlying t=some (.slice ty)) (hu:P.underlying u=some .string) 
    
  (hc:(QM (List.length (bs++b)) 1&&!List.isEmpty b)=true)
  (h:K8 a P N ops Q false ((none,[]) :: acc) l (St.put ⟨(mk ops o s true).T,s.H.map fun p=>if p.1=tk then (p.1, .arr ty 1 (List.map c8b (bs++b)).length) else p⟩ o.dst (.tsl 1 (List.map c8b (bs++b)) tk)))(hw:ZA ops o (look s.T)=some true:=by kernel_rfl)(hd:Ky N o.dst=true:=by kernel_rfl)(hi:(P.info? ty).map (fun i=>(i.size,i.bytes,i.zero))=some (1,1,some (.int .u8 0)):=by kernel_rfl)(hx:Za (look (mk ops o s true).T) x=some (.tsl 1 (List.map c8b bs) tk):=by kernel_rfl)(hy:Za (look (mk ops o s true).T) y=some (.p (.val (.string (JI b)))):=by kernel_rfl)(hb:look s.H tk=some (.arr ty 1 (List.map c8b bs).length):=by kernel_rfl):K8 a P N ops Q false acc (o :: l) s:=by
 refine QfY hw (by rw [U,hd]; rfl) (fun c hc=>by rw [U] at hc; cases hc) fun φ M0 D ac w r=>⟨_,⟨(mk ops o s true).T,s.H.map fun p=>if p.1=tk then (p.1, .arr ty 1 (List.map c8b (bs++b)).length) else p⟩,rfl,h,?_⟩
 obtain ⟨i,Y,O⟩:=GK.1 hi;simp only [Prod.mk.injEq] at O;obtain ⟨J,e2,e3⟩:=O;simp only [Ze,Bool.not_eq_true'] at hc;have G:=hc.1;simp only [QM,YY,decide_eq_true_eq] at G
 have Z:b ≠ []:=by
  intro e;rw [e] at hc;exact absurd hc.2 zq
 have hH:look (s.H.map fun p=>if p.1=tk then (p.1, .arr ty 1 (List.map c8b (bs++b)).length) else p)=upd (look s.H) tk (.arr ty 1 (List.map c8b (bs++b)).length):=by
  funext c;exact yt s.H c hb
 show Yield P o φ M0 (look s.H) ac w _ (look (s.H.map fun p=>if p.1=tk then (p.1, .arr ty 1 (List.map c8b (bs++b)).length) else p));rw [hH];have key:=tL (es:=List.map c8b bs) (es':=b.map c8b) (tk:=tk) (b:=b) (i:=i) (z:=.int .u8 0) r U ht hu Y J e2 e3 (by rw [J]; exact ⟨rfl,by omega⟩) (by rw [J]; exact hx) hy (by rw [J]; exact hb) (by simp only [List.length_map]; omega) rfl Z;rw [J] at key;have hl:(List.map c8b (bs++b)).length=(List.map c8b bs).length+(List.map c8b b).length:=by simp
 rw [hl,List.map_append];exact key
theorem mX {Z:Act} {g:Nat} {k:IntKind} {n:Int} {G:List (List UInt8)} {x:List UInt8} (r:Q6 φ M0 N D T h Z w) (ho:o.op=.indexAddr t (.global g) ix)
  (ht:P.underlying t=some (.array len e)) (hi:(P.info? e).map (·.size)=some 1) (hn:Za T ix=some (.p (.val (.int k n)))) (hg:gfix.contains g=true) (af:G.length=len)
  (U:∀ w,fI w→∀ (j:Nat) (y:List UInt8),G[j]?=some y→w.cell? ⟨g,j,none⟩=some (.string (JI y))) (Y:QY G n=some x):Yield P o φ M0 h Z w (.eptr [.val (.string (JI x))]) h:=by
 have ae:Z.eval ix=.int k n:=by
  have:=r.ev hn;simpa [Qe,QH] using this
 have O:0≤n∧n < (len:Int)∧G[n.toNat]?=some x:=by
  unfold QY at Y;split at Y
  ·cases Y
  ·rename_i ah;have:=(List.getElem?_eq_some_iff.1 Y).1;exact ⟨by omega,by omega,Y⟩
 obtain ⟨j,rfl⟩:=Int.eq_ofNat_of_zero_le O.1;have J:=U w r.hp.gm.w j x (by simpa using O.2.2);obtain ⟨inf,ab,ad⟩:=GK.1 hi;refine Ql r (v:=.pointer (some ⟨g,j,none⟩)) ?_ ?_
 ·have hlt:(j:Int) < (len:Int):=O.2.1;have aa:Z.eval (.global g)=.pointer (some ⟨g,0,none⟩):=rfl;simp [execOp,ho,Instr.indexAt,ae,asIntOf,run_underlying ht,aa,Instr.sureAddr,QU ab,ad,Addr.add_lit];intro hh;omega
 ·simp only [Qe,VE,QH];exact ⟨g,j,rfl,⟨_,J,r.hp.gm.m g (by simpa using hg) j,rfl,rfl⟩,trivial⟩
theorem QfZ {L:List Nat} {c:Nat} {Ch:List (Nat × List Nat)} {k0:List UInt8→Option R} {g:Nat} {k:IntKind} {n:Int} {J:List (List UInt8)} (L':List Nat) (hc:ops[c]?=some o) (O:o.op=.indexAddr t (.global g) ix) (hd:Ky N o.dst=true)
  (ht:P.underlying t=some (.array len e)) (hi:(P.info? e).map (·.size)=some 1) (hn:Za (look s.T) ix=some (.p (.val (.int k n)))) (hg:gfix.contains g=true) (G:(J.length == len&&XW ops L c == L')=true)
  (Y:∀ w,fI w→∀ (j:Nat) (y:List UInt8),J[j]?=some y→w.cell? ⟨g,j,none⟩=some (.string (JI y)))
  (hl:∀ x,QY J n=some x→WT P ops L' (St.put s o.dst (.eptr [.val (.string (JI x))])))
  (h:∀ x,zN (k0 x) P N ops Q L Ch (St.put s o.dst (.eptr [.val (.string (JI x))]))):zN ((QY J n).bind k0) P N ops Q L ((c,[]) :: Ch) s:=by
 simp only [Ze,beq_iff_eq] at G;obtain ⟨G,hL⟩:=G;cases hx:QY J n with
 | none=>exact ⟨fun r hr=>by cases hr⟩
 | some x =>
  refine ⟨fun r hr=>?_⟩;simp only [gH,hc];unfold XP
  have key:pX P N o s (fun s'=>WT P ops (XW ops L c) s'∧∃ Z,RB P N ops [] s'=some Z∧gH P N ops (qh ops Q r) L Ch Z):=by
   refine ⟨fun c hc=>(by rw [O] at hc; cases hc),hd,fun φ M0 D ac w r1=>⟨_,s,rfl,⟨hL ▸ hl x hx,_,rfl,(h x).h r hr⟩,mX r1 O ht hi hn hg G Y hx⟩⟩
  split
  ·rename_i U; rw [U] at O; cases O
  ·rename_i U; rw [U] at O; cases O
  ·rename_i U; rw [U] at O; cases O
  ·exact .inr key
theorem UW {dr:Bool} (h:K8 ((some ()).bind fun _=>a) P N ops Q dr acc l s):K8 a P N ops Q dr acc l s:=h
end
theorem QaV (b k:Nat) (hb:cellAt b k s=some (.p (.val (.pointer none)))):Weak N s (Gy b k (.sfp b) s):=by
 intro φ M0 D a w r;obtain ⟨ty,cs,G,Dk⟩:=Lj hb;have J:look (Gy b k (.sfp b) s).H=upd (look s.H) b (.box ty (cs.set k (.sfp b))):=qL G;refine ⟨φ,?_,?_⟩
 ·show Q6 φ M0 N D (look s.T) (look (Gy b k (.sfp b) s).H) a w;rw [J];refine vY r G fun c hc=>?_
  obtain ⟨c',g1,g2⟩:=r.hp.blk b _ G;rw [hc] at g1;cases g1;obtain ⟨u,g3,g4⟩:=RG g2 Dk;refine FE g2 g3 ?_;simp only [Qe];exact ⟨.inl (by simpa [Qe,QH] using g4),ty,cs,G⟩
 ·rw [J];exact Ee G
def Ej (g:Nat) (w w':World):Prop :=
 w'.os=w.os∧w'.tape=w.tape∧w'.output=w.output∧w.heap.size≤w'.heap.size∧w'.heap.size≤w.heap.size+1∧(∀ x,x < w.heap.size→x ≠ g→w'.heap[x]?=w.heap[x]?)∧(∀ x o,x < w.heap.size→w'.cell? ⟨x,o,none⟩=w.cell? ⟨x,o,none⟩)
structure Qf0 (P:Program) (f:FuncId) (ty te:TypeId):Prop where
 nil:∀ (b g:Nat) (p:Value) (w:World),w.heap[b]?=some (.cells #[p, .slice none 0 0] ty (0,0))→Calls P f #[.pointer (some ⟨b,0,none⟩)] w fun e w'=>e=.returned (.string ⟨#[]⟩)∧Ej g w w'
 full:∀ (b g cap:Nat) (p:Value) (cur:Array Value) (l:List UInt8) (w:World),l ≠ []→w.heap[b]?=some (.cells #[p, .slice (some ⟨g,0,none⟩) l.length cap] ty (0,0))→w.heap[g]?=some (.cells cur te (0,0))→l.length≤cap→cap≤maxLen→cur.size=cap →
  (∀ (j:Nat) (x:UInt8),l[j]?=some x→w.cell? ⟨g,j,none⟩=some (.int .u8 x.toNat))→Calls P f #[.pointer (some ⟨b,0,none⟩)] w fun e w'=>e=.returned (.string ⟨l.toArray⟩)∧Ej g w w'
 noroom:∀ (b g:Nat) (p:Value) (cur:Array Value) (w:World),w.heap[b]?=some (.cells #[p, .slice (some ⟨g,0,none⟩) 0 0] ty (0,0))→w.heap[g]?=some (.cells cur te (0,0))→Calls P f #[.pointer (some ⟨b,0,none⟩)] w fun e w'=>e=.returned (.string ⟨#[]⟩)∧Ej g w w'
 room:∀ (b g cap:Nat) (p:Value) (w:World),cap ≠ 0→w.heap[b]?=some (.cells #[p, .slice (some ⟨g,0,none⟩) 0 cap] ty (0,0))→Calls P f #[.pointer (some ⟨b,0,none⟩)] w fun e w'=>e=.returned (.string ⟨#[]⟩)∧Ej g w w'
theorem upd_same {k:Blk} (hb:h b=some k):upd h b k=h:=by
 funext c;simp only [upd];split
 ·rename_i e; rw [← e,hb]
 ·rfl
theorem mY
  (hU:∀ (b:Nat) (w:World),w.cell? ⟨b,0,none⟩=some (.pointer (some ⟨b,0,none⟩))→Calls P f #[.pointer (some ⟨b,0,none⟩)] w fun e w'=>e=.returned (.tuple #[])∧w'=w)
  (hF:∀ (b:Nat) (w:World),w.cell? ⟨b,0,none⟩=some (.pointer none)→w.shape? b=some (ty,2)→w.frozen? ⟨b,0,none⟩=false→Calls P f #[.pointer (some ⟨b,0,none⟩)] w fun e w'=>e=.returned (.tuple #[])∧w'=w.setCell ⟨b,0,none⟩ (.pointer (some ⟨b,0,none⟩)))
  (J:Option Addr) (G hc:Nat) :
  Kw P f [.ptr 1000 0] (look [(1000, .box ty [.sfp 1000, .p (.val (.slice J G hc))])]) fun r h'=>r=.ret (.tup [])∧h'=look [(1000, .box ty [.sfp 1000, .p (.val (.slice J G hc))])]:=by
 intro φ M0 w vs r ha;simp only [Qi] at ha;obtain ⟨y,ys,rfl,hy,rfl⟩:=ha;simp only [Qe] at hy;obtain ⟨rfl,_⟩:=hy;have hb:look [(1000,Blk.box ty [.sfp 1000, .p (.val (.slice J G hc))])] 1000=some (.box ty [.sfp 1000, .p (.val (.slice J G hc))]):=rfl;obtain ⟨c,O,U⟩:=r.blk 1000 _ hb;have aa:=U;simp only [Qi] at U;obtain ⟨v0,l0,e0,h0,Z,l1,e1,h1,rfl⟩:=U;subst e1
 have ec:c=#[v0,Z]:=by
  apply Array.ext';exact e0
 subst ec;simp only [Qe] at h0;rcases h0.1 with rfl | rfl
 ·refine (hF (φ 1000) w (by simp [World.cell?,O]) (by simp [World.shape?,O]) (by simp [World.frozen?,O])).mono ?_;rintro e w' ⟨rfl,rfl⟩;rw [setCell_eq_setRow w (φ 1000) 0 _ ty (0,0) _ O]
  have Y:Qi φ (look [(1000,Blk.box ty [.sfp 1000, .p (.val (.slice J G hc))])]) w (MM φ (look [(1000,Blk.box ty [.sfp 1000, .p (.val (.slice J G hc))])]) M0) [.sfp 1000, .p (.val (.slice J G hc))] ((#[.pointer none,Z]:Array Value).setIfInBounds 0 (.pointer (some ⟨φ 1000,0,none⟩))).toList:=by
   simp only [Qi,Qe];exact ⟨.pointer (some ⟨φ 1000,0,none⟩),[Z],by simp,⟨.inr rfl,h0.2⟩,Z,[],rfl,h1,rfl⟩
  obtain ⟨E,X⟩:=Oz (cs':=[.sfp 1000, .p (.val (.slice J G hc))]) (c':=(#[.pointer none,Z]:Array Value).setIfInBounds 0 (.pointer (some ⟨φ 1000,0,none⟩))) hb O r;have R:=jP hb O r Y;rw [upd_same hb] at E R;exact ⟨φ,_,_,⟨rfl,rfl⟩,R,E,_,rfl,by simp [Qe,Qi]⟩
 ·refine (hU (φ 1000) w (by simp [World.cell?,O])).mono ?_;rintro e w' ⟨rfl,rfl⟩;exact ⟨φ,_,_,⟨rfl,rfl⟩,r,QT.refl _ _ _,_,rfl,by simp [Qe,Qi]⟩
theorem mZ {te:TypeId} {t:Nat} {l:List UInt8} (C:Qf0 P f ty te) (K0:FZ)
  (hb:look s.H b=some (.box ty [.sfp b, .tsl 1 (List.map c8b l) t])) (ht:look s.H t=some (.arr te 1 (List.map c8b l).length)) (hs:LF K0 s=some s') (ao:look s'.H t=none)
  (ae:∀ c,look s'.H c ≠ none→look s.H c ≠ none) (hd:∀ x,dst=some x→x < N) (hk:K (s'.put dst (.p (.val (.string (JI l)))))):Xl P N f [.ptr b 0] dst s K Q:=by
 intro φ M0 D a w vs r ha;simp only [Qi] at ha;obtain ⟨y,ys,rfl,hy,rfl⟩:=ha;simp only [Qe] at hy;obtain ⟨rfl,_⟩:=hy;obtain ⟨r1,E1⟩:=QcJ hs r;obtain ⟨r2,E2,X2,hC⟩:=r1.lift 1
 have fin:∀ w',Ej (φ t) w w'→∃ φ' G,K G∧Q6 φ' M0 N D (look G.T) (look G.H) (a.put dst (.string (JI l))) w'∧QT φ (look s.H) w φ' (look G.H) w':=by
  rintro w' ⟨h1,h2,h3,h4,h5,h6,h7⟩;generalize au:Kv φ w.heap.size 1=O at r2 E2 X2 hC
  have hne:∀ c,look s'.H c ≠ none→φ c ≠ φ t:=fun c hc e=>by
   have:=r.hp.inj c t (ae c hc) (by rw [ht]; simp) e;rw [this] at hc;exact hc ao
  have hh:∀ c k,look s'.H c=some k→w'.heap[O c]?=w.heap[O c]?:=by
   intro c k hc;rcases hC c (by rw [hc]; simp) with hlt | az
   ·have aw:O c=φ c:=by
     rw [← au] at hlt ⊢;unfold Kv at hlt ⊢;split
     ·rfl
     ·rename_i h; rw [if_neg h] at hlt; omega
    rw [aw] at hlt ⊢;exact h6 _ hlt (hne c (by rw [hc]; simp))
   ·rw [ZE zo,ZE zo]
  have ai:∀ x o v,w.cell? ⟨x,o,none⟩=some v→¬ MM O (look s'.H) M0 x o→w'.cell? ⟨x,o,none⟩=some v∧¬ MM O (look s'.H) M0 x o:=fun x o v g1 g2=>⟨by rw [h7 x o (BC g1)]; exact g1,g2⟩
  have X:VL O (look s'.H) w O (look s'.H) w':=⟨fun _ _ _ x=>⟨⟨_,_,x⟩,rfl⟩,fun c ty S n x=>⟨_,x,Nat.le_refl _,fun _=>Yi rfl (by rw [hh _ _ x])⟩,
   fun c ty S n x=>⟨_,x,Nat.le_refl _,fun _=>⟨rfl,fun q hq=>⟨q,by rw [hh _ _ x]; exact hq,rfl⟩⟩⟩,fun _ _ _ g1 g2=>⟨⟨_,g1,g2⟩,rfl⟩⟩
  have E3:=E1.trans E2;have ax:w.heap.size≤w.heap.size:=Nat.le_refl _
  have E:QT φ (look s.H) w O (look s'.H) w':=by
   refine ⟨h1,h2,h3,h4,fun x hx ar=>?_,fun x o hx _=>h7 x o hx,E3.mu,E3.kb,fun c ty S n hc ab=>?_,fun c ty S es hc ab=>?_,E3.ko⟩
   ·exact h6 x hx (fun e=>ar t (by rw [ht]; simp) e.symm)
   ·obtain ⟨n',g1,g2,g3⟩:=E3.kt c ty S n hc ab;exact ⟨n',g1,g2,fun e=>(g3 e).trans ax (Yi rfl (hh _ _ g1))⟩
   ·obtain ⟨es',g1,g2,g3⟩:=E3.kv c ty S es hc ab;refine ⟨es',g1,g2,fun e=>?_⟩;obtain ⟨g4,g5⟩:=g3 e;refine ⟨g4,fun q hq=>?_⟩;obtain ⟨q',g6,g7⟩:=g5 q hq;refine ⟨q',?_,g7⟩;have:=hh _ _ g1;rw [g4] at this;rw [this];exact g6
  have R:Zw O (look s'.H) w' M0:=⟨r2.hp.inj,fun c k hc=>ZI ai X (hh c k hc) (r2.hp.blk c k hc),r2.hp.fr,fun x o hx=>Nat.lt_of_lt_of_le (r2.hp.lt x o hx) h4,r.hp.gm.evol E⟩;have rr:Q6 O M0 N D (look s'.T) (look s'.H) a w':=⟨r.dfs.keep E,r.siz,R,fun q x hq=>⟨(r2.tm q x hq).1,(QI ai X).1 _ _ (r2.tm q x hq).2⟩⟩;refine ⟨O,s'.put dst (.p (.val (.string (JI l)))),hk,rr.put hd (by simp [Qe,QH]),?_⟩;cases dst <;> exact E
 have J:∀ (e:Ending) (w':World),(e=.returned (.string (JI l))∧Ej (φ t) w w')→(match e with
  | .returned v=>∃ φ' G,K G∧Q6 φ' M0 N D (look G.T) (look G.H) (a.put dst v) w'∧QT φ (look s.H) w φ' (look G.H) w'
  | .panicked chain=>Post N D Q φ M0 (look s.H) w (.panic chain) a w'
  | .outgrown=>False):=by
  rintro e w' ⟨rfl,an⟩;exact fin w' an
 obtain ⟨c,hw,aj⟩:=r.hp.blk b _ hb;simp only [Qi] at aj;obtain ⟨v0,l0,e0,h0,v1,l1,e1,h1,rfl⟩:=aj;subst e1
 have ec:c=#[v0,v1]:=by
  apply Array.ext';exact e0
 subst ec;simp only [Qe] at h1;obtain ⟨af,Vs,n2,ak,a6,Y⟩:=h1;rw [ht] at ak;cases ak;rcases Y rfl with ⟨aq,rfl,av⟩ | ⟨cap,c0,rfl,ah,ay,Z,al⟩
 ·have U:l=[]:=List.eq_nil_of_length_eq_zero (by simpa using aq);subst U;exact (C.nil (φ b) (φ t) v0 w hw).mono J
 ·rw [List.length_map] at hw Z;by_cases U:l=[]
  ·subst U;by_cases ad:cap=0
   ·subst ad;exact (C.noroom (φ b) (φ t) v0 c0 w hw ah).mono J
   ·exact (C.room (φ b) (φ t) cap v0 w ad hw).mono J
  ·refine (C.full (φ b) (φ t) cap v0 c0 l w U hw ah Z al (by rw [ay,Nat.mul_one]) ?_).mono J;intro j x hx;simp only [QH] at af;rcases af with ⟨rr,oo,cp,g1,g2,g3⟩ | ⟨g1,_⟩
   ·simp only [Value.slice.injEq,QN,Addr.mk.injEq] at g1;obtain ⟨⟨rfl,rfl,_⟩,_⟩:=g1;obtain ⟨ol,k1,k2,k3,k4⟩:=Fj _ _ ((Kk _ 0).1 g3).2;rw [qQ] at k1 k4;have hj:j < l.length:=(List.getElem?_eq_some_iff.1 hx).1
    have am:∃ v,ol[j]?=some v:=by
     have:j < ol.length:=by rw [k1]; simpa using hj
     exact ⟨_,List.getElem?_eq_getElem this⟩
    obtain ⟨v,hv⟩:=am;have ac:=k2 j v hv;have aa:=k4 j (.val (.int .u8 x.toNat)) v (by rw [List.getElem?_map,hx]; rfl) hv;simp only [QH] at aa;subst aa;simpa [Addr.add_lit] using ac
   ·exact absurd (by simpa using g1) U
section
variable {R:Type} {a:Option R} {P:Program} {N:Nat} {ops:Array Oper} {o:Oper} {l:List Oper} {acc:List Yg} {s s':St} {Q:R→AX→St→Prop}
theorem Qc8 {U:TypeId} {t:Nat} {bs:List UInt8} (C:Qf0 P f ty U) (Y:FZ) (hw:ZA ops o (look s.T)=some true) (G:ZO (look (Zb ops o s.T true)) o.op=some (f,[.ptr b 0])) (hok:(K7 P f&&Ky N o.dst)=true)
  (hb:look s.H b=some (.box ty [.sfp b, .tsl 1 (List.map c8b bs) t])) (ht:look s.H t=some (.arr U 1 (List.map c8b bs).length)) (hs:LF Y (mk ops o s true)=some s') (O:(look s'.H t).isNone=true)
  (J:(s'.H.all fun p=>(look s.H p.1).isSome)=true) (h:K8 a P N ops Q false ((none,[]) :: acc) l (St.put s' o.dst (.p (.val (.string (JI bs)))))):K8 a P N ops Q false acc (o :: l) s:=by
 simp only [Ze] at hok;refine ⟨fun r hr=>?_⟩;show KT P N ops (Q r) (o :: l) s;simp only [KT,hw,ZB,Ja G];refine Xy G hok.1 (mZ C Y hb ht hs (by simpa using O) (fun c hc=>?_) (ZL hok.2) (h.h r hr));obtain ⟨k,Z⟩:=Ah.1 hc;have hm:c ∈ s'.H.map (·.1):=Z8.1 (by rw [Z]; simp);obtain ⟨p,hp,rfl⟩:=List.mem_map.1 hm;have:=List.all_eq_true.1 J p hp;obtain ⟨q,hq⟩:=Td.1 this;show look s.H p.1 ≠ none;rw [hq]; simp
end
end Go.Abs
namespace Go.Proofs
open Go Go.RowKit
set_option maxHeartbeats 1000000 in
set_option maxRecDepth 100000 in
theorem tN (b:Nat) (w:World) (h0:w.cell? ⟨b,0,none⟩=some (.pointer (some ⟨b,0,none⟩))) :
  Calls Tryz.prog 131 #[.pointer (some ⟨b,0,none⟩)] w fun e w'=>e=.returned (.tuple #[])∧w'=w:=by
 obtain ⟨j,J,G⟩:∃ j,Tryz.prog.info? 95=some j∧j.size=2:=GK.1 (show (Tryz.prog.info? 95).map (·.size)=some 2 by kernel_rfl)
 go_enter Tryz.func131,Tryz.ntmps131
 go_wp2
 rw [Lib.run_neq_ptr_same w _ Tryz.underlying92 J]
 go_wp2
 go_end0
 exact ⟨rfl,rfl⟩
set_option maxHeartbeats 1000000 in
set_option maxRecDepth 100000 in
theorem ng (b:Nat) (w:World) (h0:w.cell? ⟨b,0,none⟩=some (.pointer none)) (G:w.shape? b=some (97,2)) (U:w.frozen? ⟨b,0,none⟩=false) :
  Calls Tryz.prog 131 #[.pointer (some ⟨b,0,none⟩)] w fun e w'=>e=.returned (.tuple #[])∧w'=w.setCell ⟨b,0,none⟩ (.pointer (some ⟨b,0,none⟩)):=by
 obtain ⟨j,O,J⟩:∃ j,Tryz.prog.info? 95=some j∧j.size=2:=GK.1 (show (Tryz.prog.info? 95).map (·.size)=some 2 by kernel_rfl)
 go_enter Tryz.func131,Tryz.ntmps131
 go_wp2
 rw [Lib.run_to_unsafe w ⟨b,0,none⟩ Tryz.underlying92 Tryz.underlying274 O (by rw [J]; decide) G (Nat.zero_lt_succ 1)];simp only [Result.andThen];rw [Oper.upon_value]
 go_wp2
 rw [run_callFunc_extern Tryz.func194 (by kernel_rfl) (by kernel_rfl) (by kernel_rfl) (e:=Extern.AbiNoEscape.same) (by kernel_rfl)];rw [Lib.run_noEscape];simp only [Result.andThen];rw [Oper.upon_value]
 go_wp2
 rw [Lib.run_from_unsafe w ⟨b,0,none⟩ Tryz.underlying274 Tryz.underlying92 O G (by kernel_rfl)];simp only [Result.andThen];rw [Oper.upon_value]
 go_wp2
 go_end0
 exact ⟨rfl,rfl⟩
end Go.Proofs
namespace Go.Proofs
open Go Go.RowKit Go.Abs
variable {n:Nat}
theorem SK (g:Nat) (w:World):Ej g w w:=⟨rfl,rfl,rfl,Nat.le_refl _,Nat.le_succ _,fun _ _ _=>rfl,fun _ _ _=>rfl⟩
theorem tO {g:Nat} {w w':World} (o:Obj) (O:w'=w.drew.alloc o∨w'=(w.alloc o).drew∨w'=w.alloc o):Ej g w w':=by
 have key:Ej g w (w.alloc o):=by
  have G:∀ x,x < w.heap.size→(w.alloc o).heap[x]?=w.heap[x]?:=fun x J=>by show (w.heap.push o)[x]?=_; rw [Array.getElem?_push,if_neg zo]
  exact ⟨rfl,rfl,rfl,by show _≤(w.heap.push o).size; simp,by show (w.heap.push o).size≤_; simp,fun x J _=>G x J,fun x y J=>by simp [World.cell?,G x J]⟩
 rcases O with rfl | rfl | rfl
 ·exact key
 ·exact key
 ·exact key
theorem uC {g:Nat} {w:World}:Ej g w (w.freeze ⟨g,0,none⟩ n):=by
 unfold World.freeze;split
 ·exact SK g w
 ·refine ⟨rfl,rfl,rfl,by simp,by simp,fun x G hne=>?_,fun x o G=>?_⟩
  ·simp only [Array.getElem?_modify];rw [if_neg (fun e=>hne e.symm)]
  ·simp only [World.cell?,Array.getElem?_modify];by_cases e:g=x
   ·subst e;simp only [if_true];cases hc:w.heap[g]? with
    | none=>rfl
    | some ob=>cases ob <;> rfl
   ·rw [if_neg e]
set_option maxHeartbeats 2000000 in
set_option maxRecDepth 100000 in
theorem Qc9 (b g:Nat) (p:Value) (w:World) (G:w.heap[b]?=some (.cells #[p, .slice none 0 0] 97 (0,0))) :
  Calls Tryz.prog 32 #[.pointer (some ⟨b,0,none⟩)] w fun e w'=>e=.returned (.string ⟨#[]⟩)∧Ej g w w':=by
 have O:∀ (W:World) (q:Option Addr),(Builtin.unsafeString_ #[163,3] 9 #[.pointer q, .int .i64 0]).run Tryz.prog W=.ok (.string .empty) W:=fun W q=>Lib.run_unsafeString_none W _ _ _ q
 have U:w.drew.cell? ⟨b,1,none⟩=some (.slice none 0 0):=by
  have:w.drew.heap[b]?=some (.cells #[p, .slice none 0 0] 97 (0,0)):=G;rw [Lib.cell_of_heap this]; rfl
 have J:(Builtin.unsafeSliceData_ #[93] 163 #[.slice none 0 0]).run Tryz.prog w.drew=.ok (.pointer none) w.drew:=rfl;have mixed:Tryz.prog.follows .mixedOrders=true:=by kernel_rfl
 go_enter Tryz.func32,Tryz.ntmps32
 go_wp2
 go_region_o
 all_goals (go_wp2; go_ret; exact ⟨rfl,SK g w⟩)
set_option maxHeartbeats 2000000 in
set_option maxRecDepth 100000 in
theorem QaW (b g cap:Nat) (p:Value) (G:Array Value) (l:List UInt8) (w:World) (h0:l ≠ []) (O:w.heap[b]?=some (.cells #[p, .slice (some ⟨g,0,none⟩) l.length cap] 97 (0,0))) (Z:w.heap[g]?=some (.cells G 5 (0,0))) (ae:l.length≤cap) (Y:cap≤maxLen) (ac:G.size=cap)
  (J:∀ j x,l[j]?=some x→w.cell? ⟨g,j,none⟩=some (.int .u8 x.toNat)) :
  Calls Tryz.prog 32 #[.pointer (some ⟨b,0,none⟩)] w fun e w'=>e=.returned (.string ⟨l.toArray⟩)∧Ej g w w':=by
 have aa:l.length ≠ 0:=by simpa using h0
 have c1:w.drew.cell? ⟨b,1,none⟩=some (.slice (some ⟨g,0,none⟩) l.length cap):=by
  have:w.drew.heap[b]?=some (.cells #[p, .slice (some ⟨g,0,none⟩) l.length cap] 97 (0,0)):=O;rw [Lib.cell_of_heap this]; rfl
 have ab:(Builtin.unsafeSliceData_ #[93] 163 #[.slice (some ⟨g,0,none⟩) l.length cap]).run Tryz.prog w.drew=.ok (.pointer (some ⟨g,0,none⟩)) w.drew :=
  Lib.run_unsafeSliceData_row _ _ _ _ _ _ zo
 have ad:(Builtin.unsafeString_ #[163,3] 9 #[.pointer (some ⟨g,0,none⟩), .int .i64 l.length]).run Tryz.prog w.drew=.ok (.string ⟨l.toArray⟩) (w.drew.freeze ⟨g,0,none⟩ l.length):=by
  refine Lib.run_unsafeString_row w.drew 163 3 9 5 Tryz.underlying163 (by kernel_rfl) g G.size (by have U:w.drew.heap[g]?=some (.cells G 5 (0,0)):=Z; simp [World.shape?,U]) l h0 zo (by unfold maxLen at Y; omega) ?_;intro j x hx;have:=J j x hx;simpa [Addr.add_lit] using this
 have mixed:Tryz.prog.follows .mixedOrders=true:=by kernel_rfl
 go_enter Tryz.func32,Tryz.ntmps32
 go_wp2
 go_region_o
 all_goals (go_wp2; go_ret; exact ⟨rfl,uC (w:=w.drew)⟩)
set_option maxHeartbeats 2000000 in
set_option maxRecDepth 100000 in
theorem ni (b g:Nat) (p:Value) (G:Array Value) (w:World) (J:w.heap[b]?=some (.cells #[p, .slice (some ⟨g,0,none⟩) 0 0] 97 (0,0))) (U:w.heap[g]?=some (.cells G 5 (0,0))) :
  Calls Tryz.prog 32 #[.pointer (some ⟨b,0,none⟩)] w fun e w'=>e=.returned (.string ⟨#[]⟩)∧Ej g w w':=by
 have aa:∀ (W:World) (q:Option Addr),(Builtin.unsafeString_ #[163,3] 9 #[.pointer q, .int .i64 0]).run Tryz.prog W=.ok (.string .empty) W:=fun W q=>Lib.run_unsafeString_none W _ _ _ q
 have hlt:b < w.heap.size:=by
  rcases Nat.lt_or_ge b w.heap.size with h' | h'
  ·exact h'
  ·simp [Array.getElem?_eq_none h'] at J
 have c1:w.drew.cell? ⟨b,1,none⟩=some (.slice (some ⟨g,0,none⟩) 0 0):=by
  have:w.drew.heap[b]?=some (.cells #[p, .slice (some ⟨g,0,none⟩) 0 0] 97 (0,0)):=J;rw [Lib.cell_of_heap this]; rfl
 have Z:(Builtin.unsafeSliceData_ #[93] 163 #[.slice (some ⟨g,0,none⟩) 0 0]).run Tryz.prog w.drew=.ok (.pointer (some ⟨w.drew.heap.size,0,none⟩)) (w.drew.alloc (.view ⟨g,0,none⟩ 5)) :=
  Lib.run_unsafeSliceData_zero w.drew _ _ 5 Tryz.underlying163 ⟨g,0,none⟩ 0 (5,G.size) (by have O:w.drew.heap[g]?=some (.cells G 5 (0,0)):=U; simp [World.shape?,O])
 have Y:(w.drew.alloc (.view ⟨g,0,none⟩ 5)).cell? ⟨b,1,none⟩=some (.slice (some ⟨g,0,none⟩) 0 0):=by
  have:(w.drew.alloc (.view ⟨g,0,none⟩ 5)).heap[b]?=_:=(Lib.alloc_old w.drew _ b hlt).trans J;rw [Lib.cell_of_heap this]; rfl
 have c3:(w.alloc (.view ⟨g,0,none⟩ 5)).drew.cell? ⟨b,1,none⟩=some (.slice (some ⟨g,0,none⟩) 0 0):=Y;have c0:w.cell? ⟨b,1,none⟩=some (.slice (some ⟨g,0,none⟩) 0 0):=c1;have mixed:Tryz.prog.follows .mixedOrders=true:=by kernel_rfl
 go_enter Tryz.func32,Tryz.ntmps32
 go_wp2
 go_region_o
 all_goals (go_wp2; go_ret; exact ⟨rfl,tO _ (.inl rfl)⟩)
set_option maxHeartbeats 2000000 in
set_option maxRecDepth 100000 in
theorem QaX (b g cap:Nat) (p:Value) (w:World) (G:cap ≠ 0) (J:w.heap[b]?=some (.cells #[p, .slice (some ⟨g,0,none⟩) 0 cap] 97 (0,0))) :
  Calls Tryz.prog 32 #[.pointer (some ⟨b,0,none⟩)] w fun e w'=>e=.returned (.string ⟨#[]⟩)∧Ej g w w':=by
 have U:∀ (W:World) (q:Option Addr),(Builtin.unsafeString_ #[163,3] 9 #[.pointer q, .int .i64 0]).run Tryz.prog W=.ok (.string .empty) W:=fun W q=>Lib.run_unsafeString_none W _ _ _ q
 have Y:w.drew.cell? ⟨b,1,none⟩=some (.slice (some ⟨g,0,none⟩) 0 cap):=by
  have:w.drew.heap[b]?=some (.cells #[p, .slice (some ⟨g,0,none⟩) 0 cap] 97 (0,0)):=J;rw [Lib.cell_of_heap this]; rfl
 have O:(Builtin.unsafeSliceData_ #[93] 163 #[.slice (some ⟨g,0,none⟩) 0 cap]).run Tryz.prog w.drew=.ok (.pointer (some ⟨g,0,none⟩)) w.drew :=
  Lib.run_unsafeSliceData_row _ _ _ _ _ _ G
 clear G;have mixed:Tryz.prog.follows .mixedOrders=true:=by kernel_rfl
 go_enter Tryz.func32,Tryz.ntmps32
 go_wp2
 go_region_o
 all_goals (go_wp2; go_ret; exact ⟨rfl,SK g w⟩)
theorem QjD:Qf0 Tryz.prog 32 97 5:=⟨Qc9,fun b g cap p G l w h0 h1 U Y J O Z=>QaW b g cap p G l w h0 h1 U Y J O Z,ni,QaX⟩
theorem Qda (G:Option Addr) (J hc:Nat):Kw Tryz.prog 131 [.ptr 1000 0] (Go.Abs.look [(1000, .box 97 [.sfp 1000, .p (.val (.slice G J hc))])]) fun r h'=>r=.ret (.tup [])∧h'=Go.Abs.look [(1000, .box 97 [.sfp 1000, .p (.val (.slice G J hc))])] :=
 mY tN ng G J hc
theorem UX (G:Option Addr) (J hc:Nat):∀ v:Unit,some ()=some v→Kw Tryz.prog 131 [.ptr 1000 0] (Go.Abs.look [(1000, .box 97 [.sfp 1000, .p (.val (.slice G J hc))])]) (Ya (fun _:Unit=>((.ret (.tup []),[(1000, .box 97 [.sfp 1000, .p (.val (.slice G J hc))])]):Zz × List (Nat × Blk))) v):=fun _ _=>Qda G J hc
theorem uD:∀ w,fI w→∀ (j:Nat) (y:List UInt8),kindsTab[j]?=some y→w.cell? ⟨0,j,none⟩=some (.string (JI y)):=by
 intro w G j y O;obtain ⟨⟨ty,U,h0⟩,_⟩:=G;have J:(kindsTab.map fun k=>Value.string ⟨k.toArray⟩).toArray[j]?=some (.string ⟨y.toArray⟩):=by simp [O]
 simp only [World.cell?,h0];simpa [JI] using J
end Go.Proofs
namespace Go.Abs
open Go
variable {P:Program}
theorem nk {ρ:Go.Shelf.Ren} (L:Go.Proofs.LaysM.n171 P ρ) (O:∀ w,fI w→Lib.TabIs P w "internal/strconv.uint64pow10" .u64 Lib.pow10Tab) {n:Int} (h0:-9223372036854775808≤n) (U:n≤9223372036854775807) :
  QB P (ρ.f 171) [.p (.val (.int .i64 n))] (.ret (.p (.val (.string (JI (Lib.itoa n)))))):=by
 intro φ M0 w Z r J;simp only [Qi] at J;obtain ⟨y,ys,rfl,G,rfl⟩:=J;simp only [Qe,QH] at G;subst G;refine (Go.Proofs.Any.strconv_Itoa L n h0 U w (O w r.gm.w)).mono ?_;rintro e w' ⟨rfl,k,os,rfl⟩;have hs:w.heap.size≤(Sort.grow (w.drewN k) os).heap.size:=by simp [Sort.grow,World.drewN]
 obtain ⟨E,X,R⟩:=Uy (φ:=φ) (h:=GL) (M0:=M0) (w:=w) (w':=Sort.grow (w.drewN k) os) rfl rfl rfl hs
  (fun x Y=>by simp only [Sort.grow,World.drewN]; rw [Array.getElem?_append,if_pos Y]) r (fun c hc=>absurd rfl hc)
 refine ⟨φ,_,GL,⟨rfl,rfl⟩,R,E,_,rfl,?_⟩;simp only [Qe,QH,JI]
end Go.Abs
namespace Go.Proofs
open Go.Shelf
def Tryz.laysM171_ren:Go.Shelf.Ren:=⟨fun | 171=>196 | 243=>221 | 246=>229 | 283=>236 | 284=>237 | 285=>238 | 286=>239 | 129=>241 | 317=>240 | 318=>242 | 319=>243 | 320=>244 | 337=>245 | 338=>246 | n=>n,fun | 3=>3 | 9=>9 | 2=>2 | 4=>4 | 171=>301 | 0=>0 | 53=>302 | 37=>93 | 5=>5 | 173=>305 | 212=>308 | 51=>309 | 20=>20 | 213=>310 | 46=>294 | 232=>313 | 233=>314 | n=>n,fun | 17=>1 | 18=>2 | 19=>3 | n=>n⟩
theorem Tryz.laysM171:Go.Proofs.LaysM.n171 Tryz.prog Tryz.laysM171_ren:={
 mixed:=by kernel_rfl
 f129:=Tryz.func241.trans (congrArg some (by kernel_rfl))
 f171:=Tryz.func196.trans (congrArg some (by kernel_rfl))
 f243:=Tryz.func221.trans (congrArg some (by kernel_rfl))
 f246:=Tryz.func229.trans (congrArg some (by kernel_rfl))
 f283:=Tryz.func236.trans (congrArg some (by kernel_rfl))
 f284:=Tryz.func237.trans (congrArg some (by kernel_rfl))
 f285:=Tryz.func238.trans (congrArg some (by kernel_rfl))
 f286:=Tryz.func239.trans (congrArg some (by kernel_rfl))
 f317:=Tryz.func240.trans (congrArg some (by kernel_rfl))
 f318:=Tryz.func242.trans (congrArg some (by kernel_rfl))
 f319:=Tryz.func243.trans (congrArg some (by kernel_rfl))
 f320:=Tryz.func244.trans (congrArg some (by kernel_rfl))
 f337:=Tryz.func245.trans (congrArg some (by kernel_rfl))
 f338:=Tryz.func246.trans (congrArg some (by kernel_rfl))
 t0:=Tryz.underlying0
 a0:=Tryz.isAgg0
 z0:=Tryz.sizeOf0
 v0:=Tryz.zeroValue0
 t2:=Tryz.underlying2
 a2:=Tryz.isAgg2
 z2:=Tryz.sizeOf2
 v2:=Tryz.zeroValue2
 t3:=Tryz.underlying3
 a3:=Tryz.isAgg3
 z3:=Tryz.sizeOf3
 v3:=Tryz.zeroValue3
 t4:=Tryz.underlying4
 a4:=Tryz.isAgg4
 z4:=Tryz.sizeOf4
 v4:=Tryz.zeroValue4
 t5:=Tryz.underlying5
 a5:=Tryz.isAgg5
 z5:=Tryz.sizeOf5
 v5:=Tryz.zeroValue5
 t9:=Tryz.underlying9
 a9:=Tryz.isAgg9
 z9:=Tryz.sizeOf9
 v9:=Tryz.zeroValue9
 t20:=Tryz.underlying20
 a20:=Tryz.isAgg20
 z20:=Tryz.sizeOf20
 v20:=Tryz.zeroValue20
 t37:=Tryz.underlying93
 a37:=Tryz.isAgg93
 z37:=Tryz.sizeOf93
 v37:=Tryz.zeroValue93
 t46:=Tryz.underlying294
 a46:=Tryz.isAgg294
 z46:=Tryz.sizeOf294
 v46:=Tryz.zeroValue294
 t51:=Tryz.underlying309
 a51:=Tryz.isAgg309
 z51:=Tryz.sizeOf309
 v51:=Tryz.zeroValue309
 t53:=Tryz.underlying302
 a53:=Tryz.isAgg302
 z53:=Tryz.sizeOf302
 v53:=Tryz.zeroValue302
 t171:=Tryz.underlying301
 a171:=Tryz.isAgg301
 z171:=Tryz.sizeOf301
 v171:=Tryz.zeroValue301
 t173:=Tryz.underlying305
 a173:=Tryz.isAgg305
 z173:=Tryz.sizeOf305
 v173:=Tryz.zeroValue305
 t212:=Tryz.underlying308
 a212:=Tryz.isAgg308
 z212:=Tryz.sizeOf308
 v212:=Tryz.zeroValue308
 t213:=Tryz.underlying310
 a213:=Tryz.isAgg310
 z213:=Tryz.sizeOf310
 t232:=Tryz.underlying313
 a232:=Tryz.isAgg313
 z232:=Tryz.sizeOf313
 v232:=Tryz.zeroValue313
 t233:=Tryz.underlying314
 a233:=Tryz.isAgg314
 z233:=Tryz.sizeOf314
 v233:=Tryz.zeroValue314
 g17:=by kernel_rfl
 g18:=by kernel_rfl
 g19:=by kernel_rfl
 i0:=by kernel_rfl
 i2:=by kernel_rfl
 i3:=by kernel_rfl
 i4:=by kernel_rfl
 i5:=by kernel_rfl
 i9:=by kernel_rfl
 i20:=by kernel_rfl
 i37:=by kernel_rfl
 i46:=by kernel_rfl
 i51:=by kernel_rfl
 i53:=by kernel_rfl
 i171:=by kernel_rfl
 i173:=by kernel_rfl
 i212:=by kernel_rfl
 i232:=by kernel_rfl
 i233:=by kernel_rfl
 m17:=by kernel_rfl
 m18:=by kernel_rfl
 m19:=by kernel_rfl }
open Go Go.Abs
theorem Qdb:∀ w,fI w→Lib.TabIs Tryz.prog w "internal/strconv.uint64pow10" .u64 Lib.pow10Tab:=by
 rintro w ⟨_,ty,J,G⟩;unfold Lib.TabIs World.var?;rw [show Tryz.prog.globalNamed "internal/strconv.uint64pow10"=some 1 by kernel_rfl];simp only [QJ,G]
theorem Qf1 {w:World} (h0:∃ ty G,w.heap[0]?=some (.cells (kindsTab.map fun k=>Value.string ⟨k.toArray⟩).toArray ty G)) (h:Lib.TabIs Tryz.prog w "internal/strconv.uint64pow10" .u64 Lib.pow10Tab):fI w:=by
 unfold Lib.TabIs World.var? at h;rw [show Tryz.prog.globalNamed "internal/strconv.uint64pow10"=some 1 by kernel_rfl] at h;simp only [QJ] at h;split at h
 ·rename_i cs ty G hc;simp only [QN] at h;subst h;exact ⟨h0,ty,G,hc⟩
 ·cases h
theorem Qdc {n:Int} (h0:-9223372036854775808≤n) (G:n≤9223372036854775807):QB Tryz.prog 196 [.p (.val (.int .i64 n))] (.ret (.p (.val (.string (JI (Lib.itoa n)))))) :=
 nk Tryz.laysM171 Qdb h0 G
end Go.Proofs
namespace Go.Lib
theorem cells_of_stab {H:Type} {enc:TypeId × Value→H} {P:Program} {w:World} {base:Nat} {sp:Nat→Bool} {held:Bool} {G:Nat} {t e:TypeId} {n:Nat} {cs:List Value} {O:List (List UInt8)} {p:List MemPlace}
  (ht:P.underlying t=some (.array n e)) (he:P.underlying e=some .string) (aa:P.cellsOf e=1) (Y:P.cellsOf t=n)
  (h:DataW.trod enc P w base sp held G t cs=some (.agg (O.map fun z=>.lit (.string z)),p)):cs=O.map fun z=>Value.string ⟨z.toArray⟩:=by
 cases G with
 | zero=>simp [DataW.trod] at h
 | succ G =>
  simp only [DataW.trod,ht,aa,Y,Nat.mul_one] at h;split at h
  ·rename_i hl;obtain ⟨xs,hm,hx⟩:=GK.1 h
   have J:xs.map (·.1)=O.map fun z=>(DataW.lit (.string z):DataW H):=by
    have:=congrArg Prod.fst hx;simpa using this
   have ac:xs.length=n:=by simpa using mapM_length hm
   have ab:O.length=n:=by
    have:=congrArg List.length J;simp at this;omega
   apply List.ext_getElem?;intro i;by_cases hi:i < n
   ·obtain ⟨b,hb,hf⟩:=mapM_at hm i i (by simp [hi]);obtain ⟨z,hc,rfl,_⟩:=DataW.trod_string he hf
    have h1:cs[i]?=some (.string z):=by
     have:=congrArg (·[0]?) hc;simpa [List.getElem?_take,List.getElem?_drop] using this
    have Z:(xs.map (·.1))[i]?=some (DataW.lit (.string z.data.toList):DataW H):=by simp [hb]
    rw [J] at Z;simp only [List.getElem?_map,GK,DataW.lit.injEq,Lit.string.injEq] at Z;obtain ⟨z',U,e1⟩:=Z;subst e1;simp [h1,U]
   ·rw [List.getElem?_eq_none zo,List.getElem?_eq_none (by simp; omega)]
  ·cases h
end Go.Lib
namespace Go.Proofs
open Go Go.Abs
set_option maxRecDepth 100000
abbrev VI (n:Int):PV:=.val (.int .i64 n)
abbrev VU (n:Int):PV:=.val (.int .u64 n)
abbrev V8 (n:Int):PV:=.val (.int .u8 n)
abbrev VB (b:Bool):PV:=.val (.bool b)
abbrev VS (s:List UInt8):PV:=.val (.string (JI s))
abbrev I (n:Int):AV:=.p (.val (.int .i64 n))
abbrev B8 (n:Int):AV:=.p (.val (.int .u8 n))
abbrev B (b:Bool):AV:=.p (.val (.bool b))
abbrev S (s:List UInt8):AV:=.p (.val (.string (JI s)))
def ci (n:Int):List PV:=[VI n]
abbrev zS:AV:=.p (.val (.slice none 0 0))
abbrev mI:List (List PV)→List (List PV):=List.map Zy
abbrev hS (w:Option Addr) (l c:Nat):Go.Abs.AV:=.p (.val (.slice w l c))
abbrev mb:List UInt8→List (List Go.Abs.PV):=List.map Go.Abs.c8b
abbrev Zh:Go.Abs.AV:=.ptr 1000 0
abbrev L8:Go.Abs.AV:=.ptr 1001 0
abbrev Ic:Go.Abs.AV:=.ptr 1002 0
abbrev bO:Go.Abs.AV:=.ptr 1003 0
abbrev qq (n:Nat):Nat × Go.Abs.AV:=(n, .ptr n 0)
def c8 (n:Int):List PV:=[V8 n]
def cb (n:Bool):List PV:=[VB n]
theorem Qd:Tryz.prog.follows .mixedOrders=true:=by kernel_rfl
structure XC where
 At:Int
 Offset:Int
deriving DecidableEq
def XC.cs (x:XC):List PV:=[VI x.At,VI x.Offset]
abbrev Ba:List XC→List (List PV):=List.map XC.cs
structure Kj where
 Offset:Int
 Changes:List XC
 Holidays:List Int
deriving DecidableEq
def Kj.cs (x:Kj):List PV:=[VI x.Offset, .sl 2 (List.map XC.cs x.Changes), .sl 1 (List.map ci x.Holidays)]
structure Ho where
 Minute:Int
 Energy:Int
deriving DecidableEq
def Ho.cs (x:Ho):List PV:=[VI x.Minute,VI x.Energy]
abbrev M5:List Ho→List (List PV):=List.map Ho.cs
structure YG where
 From:Int
 To:Int
 End:Int
 Slices:List Ho
deriving DecidableEq
def YG.cs (x:YG):List PV:=[VI x.From,VI x.To,VI x.End, .sl 2 (List.map Ho.cs x.Slices)]
structure QX where
 Kind:Int
 Text:List UInt8
 N:Int
 At:Int
deriving DecidableEq
def QX.cs (x:QX):List PV:=[VI x.Kind,VS x.Text,VI x.N,VI x.At]
abbrev F5:List QX→List (List PV):=List.map QX.cs
structure ZH where
 Err:Int
 At:Int
deriving DecidableEq
def ZH.cs (x:ZH):List PV:=[VI x.Err,VI x.At]
abbrev Ue:List ZH→List (List PV):=List.map ZH.cs
structure GN where
 Kind:Int
 Name:List UInt8
 N:Int
 At:Int
 Kids:List (List PV)
def GN.cs (x:GN):List PV:=[VI x.Kind,VS x.Name,VI x.N,VI x.At, .sl 5 (List.map Zy x.Kids)]
def GN.of:List PV→Option GN
 | [.val (.int .i64 v0), .val (.string G), .val (.int .i64 v2), .val (.int .i64 v3), .sl J v4]=>if J=5 then some ⟨v0,JO G,v2,v3,v4⟩ else none
 | _=>none
theorem GN.of_cs (r:List PV) (x:GN) (h:GN.of r=some x):GN.cs x=r:=by
 unfold GN.of at h;split at h
 ·split at h
  ·rename_i hs;cases h;simp [GN.cs,vw,Wi,hs]
  ·cases h
 ·cases h
structure ZK where
 tks:List QX
 pos:Int
 length:Int
 dg:List ZH
deriving DecidableEq
def ZK.cs (x:ZK):List PV:=[.sl 4 (List.map QX.cs x.tks),VI x.pos,VI x.length, .sl 2 (List.map ZH.cs x.dg)]
def TM (x:List UInt8):Value:=.string (JI x)
def TN (x:Bool):PV:=VB x
def YZ (x y:List UInt8):Bool:=Qt x y
structure Q3 where
 Kind:Int
 Days:Int
 From:Int
 To:Int
 Price:Int
 Unit:Int
 Free:Int
deriving DecidableEq
def Q3.cs (x:Q3):List PV:=[VI x.Kind,VI x.Days,VI x.From,VI x.To,VI x.Price,VI x.Unit,VI x.Free]
abbrev YX:List Q3→List (List PV):=List.map Q3.cs
structure GD where
 article:Q3
 values:List (List PV)
 good:Bool
def GD.cs (x:GD):List PV:=[VI x.article.Kind,VI x.article.Days,VI x.article.From,VI x.article.To,VI x.article.Price,VI x.article.Unit,VI x.article.Free, .sl 5 (List.map Zy x.values),VB x.good]
structure K5 where
 Name:List UInt8
 Articles:List Q3
deriving DecidableEq
def K5.cs (x:K5):List PV:=[VS x.Name, .sl 7 (List.map Q3.cs x.Articles)]
abbrev XM:List K5→List (List PV):=List.map K5.cs
structure Z7 where
 Article:Int
 Amount:Int
deriving DecidableEq
def Z7.cs (x:Z7):List PV:=[VI x.Article,VI x.Amount]
abbrev Em:List Z7→List (List PV):=List.map Z7.cs
structure Ka where
 Lines:List Z7
 Net:Int
 Tax:Int
 Total:Int
deriving DecidableEq
def Ka.cs (x:Ka):List PV:=[.sl 2 (List.map Z7.cs x.Lines),VI x.Net,VI x.Tax,VI x.Total]
structure Gf where
 article:Q3
 calendar:Kj
 session:YG
deriving DecidableEq
end Go.Proofs
