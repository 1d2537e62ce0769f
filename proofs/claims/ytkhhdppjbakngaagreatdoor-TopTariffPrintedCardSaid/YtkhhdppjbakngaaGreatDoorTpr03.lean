/-
  A part of the proof of a statement of the seat YtkhhdppjbakngaaGreatDoor.
-/
import Derived.Test.YtkhhdppjbakngaaGreatDoorTpr02
set_option linter.unusedVariables false
namespace Go.Abs
open Go
variable {D:DB}{H:List (Nat × Blk)}{M M0:Zr}{N:Nat}{P:Program}{Q:AX→St→Prop}{Q':Exit→Act→World→Prop}{T:Nat→Option AV}{a:Act}{args:List AV}{b:Nat}{body c:Code}{cf:FuncId}{d:Nat}{e:TypeId}{α:Type}{enc:α→List PV}{es:List (List PV)}{f:FuncId}{fn:Func}{g:FuncId}{h h0:QH}{hc hc':List (Nat × Blk)}{i id:Nat}{ix:Operand}{j:Nat}{kt:TypeId}{len:Nat}{listed:Array Bool}{lo:Option Operand}{n:Nat}{nf:Dz}{o:Oper}{ok:Bool}{ops:Array Oper}{p:AV}{pd:Option Code}{ro:Option Nat}{s s' s1:St}{st:LoopState}{t:TypeId}{tk:Nat}{tx ty:TypeId}{u:Xq}{v:Value}{w w' w0:World}{x y:Operand}{z:Value}{β:Type}{ρ φ φ' φ0:Nat→Nat}
section
variable {R V E:Type} {a a1 a2:Option R} {P:Program} {N:Nat} {ro:Option Nat} {ops:Array Oper} {o:Oper} {l:List Oper} {dr:Bool} {acc:List Yn} {s s':St} {Q:R→AX→St→Prop} {K:R→St→Prop} {f:FuncId} {args args':List AV} {dst:Option Tmp}
theorem JY {m:Option (Except E V)} {k:V→Option R} {ke:E→Option R} {X:V→AV} {Y:E→AV} (C:List Conv)  (hc:∀ v,m=some v→QC P f args' (kG X Y v))
    (hx:∀ v,KZ (X v)=true) (Z:∀ e,KZ (Y e)=true)
  (h:∀ v,Yf (k v) P N ops Q false ((none,[]) :: acc) l (St.put (mk ops o s true) o.dst (X v))) (O:∀ e,Zv (ke e) Q (.panic (Y e)) (mk ops o s true))(J:ZC ops o (look s.T)=some true:=by kernel_rfl)(hf:(ZO (look (Zd ops o s.T true)) o.op).map (fun p=>(p.1,qM C p.2))=some (f,args'):=by kernel_rfl)(hb:(Ye P f&&KE N o.dst&&YV args')=true:=by kernel_rfl):Yf (m.bind (Lr k ke)) P N ops Q false acc (o :: l) s:=by
 obtain ⟨⟨f0,args⟩,G,hp⟩:=Fe.1 hf;simp only [Prod.mk.injEq] at hp;obtain ⟨rfl,hp⟩:=hp;simp only [Zf] at hb;exact Kc J G hb.1.1 (QgE C hc hp (by simp [hb]) hx Z (fun v=>kr (h v)) O)
theorem xPa (t:TypeId) (v:AV) (J:ZC ops o (look s.T)=some true) (G:o.op=.panic x) (Y:Zc (look (Zd ops o s.T true)) x=some (.ifc t v)) (h:Zv a Q (.panic (.ifc t v)) (mk ops o s true)):Yf a P N ops Q false acc (o :: l) s:=by
 refine ⟨fun r O=>?_⟩;show K3 P N ops (Q r) (o :: l) s;have Z:yieldOf (look (Zd ops o s.T true)) o.op=none:=by simp [yieldOf,G]
 simp only [K3,J,ZE,Z];show X3 P N o _ _ _;unfold X3;simp only [G,Y];exact h.h r O
def Qdz (P:Program) (fn:Func) (X:R→ZB):R→AX→St→Prop:=fun r=>QaR P fn (·=X r)
def YD:ZB→AV
 | .ret y=>y
 | .panic y=>y
theorem qR {X:V→ZB} {v:V} (C:Conv)   (h:(TY P fn (look s.T) (look s.H)).map (cv C)=some (YD (X v)):=by kernel_rfl)(G:X v=.ret (YD (X v)):=by kernel_rfl)(Z:KZ (YD (X v))=true:=by kernel_rfl):Zv (some v) (Qdz P fn X) .ret s:=by
 refine ⟨fun r Y=>?_⟩;cases Y;obtain ⟨x,J,O⟩:=Fe.1 h;exact ⟨x,YD (X v),J,O ▸ yO C x,Z,G.symm⟩
theorem Qkk {X:V→ZB} {v:V} (C:Conv) (h:(TY P fn (look s.T) (look s.H)).map (cv C)=some (YD (X v))) (G:X v=.ret (YD (X v))) (Z:KZ (YD (X v))=true):Zv (some v) (Qdz P fn X) .normal s:=by
 refine ⟨fun r Y=>?_⟩;cases Y;obtain ⟨x,J,O⟩:=Fe.1 h;exact ⟨x,YD (X v),J,O ▸ yO C x,Z,G.symm⟩
theorem qU {X:V→ZB} {v:V}  (G:X v=.panic p:=by kernel_rfl)(O:KZ p=true:=by kernel_rfl):Zv (some v) (Qdz P fn X) (.panic p) s:=by
 refine ⟨fun r J=>?_⟩;cases J;exact ⟨O,G.symm⟩
theorem Qj {X:R→ZB} (hf:P.funcs[f]?=some fn) (hb:fn.body=some c) (J:fn.ntmps=n) (O:Nat.ble args.length n=true) (h:QP a P n none c ⟨YW 0 args,[]⟩ (Qdz P fn X)) (r:R) (G:a=some r):QC P f args (X r):=by
 subst J;exact uw hf hb (Nat.le_of_ble_eq_true O) (h.h r G)
end
def QU {α:Type} (l:List α) (i:Int):Option α:=if i < 0 then none else l[i.toNat]?
section
variable {P:Program} {o:Oper} {T:Nat→Option AV} {h:QH}
theorem wP {k:IntKind} {a b:Int} (O:o.op=.binOp .quo tx x y ty) (G:Zc T x=some (.p (.val (.int k a)))) (J:Zc T y=some (.p (.val (.int k b)))) (hc:(!Qp b 0)=true) :
  Jk P o T h=some (.p (.val (.int k (k.wrap (a.tdiv b)))),none,[]):=by
 have hb:¬ b=0:=by simpa [Qp] using hc
 simp [Jk,O,SN,G,J,GR,NI,hb,TF]
theorem QdA {k:IntKind} {a b:Int} (O:o.op=.binOp .rem tx x y ty) (G:Zc T x=some (.p (.val (.int k a)))) (J:Zc T y=some (.p (.val (.int k b)))) (hc:(!Qp b 0)=true) :
  Jk P o T h=some (.p (.val (.int k (a.tmod b))),none,[]):=by
 have hb:¬ b=0:=by simpa [Qp] using hc
 simp [Jk,O,SN,G,J,GR,NI,hb,TF]
theorem QdB {k k':IntKind} {a b:Int} (G:o.op=.binOp .shl tx x y ty) (J:Zc T x=some (.p (.val (.int k a)))) (O:Zc T y=some (.p (.val (.int k' b)))) (hc:(!Qs b 0)=true) :
  Jk P o T h=some (.p (.val (.int k (wm k a b))),none,[]):=by
 have hb:¬ b < 0:=by simpa [Qs] using hc
 simp [Jk,G,SN,J,O,GR,P7,hb,TF]
abbrev wi (x:Int):Int:=IntKind.i64.wrap x
abbrev wu (x:Int):Int:=IntKind.u64.wrap x
abbrev w8 (x:Int):Int:=IntKind.u8.wrap x
abbrev Qb {α:Type} (l:List α):Int:=(l.length:Int)
abbrev Zy (x:UInt8):Int:=(x.toNat:Int)
def Jq (a b:Int):Int:=if b > a then b else a
def Ls (a b:Int):Int:=if b < a then b else a
theorem ZA {S:Nat} {l:List α} {k:IntKind} {n:Int} {sv:AV} (ho:o.op=.indexAddr t x ix) (hn:Zc T ix=some (.p (.val (.int k n)))) (hx:Zc T x=some sv) (hs:elems sv=some (S,List.map enc l))
  (ht:P.underlying t=some (.slice e)) (hi:(P.info? e).map (·.size)=some S) (v:α) (G:QU l n=some v):Jk P o T h=some (.eptr (enc v),none,[]):=by
 unfold QU at G;split at G
 ·cases G
 ·rename_i Z;obtain ⟨i,Y,O⟩:=Fe.1 hi
  have J:dA (some sv)=false:=by
   cases sv with
   | p x=>rfl
   | tsl S es t=>rfl
   | _=>cases hs
  have h0:0≤n:=by omega
  simp [Jk,ho,TF,hx,J,Xt,hn,ht,hs,Y,O,h0,G]
def Zq (x:List PV):List PV:=x
theorem Wt (l:List (List PV)):List.map Zq l=l:=List.map_id l
theorem Yg {S:Nat} {dec:List PV→Option α} {l:List (List PV)} {k:IntKind} {n:Int} {sv:AV} (hd:∀ r v,dec r=some v→enc v=r) (Y:o.op=.indexAddr t x ix) (J:Zc T ix=some (.p (.val (.int k n)))) (Z:Zc T x=some sv) (hs:elems sv=some (S,List.map Zq l))
  (O:P.underlying t=some (.slice e)) (hi:(P.info? e).map (·.size)=some S) (v:α) (hv:(QU l n).bind dec=some v):Jk P o T h=some (.eptr (enc v),none,[]):=by
 obtain ⟨r,G,h2⟩:=Option.bind_eq_some_iff.1 hv;rw [hd r v h2];exact ZA Y J Z hs O hi r G
theorem J9 {l:List UInt8} {k:IntKind} {n:Int} (Y:o.op=.index t x ix) (Z:Zc T ix=some (.p (.val (.int k n)))) (hx:Zc T x=some (.p (.val (.string (JW l)))))
  (O:P.underlying t=some .string) (v:UInt8) (G:QU l n=some v):Jk P o T h=some (.p (.val (.int .u8 v.toNat)),none,[]):=by
 unfold QU at G;split at G
 ·cases G
 ·rename_i J;have h0:0≤n:=by omega
  simp [Jk,Y,TF,SI,Mo,hx,Z,O,h0,TN,G]
def lG (P:Program):Nat→TypeId→Value→Value→Option Bool
 | 0,_,_,_=>none
 | d+1,t,x,y =>
  match P.underlying t with
  | some .bool=>match x,y with | .bool a, .bool b=>some (a == b) | _,_=>none
  | some (.int _)=>match x,y with | .int k a, .int k' b=>if k=k' then some (Qp a b) else none | _,_=>none
  | some .string=>match x,y with | .string a, .string b=>some (Qr (J4 a) (J4 b)) | _,_=>none
  | some (.struct fields)=>match x,y with
   | .agg xs, .agg ys=>if P.stoodInHeld t then none else fields.toList.foldr (fun f r=>if f.name="_" then r else
     match CW P f.type xs.toList f.offset,CW P f.type ys.toList f.offset with
     | some a,some b=>match lG P d f.type a b,r with | some p,some q=>some (p&&q) | _,_=>none
     | _,_=>none) (some true)
   | _,_=>none
  | _=>none
theorem dU (P:Program):∀ (d:Nat) (t:TypeId) (x y:Value),lG P d t x y=eqV P d t x y
  | 0,t,x,y=>by simp [lG,eqV]
  | d+1,t,x,y=>by
    have hf:∀ (xs ys:List Value) (G:List Field),G.foldr (fun f r=>if f.name="_" then r else
          match CW P f.type xs f.offset,CW P f.type ys f.offset with
          | some a,some b=>match lG P d f.type a b,r with | some p,some q=>some (p&&q) | _,_=>none
          | _,_=>none) (some true)=eqV.eqFs P d xs ys G:=by
      intro xs ys G
      induction G with
      | nil=>simp [eqV.eqFs]
      | cons f G ih =>
        simp only [List.foldr_cons,eqV.eqFs,ih];split
        · rfl
        · split
          · rename_i a b J O; simp only [J,O,dU P d f.type a b]; cases eqV P d f.type a b <;> cases eqV.eqFs P d xs ys G <;> rfl
          · rename_i J
            split
            · rename_i O Z; exact absurd Z (by intro Y; exact J _ _ O Y)
            · rfl
    unfold lG eqV;cases hu:P.underlying t with
    | none=>rfl
    | some td =>
      cases td with
      | bool=>cases x <;> cases y <;> rfl
      | int k=>cases x <;> cases y <;> rfl
      | string=>cases x <;> cases y <;> rfl
      | struct fields =>
        cases x <;> cases y <;> try rfl
        rename_i xs ys;simp only;split
        · rfl
        · exact hf _ _ _
      | _=>rfl
theorem QdC {xs ys:List AV} {vx vy:List Value} {b:Bool} (O:o.op=.binOp .neq tx x y ty) (Z:Zc T x=some (.agg xs)) (hy:Zc T y=some (.agg ys)) (Y:P.eqGuardType P.depth tx=false)
  (G:NG xs=some vx) (J:NG ys=some vy) (hb:lG P 4 tx (.agg vx.toArray) (.agg vy.toArray)=some b):Jk P o T h=some (.p (.val (.bool (!opq b))),none,[]):=by
 rw [dU] at hb;simp [Jk,O,SN,Z,hy,TF,aEq,nG,Y,G,J,hb]
end
def Yh {V:Type} (X:V→ZB × List (Nat × Blk)) (v:V):ZB→QH→Prop:=fun r h'=>r=(X v).1∧h'=look (X v).2
theorem Ew {V:Type} {X:V→ZB × List (Nat × Blk)} {v:V} (h:KD P f args (look []) (Yh X v)) (J:(X v).2=[]):QC P f args (X v).1:=by
 have e:look ([]:List (Nat × Blk))=Ff:=by funext t; rfl
 have G:Yh X v=fun r h'=>r=(X v).1∧h'=Ff:=by unfold Yh; rw [J,e]
 unfold QC;rw [e,G] at h;exact h
def hQ {V:Type} (P:Program) (fn:Func) (hc:List (Nat × Blk)) (X:V→ZB × List (Nat × Blk)):V→AX→St→Prop:=fun v=>dM P fn hc (Yh X v)
section
variable {R V E:Type} {a a1 a2:Option R} {P:Program} {N:Nat} {ro:Option Nat} {ops:Array Oper} {o:Oper} {l:List Oper} {dr:Bool} {acc:List Yn} {s s':St} {Q:R→AX→St→Prop} {K:R→St→Prop} {f:FuncId} {args args':List AV} {dst:Option Tmp}
theorem Kq {X:R→ZB × List (Nat × Blk)} (hc:List (Nat × Blk)) (hf:P.funcs[f]?=some fn) (hb:fn.body=some c) (J:fn.ntmps=n) (O:Nat.ble args.length n=true) (h:QP a P n none c ⟨YW 0 args,hc⟩ (hQ P fn hc X)) (r:R) (G:a=some r) :
  KD P f args (look hc) (Yh X r):=by
 subst J;exact Ie hf hb (Nat.le_of_ble_eq_true O) (h.h r G)
def Bj (hc hc':List (Nat × Blk)) (y:AV):Bool:=ZX (look hc') y&&aQ (look hc') hc'&&K4 (look hc') hc
theorem nO {X:V→ZB × List (Nat × Blk)} {v:V} (C:Conv) (bs:List Nat) (cb:List (Nat × List Conv)) (h:(TY P fn (look s.T) (look s.H)).map (cv C)=some (YD (X v).1)) (J:(X v).1=.ret (YD (X v).1))
  (Z:K5 cb s.H bs=(X v).2) (hok:Bj hc (X v).2 (YD (X v).1)=true):Bf P fn hc (Yh X v) s:=by
 obtain ⟨x,O,Y⟩:=Fe.1 h;simp only [Bj,Zf] at hok;refine ⟨x,YD (X v).1,(X v).2,O,Y ▸ yO C x,hok.1.1,?_,hok.2,J.symm,rfl⟩;have G:=hok.1.2;rw [← Z] at G ⊢;exact Y7 G
theorem Kw {X:V→ZB × List (Nat × Blk)} {v:V} (C:Conv) (bs:List Nat) (cb:List (Nat × List Conv))  
   (h:(TY P fn (look s.T) (look s.H)).map (cv C)=some (YD (X v).1):=by kernel_rfl)(G:(X v).1=.ret (YD (X v).1):=by kernel_rfl)(O:K5 cb s.H bs=(X v).2:=by kernel_rfl)(hok:Bj hc (X v).2 (YD (X v).1)=true:=by kernel_rfl):Zv (some v) (hQ P fn hc X) .ret s:=⟨fun r J=>by cases J; exact nO C bs cb h G O hok⟩
theorem lH {X:V→ZB × List (Nat × Blk)} {v:V} (C:Conv) (bs:List Nat) (cb:List (Nat × List Conv))  
   (h:(TY P fn (look s.T) (look s.H)).map (cv C)=some (YD (X v).1):=by kernel_rfl)(G:(X v).1=.ret (YD (X v).1):=by kernel_rfl)(O:K5 cb s.H bs=(X v).2:=by kernel_rfl)(hok:Bj hc (X v).2 (YD (X v).1)=true:=by kernel_rfl):Zv (some v) (hQ P fn hc X) .normal s:=⟨fun r J=>by cases J; exact nO C bs cb h G O hok⟩
theorem lI {X:V→ZB × List (Nat × Blk)} {v:V} (bs:List Nat) (cb:List (Nat × List Conv)) 
   (J:(X v).1=.panic p:=by kernel_rfl)(Y:K5 cb s.H bs=(X v).2:=by kernel_rfl)(hok:Bj hc (X v).2 p=true:=by kernel_rfl):Zv (some v) (hQ P fn hc X) (.panic p) s:=by
 refine ⟨fun r O=>?_⟩;cases O;simp only [Bj,Zf] at hok;refine ⟨p,(X v).2,le_refl p,hok.1.1,?_,hok.2,J.symm,rfl⟩;have G:=hok.1.2;rw [← Y] at G ⊢;exact Y7 G
def VO (L:List (Nat × Nat)) (c:Nat):Nat:=(look L c).getD c
def Qa4 (ρ:Nat→Nat):List Nat→Bool
 | []=>true
 | c :: l=>l.all (fun d=>ρ c != ρ d||c == d)&&Qa4 ρ l
theorem UJ {ρ:Nat→Nat}:∀ {l:List Nat},Qa4 ρ l=true→∀ c ∈ l,∀ d ∈ l,ρ c=ρ d→c=d
 | [],_,c,hc,_,_,_=>by cases hc
 | x :: l,h,c,hc,d,O,J=>by
  simp only [Qa4,Zf,List.all_eq_true] at h;rcases List.mem_cons.1 hc with rfl | hc' <;> rcases List.mem_cons.1 O with rfl | G
  ·rfl
  ·have:=h.1 d G; simp [J] at this; exact this
  ·have:=h.1 c hc'; simp [J] at this; exact this.symm
  ·exact UJ h.2 c hc' d G J
def Xl (ρ:Nat→Nat) (hc hc' H:List (Nat × Blk)):Bool :=
 (hc.map (·.1)).all (fun c=>(hc'.map (·.1)).contains c)&&(hc'.map (·.1)).all (fun c=>(hc.map (·.1)).contains c||(look H (ρ c)).isNone)&&Qa4 ρ (hc'.map (·.1))
theorem X6 (h:Xl ρ hc hc' H=true):FQ ρ hc hc' H:=by
 simp only [Xl,Zf] at h;refine ⟨fun c hc=>?_,fun c hc=>?_,UJ h.2⟩
 ·have:=List.all_eq_true.1 h.1.1 c hc; simpa using this
 ·have:=List.all_eq_true.1 h.1.2 c hc;simp only [Bool.or_eq_true,Option.isNone_iff_eq_none] at this;rcases this with G | G
  ·exact .inl (by simpa using G)
  ·exact .inr G
theorem RS {h:QH}:∀ {l:List (Nat × Blk)},aQ h l=true→∀ c k,look l c=some k→okRefB h k=true
 | [],_,c,k,G=>by simp [look] at G
 | (b,x) :: l,J,c,k,G=>by
  simp only [aQ,Zf] at J;simp only [look] at G;by_cases e:b=c
  ·simp only [e,if_true,QO] at G; subst G; exact J.1
  ·simp only [e,if_false] at G; exact RS J.2 c k G
def RU (H:List (Nat × Blk)) (ρ:Nat→Nat) (cb:List (Nat × List Conv)) (hc:List (Nat × Blk)):List (Option Blk):=hc.map fun p=>(look H (ρ p.1)).map (cvB ((look cb p.1).getD []))
theorem UK {H:List (Nat × Blk)} {ρ:Nat→Nat} {cb:List (Nat × List Conv)}:∀ {hc:List (Nat × Blk)},RU H ρ cb hc=hc.map (fun p=>some (ZM ρ p.2))→∀ c k,look hc c=some k→∃ J,look H (ρ c)=some J∧leB J (ZM ρ k)
 | [],_,c,k,G=>by simp [look] at G
 | (b,x) :: l,O,c,k,G=>by
  simp only [RU,List.map_cons,List.cons.injEq] at O;simp only [look] at G;by_cases e:b=c
  ·simp only [e,if_true,QO] at G;subst G e;obtain ⟨J,Z,Y⟩:=Fe.1 O.1;exact ⟨J,Z,Y ▸ Qa0 _ _⟩
  ·simp only [e,if_false] at G; exact UK (hc:=l) O.2 c k G
def JZ (N:Nat) (dst:Option Tmp) (ρ:Nat→Nat) (hc:List (Nat × Blk)) (args':List AV):Bool :=
 KE N dst&&Z6 (look hc) args'&&(hc.map (·.1)).all (fun c=>decide (1000≤c))&&aQ (look hc) hc&&Qa4 ρ (hc.map (·.1))
def Qa5 (K:St→Prop) (Q:AX→St→Prop) (s:St) (dst:Option Tmp) (ρ:Nat→Nat) (hc':List (Nat × Blk)):ZB→Prop
 | .ret x=>K (St.put ⟨s.T,Z9 ρ hc' s.H⟩ dst (WT ρ x))
 | .panic x=>Q (.panic (WT ρ x)) ⟨s.T,Z9 ρ hc' s.H⟩
theorem Ad {P:Program} {N:Nat} {s:St} {K:St→Prop} {Q:AX→St→Prop} {x:ZB} (L:List (Nat × Nat)) (C:List Conv) (cb:List (Nat × List Conv))
  (J:KD P f args' (look hc) (fun r h'=>r=x∧h'=look hc')) (G:qM C args=VC (VO L) args') (hok:JZ N dst (VO L) hc args'=true) (O:RU s.H (VO L) cb hc=hc.map (fun p=>some (ZM (VO L) p.2)))
  (Y:Xl (VO L) hc hc' s.H=true) (Z:Qa5 K Q s dst (VO L) hc' x):Xy P N f args dst s K Q:=by
 simp only [JZ,Zf] at hok;obtain ⟨⟨⟨⟨h1,h2⟩,h3⟩,h4⟩,h5⟩:=hok;refine NQ (VO L) J (G ▸ U1 C args) h2 (fun c hc=>by simpa using List.all_eq_true.1 h3 c hc) (RS h4) (UK O) (UJ h5) (ZL h1) ?_;rintro r h' ⟨rfl,rfl⟩;refine ⟨hc',Z9 (VO L) hc' s.H,rfl,X6 Y,fun _=>rfl,?_⟩;cases r with
 | ret x=>exact Z
 | panic x=>exact Z
theorem Zg {m:Option V} {k:V→Option R} {X:V→ZB × List (Nat × Blk)} (L:List (Nat × Nat)) (C:List Conv) (cb:List (Nat × List Conv)) (J:∀ v,m=some v→KD P f args' (look hc) (Yh X v))
  (G:qM C args=VC (VO L) args') (hok:JZ N dst (VO L) hc args'=true) (O:RU s.H (VO L) cb hc=hc.map (fun p=>some (ZM (VO L) p.2))) (Y:∀ v,Xl (VO L) hc (X v).2 s.H=true) (Z:∀ v,(X v).1=.ret (YD (X v).1))
  (h:∀ v,DW (k v) K (St.put ⟨s.T,Z9 (VO L) (X v).2 s.H⟩ dst (WT (VO L) (YD (X v).1)))):NS (m.bind k) P N f args dst s K Q:=by
 refine ⟨fun r hr=>?_⟩;obtain ⟨v,hv,hk⟩:=Option.bind_eq_some_iff.1 hr;have h1:=Z v;refine Ad L C cb (J v hv) G hok O (Y v) ?_;rw [h1];exact (h v).h r hk
theorem uK {m:Option (Except E V)} {k:V→Option R} {ke:E→Option R} {X:Except E V→ZB × List (Nat × Blk)} (L:List (Nat × Nat)) (C:List Conv) (cb:List (Nat × List Conv)) (J:∀ v,m=some v→KD P f args' (look hc) (Yh X v))
  (G:qM C args=VC (VO L) args') (hok:JZ N dst (VO L) hc args'=true) (O:RU s.H (VO L) cb hc=hc.map (fun p=>some (ZM (VO L) p.2))) (Z:∀ v,Xl (VO L) hc (X (.ok v)).2 s.H=true) (Y:∀ v,Xl (VO L) hc (X (.error v)).2 s.H=true)
  (hX:∀ v,(X (.ok v)).1=.ret (YD (X (.ok v)).1)) (hY:∀ v,(X (.error v)).1=.panic (YD (X (.error v)).1))
  (h:∀ v,DW (k v) K (St.put ⟨s.T,Z9 (VO L) (X (.ok v)).2 s.H⟩ dst (WT (VO L) (YD (X (.ok v)).1)))) (he:∀ e,Zv (ke e) Q (.panic (WT (VO L) (YD (X (.error e)).1))) ⟨s.T,Z9 (VO L) (X (.error e)).2 s.H⟩):NS (m.bind (Lr k ke)) P N f args dst s K Q:=by
 refine ⟨fun r hr=>?_⟩;obtain ⟨v,hv,hk⟩:=Option.bind_eq_some_iff.1 hr;cases v with
 | ok v =>
  refine Ad L C cb (J _ hv) G hok O (Z v) ?_;rw [hX v];exact (h v).h r hk
 | error e =>
  refine Ad L C cb (J _ hv) G hok O (Y e) ?_;rw [hY e];exact (he e).h r hk
theorem U2 {m:Option V} {k:V→Option R} {X:V→ZB × List (Nat × Blk)} (L:List (Nat × Nat)) (C:List Conv) (cb:List (Nat × List Conv))  (J:∀ v,m=some v→KD P f args' (look hc) (Yh X v))
    
  (Y:∀ v,Xl (VO L) hc (X v).2 s.H=true) (Z:∀ v,(X v).1=.ret (YD (X v).1))
  (h:∀ v,Yf (k v) P N ops Q false ((none,[]) :: acc) l (St.put ⟨(mk ops o s true).T,Z9 (VO L) (X v).2 s.H⟩ o.dst (WT (VO L) (YD (X v).1))))(hw:ZC ops o (look s.T)=some true:=by kernel_rfl)(hf:(ZO (look (Zd ops o s.T true)) o.op).map (fun p=>(p.1,qM C p.2))=some (f,VC (VO L) args'):=by kernel_rfl)(hok:(Ye P f&&JZ N o.dst (VO L) hc args')=true:=by kernel_rfl)(O:RU s.H (VO L) cb hc=hc.map (fun p=>some (ZM (VO L) p.2)):=by kernel_rfl):Yf (m.bind k) P N ops Q false acc (o :: l) s:=by
 obtain ⟨⟨f0,args⟩,G,hp⟩:=Fe.1 hf;simp only [Prod.mk.injEq] at hp;obtain ⟨rfl,hp⟩:=hp;simp only [Zf] at hok;exact Kc hw G hok.1 (Zg L C cb J hp hok.2 O Y Z (fun v=>kr (h v)))
theorem Qa6 {m:Option (Except E V)} {k:V→Option R} {ke:E→Option R} {X:Except E V→ZB × List (Nat × Blk)} (L:List (Nat × Nat)) (C:List Conv) (cb:List (Nat × List Conv)) (hw:ZC ops o (look s.T)=some true) (J:∀ v,m=some v→KD P f args' (look hc) (Yh X v))
  (hf:(ZO (look (Zd ops o s.T true)) o.op).map (fun p=>(p.1,qM C p.2))=some (f,VC (VO L) args')) (hok:(Ye P f&&JZ N o.dst (VO L) hc args')=true) (O:RU s.H (VO L) cb hc=hc.map (fun p=>some (ZM (VO L) p.2)))
  (Z:∀ v,Xl (VO L) hc (X (.ok v)).2 s.H=true) (Y:∀ v,Xl (VO L) hc (X (.error v)).2 s.H=true) (hX:∀ v,(X (.ok v)).1=.ret (YD (X (.ok v)).1)) (hY:∀ v,(X (.error v)).1=.panic (YD (X (.error v)).1))
  (h:∀ v,Yf (k v) P N ops Q false ((none,[]) :: acc) l (St.put ⟨(mk ops o s true).T,Z9 (VO L) (X (.ok v)).2 s.H⟩ o.dst (WT (VO L) (YD (X (.ok v)).1))))
  (he:∀ e,Zv (ke e) Q (.panic (WT (VO L) (YD (X (.error e)).1))) ⟨(mk ops o s true).T,Z9 (VO L) (X (.error e)).2 s.H⟩):Yf (m.bind (Lr k ke)) P N ops Q false acc (o :: l) s:=by
 obtain ⟨⟨f0,args⟩,G,hp⟩:=Fe.1 hf;simp only [Prod.mk.injEq] at hp;obtain ⟨rfl,hp⟩:=hp;simp only [Zf] at hok;exact Kc hw G hok.1 (uK L C cb J hp hok.2 O Z Y hX hY (fun v=>kr (h v)) he)
def lJ:List AV→Option (List PV)
 | []=>some []
 | .p x :: l=>(lJ l).map (x :: ·)
 | _=>none
theorem yP:∀ {l:List AV} {ps:List PV},lJ l=some ps→l=ps.map .p
 | [],ps,h=>by simp [lJ] at h; subst h; rfl
 | x :: l,ps,h=>by
  cases x with
  | p x =>
   simp only [lJ] at h;obtain ⟨J,G,rfl⟩:=Fe.1 h;simp [yP G]
  | _=>simp [lJ] at h
def roV (H:QH) (cs:List Conv):AV→Option AV
 | .ptr b off=>match H b with
  | some (.box _ l)=>match lJ (qM cs l) with
   | some ps=>if UB (ps.map .p) then some (.eptr (ps.drop off)) else none
   | none=>none
  | _=>none
 | _=>none
inductive RoC where
 | cv (c:Conv)
 | ro (cs:List Conv)
def roA (H:QH):RoC→AV→Option AV
 | .cv c,x=>some (cv c x)
 | .ro cs,x=>roV H cs x
def wQ (H:QH):List RoC→List AV→Option (List AV)
 | [],[]=>some []
 | c :: cs,x :: xs=>match roA H c x,wQ H cs xs with | some y,some ys=>some (y :: ys) | _,_=>none
 | _,_=>none
theorem Qa7 {H:QH} {c:RoC} {x y:AV} (h:roA H c x=some y):leR H x y:=by
 cases c with
 | cv c=>simp only [roA,QO] at h; subst h; exact .inl (yO c x)
 | ro cs =>
  simp only [roA,roV] at h;split at h
  ·rename_i b off;split at h
   ·rename_i ty l hb;split at h
    ·rename_i ps G;split at h
     ·rename_i J;simp only [QO] at h;subst h;exact Qdv hb (yP G ▸ U1 cs l) J rfl
     ·cases h
    ·cases h
   ·cases h
  ·cases h
theorem MO {H:QH}:∀ {cs:List RoC} {xs ys:List AV},wQ H cs xs=some ys→nN H xs ys
 | [],[],ys,h=>by simp [wQ] at h; subst h; simp [nN]
 | [],_ :: _,ys,h=>by simp [wQ] at h
 | _ :: _,[],ys,h=>by simp [wQ] at h
 | c :: cs,x :: xs,ys,h=>by
  simp only [wQ] at h;split at h
  ·rename_i y G J O;simp only [QO] at h;subst h;exact ⟨y,G,rfl,Qa7 J,MO O⟩
  ·cases h
theorem XK {m:Option V} {k:V→Option R} {X:V→AV} (C:List RoC)  (hc:∀ v,m=some v→QC P f args' (.ret (X v)))
    (hx:∀ v,flat (X v)=true)
  (h:∀ v,Yf (k v) P N ops Q false ((none,[]) :: acc) l (St.put (mk ops o s true) o.dst (X v)))(hw:ZC ops o (look s.T)=some true:=by kernel_rfl)(hf:(ZO (look (Zd ops o s.T true)) o.op).bind (fun p=>(wQ (look s.H) C p.2).map fun a=>(p.1,a))=some (f,args'):=by kernel_rfl)(hb:(Ye P f&&KE N o.dst&&YV args')=true:=by kernel_rfl):Yf (m.bind k) P N ops Q false acc (o :: l) s:=by
 refine ⟨fun r hr=>?_⟩;obtain ⟨v,hv,Y⟩:=Option.bind_eq_some_iff.1 hr;obtain ⟨⟨f0,args⟩,G,hp⟩:=Option.bind_eq_some_iff.1 hf;obtain ⟨Z,O,J⟩:=Fe.1 hp;simp only [Prod.mk.injEq] at J;obtain ⟨rfl,rfl⟩:=J;simp only [Zf] at hb;show K3 P N ops (Q r) (o :: l) s;simp only [K3,hw,ZE,Jp G];exact XJ G hb.1.1 (wL (hc v hv) (MO O) hb.2 (ZL hb.1.2) ⟨hx v,(h v).h r Y⟩)
theorem Bl {m:Option (Except E V)} {k:V→Option R} {ke:E→Option R} {X:V→AV} {Y:E→AV} (C:List RoC)  (hc:∀ v,m=some v→QC P f args' (kG X Y v))
    (hx:∀ v,flat (X v)=true) (hy:∀ v,flat (Y v)=true)
  (h:∀ v,Yf (k v) P N ops Q false ((none,[]) :: acc) l (St.put (mk ops o s true) o.dst (X v))) (he:∀ e,Zv (ke e) Q (.panic (Y e)) (mk ops o s true))(hw:ZC ops o (look s.T)=some true:=by kernel_rfl)(hf:(ZO (look (Zd ops o s.T true)) o.op).bind (fun p=>(wQ (look s.H) C p.2).map fun a=>(p.1,a))=some (f,args'):=by kernel_rfl)(hb:(Ye P f&&KE N o.dst&&YV args')=true:=by kernel_rfl):Yf (m.bind (Lr k ke)) P N ops Q false acc (o :: l) s:=by
 refine ⟨fun r hr=>?_⟩;obtain ⟨v,hv,Z⟩:=Option.bind_eq_some_iff.1 hr;obtain ⟨⟨f0,args⟩,G,hp⟩:=Option.bind_eq_some_iff.1 hf;obtain ⟨aa,O,J⟩:=Fe.1 hp;simp only [Prod.mk.injEq] at J;obtain ⟨rfl,rfl⟩:=J;simp only [Zf] at hb;show K3 P N ops (Q r) (o :: l) s;simp only [K3,hw,ZE,Jp G];refine XJ G hb.1.1 (wL (hc v hv) (MO O) hb.2 (ZL hb.1.2) ?_);cases v with
 | ok v=>exact ⟨hx v,(h v).h r Z⟩
 | error e=>exact ⟨hy e,(he e).h r Z⟩
end
def QK (n bytes:Nat):Bool:=decide (n * bytes≤140737488355328∧n≤140737488355328)
section
variable {P:Program} {o:Oper} {T:Nat→Option AV} {h:QH}
theorem Y1 {s:Operand} {S by_:Nat} {l l2:List α} {xv:AV} (ho:o.op=.call ⟨.builtin .append,#[s,x],#[t,t]⟩) (ht:P.underlying t=some (.slice e))
  (hi:(P.info? e).bind (fun i=>i.zero.map fun z=>(i.size,i.bytes,z.cells.size))=some (S,by_,S)) (hS:Nat.ble 1 S=true) (hs:Zc T s=some (.tsl S (List.map enc l) tk)) (hx:Zc T x=some xv) (he:NJ S xv=some (List.map enc l2)) (hn:l2.isEmpty=false)
  (hb:h tk=some (.arr e S (List.map enc l).length)) (hc:QK (l++l2).length by_=true):Jk P o T h=some (.tsl S (List.map enc (l++l2)) tk,some (tk, .arr e S (List.map enc (l++l2)).length),[tk]):=by
 obtain ⟨i,aa,Z⟩:=Option.bind_eq_some_iff.1 hi;obtain ⟨z,J,G⟩:=Fe.1 Z;simp only [Prod.mk.injEq] at G;obtain ⟨rfl,rfl,hz⟩:=G;have Y:¬ l2=[]:=by intro e; subst e; cases hn
 have O:0 < i.size:=Nat.le_of_ble_eq_true hS;simp only [QK,decide_eq_true_eq,Y0] at hc;simp [Jk,ho,dA,hs,hx,LC,ht,aa,J,he,hz,O,isNil,hb,Y,hc]
theorem Jr {s:Operand} {S by_:Nat} {l l2:List α} {xv:AV} (ho:o.op=.call ⟨.builtin .append,#[s,x],#[t,t]⟩) (ht:P.underlying t=some (.slice e))
  (hi:(P.info? e).bind (fun i=>i.zero.map fun z=>(i.size,i.bytes,z.cells.size))=some (S,by_,S)) (hS:Nat.ble 1 S=true) (hs:Zc T s=some (.tsl S (List.map enc l) tk)) (hx:Zc T x=some xv) (he:NJ S xv=some (List.map enc l2))
  (hb:h tk=some (.arr e S (List.map enc l).length)) (hc:QK (l++l2).length by_=true):Jk P o T h=some (.tsl S (List.map enc (l++l2)) tk,some (tk, .arr e S (List.map enc (l++l2)).length),[tk]):=by
 obtain ⟨i,Y,aa⟩:=Option.bind_eq_some_iff.1 hi;obtain ⟨z,G,Z⟩:=Fe.1 aa;simp only [Prod.mk.injEq] at Z;obtain ⟨rfl,rfl,hz⟩:=Z;have J:0 < i.size:=Nat.le_of_ble_eq_true hS;simp only [QK,decide_eq_true_eq,Y0] at hc;by_cases O:l2=[]
 ·subst O;simp [Jk,ho,dA,hs,hx,LC,ht,Y,G,he,hz,J,isNil,hb]
 simp [Jk,ho,dA,hs,hx,LC,ht,Y,G,he,hz,J,isNil,hb,O,hc]
end
inductive OL (α:Type) where
 | nil
 | own (l:List α)
def OL.toL {α:Type}:OL α→List α
 | .nil=>[]
 | .own l=>l
@[simp] theorem OL.toL_nil {α:Type}:(OL.nil:OL α).toL=[]:=rfl
@[simp] theorem OL.toL_own {α:Type} (l:List α):(OL.own l).toL=l:=rfl
section
variable {R V E:Type} {a a1 a2:Option R} {P:Program} {N:Nat} {ro:Option Nat} {ops:Array Oper} {o:Oper} {l:List Oper} {dr:Bool} {acc:List Yn} {s s' s1:St} {Q:R→AX→St→Prop} {K:R→St→Prop} {f:FuncId} {args args':List AV} {dst:Option Tmp}
theorem QdD {m:Option V} {k:V→Option R} {u:V→Xq} (J:ZC ops o (look s.T)=some true) (hp:(plain o.op&&KE N o.dst)=true) (hu:∀ v,m=some v→Jk P o (look (Zd ops o s.T true)) (look s.H)=some (u v))
  (h:∀ v,m=some v→Yf (k v) P N ops Q dr (qO (u v) :: acc) l (nxt ops o s (u v))):Yf (m.bind k) P N ops Q dr acc (o :: l) s:=by
 simp only [Zf] at hp;refine ⟨fun r O=>?_⟩;obtain ⟨v,G,Y⟩:=Option.bind_eq_some_iff.1 O;exact MK J hp.1 (hu v G) hp.2 (RQ dr acc _ ▸ (h v G).h r Y)
theorem QdE {l:List α} {i:Int} {v:α} (h:QU l i=some v):l[i.toNat]?=some v:=by
 unfold QU at h;split at h
 ·cases h
 ·exact h
def uL (P:Program) (fn:Func) (hc:List (Nat × Blk)) (ρ:Nat→Nat) (s:St) (dst:Option Tmp) (K:R→St→Prop) (Q:R→AX→St→Prop):R→AX→St→Prop :=
 fun r=>dM P fn hc (fun x h'=>∃ hc',h'=look hc'∧FQ ρ hc hc' s.H∧Qa5 (K r) (Q r) s dst ρ hc' x)
theorem QQ (L:List (Nat × Nat)) (C:List Conv) (cb:List (Nat × List Conv)) (hf:P.funcs[f]?=some fn) (hb:fn.body=some c) (hn:fn.ntmps=n) (hl:Nat.ble args'.length n=true)
  (G:qM C args=VC (VO L) args') (hok:JZ N dst (VO L) hc args'=true) (J:RU s.H (VO L) cb hc=hc.map (fun p=>some (ZM (VO L) p.2)))
  (h:QP a P n none c ⟨YW 0 args',hc⟩ (uL P fn hc (VO L) s dst K Q)):NS a P N f args dst s K Q:=by
 subst hn;refine ⟨fun r hr=>?_⟩;simp only [JZ,Zf] at hok;obtain ⟨⟨⟨⟨Y,h2⟩,h3⟩,Z⟩,h5⟩:=hok;refine NQ (VO L) (Ie hf hb (Nat.le_of_ble_eq_true hl) (h.h r hr)) (G ▸ U1 C args) h2 (fun c hc=>by simpa using List.all_eq_true.1 h3 c hc) (RS Z) (UK J) (UJ h5) (ZL Y) ?_;rintro x h' ⟨hc',rfl,hd,O⟩;refine ⟨hc',Z9 (VO L) hc' s.H,rfl,hd,fun _=>rfl,?_⟩;cases x with
 | ret x=>exact O
 | panic x=>exact O
def Nn (ρ:Nat→Nat) (hc hc':List (Nat × Blk)) (s:St) (y:AV):Bool:=Bj hc hc' y&&Xl ρ hc hc' s.H
theorem Qa8 {x:AX} (Z:x=.ret∨x=.normal) (C:Conv) (bs:List Nat) (cb:List (Nat × List Conv)) (y:AV) (h:(TY P fn (look s1.T) (look s1.H)).map (cv C)=some y)
  (hok:Nn ρ hc (K5 cb s1.H bs) s y=true) (J:DW a K (St.put ⟨s.T,Z9 ρ (K5 cb s1.H bs) s.H⟩ dst (WT ρ y))):Zv a (uL P fn hc ρ s dst K Q) x s1:=by
 obtain ⟨z,G,O⟩:=Fe.1 h;simp only [Nn,Bj,Zf] at hok;refine ⟨fun r Y=>?_⟩
 have:Bf P fn hc (fun x h'=>∃ hc',h'=look hc'∧FQ ρ hc hc' s.H∧Qa5 (K r) (Q r) s dst ρ hc' x) s1 :=
  ⟨z,y,K5 cb s1.H bs,G,O ▸ yO C z,hok.1.1.1,Y7 hok.1.1.2,hok.1.2,_,rfl,X6 hok.2,J.h r Y⟩
 rcases Z with rfl | rfl <;> exact this
theorem QD (C:Conv) (bs:List Nat) (cb:List (Nat × List Conv)) (y:AV) 
   (G:DW a K (St.put ⟨s.T,Z9 ρ (K5 cb s1.H bs) s.H⟩ dst (WT ρ y)))(h:(TY P fn (look s1.T) (look s1.H)).map (cv C)=some y:=by kernel_rfl)(hok:Nn ρ hc (K5 cb s1.H bs) s y=true:=by kernel_rfl):Zv a (uL P fn hc ρ s dst K Q) .ret s1:=Qa8 (.inl rfl) C bs cb y h hok G
theorem DX (C:Conv) (bs:List Nat) (cb:List (Nat × List Conv)) (y:AV) 
   (G:DW a K (St.put ⟨s.T,Z9 ρ (K5 cb s1.H bs) s.H⟩ dst (WT ρ y)))(h:(TY P fn (look s1.T) (look s1.H)).map (cv C)=some y:=by kernel_rfl)(hok:Nn ρ hc (K5 cb s1.H bs) s y=true:=by kernel_rfl):Zv a (uL P fn hc ρ s dst K Q) .normal s1:=Qa8 (.inr rfl) C bs cb y h hok G
theorem NT (bs:List Nat) (cb:List (Nat × List Conv))  (J:Zv a Q (.panic (WT ρ p)) ⟨s.T,Z9 ρ (K5 cb s1.H bs) s.H⟩)(hok:Nn ρ hc (K5 cb s1.H bs) s p=true:=by kernel_rfl):Zv a (uL P fn hc ρ s dst K Q) (.panic p) s1:=by
 simp only [Nn,Bj,Zf] at hok;exact ⟨fun r G=>⟨p,K5 cb s1.H bs,le_refl p,hok.1.1.1,Y7 hok.1.1.2,hok.1.2,_,rfl,X6 hok.2,J.h r G⟩⟩
theorem GD (hc:List (Nat × Blk)) (args':List AV) (L:List (Nat × Nat)) (C:List Conv) (cb:List (Nat × List Conv))  (hf:P.funcs[f]?=some fn) (hb:fn.body=some c) (Y:fn.ntmps=n) (Z:Nat.ble args'.length n=true)
    
  (h:QP a P n none c ⟨YW 0 args',hc⟩ (uL P fn hc (VO L) (mk ops o s true) o.dst (fKr P N ops Q l) Q))(hw:ZC ops o (look s.T)=some true:=by kernel_rfl)(J:(ZO (look (Zd ops o s.T true)) o.op).map (fun p=>(p.1,qM C p.2))=some (f,VC (VO L) args'):=by kernel_rfl)(hok:(Ye P f&&JZ N o.dst (VO L) hc args')=true:=by kernel_rfl)(O:RU s.H (VO L) cb hc=hc.map (fun p=>some (ZM (VO L) p.2)):=by kernel_rfl):Yf a P N ops Q false acc (o :: l) s:=by
 obtain ⟨⟨f0,args⟩,G,hp⟩:=Fe.1 J;simp only [Prod.mk.injEq] at hp;obtain ⟨rfl,hp⟩:=hp;simp only [Zf] at hok;exact Kc hw G hok.1 (QQ L C cb hf hb Y Z hp hok.2 O h)
theorem FT (hc:List (Nat × Blk)) (args':List AV) (L:List (Nat × Nat)) (C:List Conv) (cb:List (Nat × List Conv)) (hw:ZC ops o (look s.T)=some true) (hf:P.funcs[f]?=some fn) (hb:fn.body=some c) (Y:fn.ntmps=n) (Z:Nat.ble args'.length n=true)
  (J:(ZO (look (Zd ops o s.T true)) o.op).map (fun p=>(p.1,qM C p.2))=some (f,VC (VO L) args')) (hok:(Ye P f&&JZ N o.dst (VO L) hc args'&&Xk ops acc.length&&Z0 ops acc.reverse)=true) (O:RU s.H (VO L) cb hc=hc.map (fun p=>some (ZM (VO L) p.2)))
  (h:QP a P n none c ⟨YW 0 args',hc⟩ (uL P fn hc (VO L) (mk ops o s true) o.dst (fKq Q) Q)):Yf a P N ops Q true acc [o] s:=by
 obtain ⟨⟨f0,args⟩,G,hp⟩:=Fe.1 J;simp only [Prod.mk.injEq] at hp;obtain ⟨rfl,hp⟩:=hp;simp only [Zf] at hok;exact lF hw G (by simp [hok]) (QQ L C cb hf hb Y Z hp hok.1.1.2 O h)
end
section
variable {P:Program} {o:Oper} {T:Nat→Option AV} {h:QH}
theorem QgG {n:Int} (hc:(leI 0 n&&Qs n len)=true):0≤n∧n < len∧n.toNat < len:=by
 simp only [Zf,leI,Qs,decide_eq_true_eq] at hc;omega
theorem QdF {k:IntKind} {n:Int} (Y:o.op=.indexAddr t x ix) (hn:Zc T ix=some (.p (.val (.int k n)))) (hx:Zc T x=some (.ptr b 0))
  (O:P.underlying t=some (.array len e)) (hi:(P.info? e).map (·.size)=some 1) (hc:(leI 0 n&&Qs n len)=true):Jk P o T h=some (.ptr b n.toNat,none,[]):=by
 obtain ⟨i,J,G⟩:=Fe.1 hi;obtain ⟨h0,Z,h3⟩:=QgG hc;simp [Jk,Y,TF,dA,hx,Xt,hn,O,J,G,h0,Z]
theorem Qa9 {k:IntKind} {n:Int} {l:List α} (O:o.op=.indexAddr t x ix) (Y:Zc T ix=some (.p (.val (.int k n)))) (Z:Zc T x=some (.ptr b 0))
  (J:P.underlying t=some (.array len e)) (hi:(P.info? e).map (·.size)=some 1) (hl:l.length=len) (v:α) (G:QU l n=some v):Jk P o T h=some (.ptr b n.toNat,none,[]):=by
 refine QdF O Y Z J hi ?_;unfold QU at G;split at G
 ·cases G
 ·have:=(List.getElem?_eq_some_iff.1 G).1;simp [leI,Qs];omega
theorem QdG {tb:TypeId} {Y:Operand} {g:α→AV} {l:List α} {n:Int} {v:α} (Z:o.op=.load ty Y) (hx:Zc T Y=some (.ptr b n.toNat)) (hb:h b=some (.box tb (List.map g l)))
  (hi:(P.underlying ty).bind (fun d=>(P.info? ty).map fun i=>Gt d)=some false) (hv:l[n.toNat]?=some v):Jk P o T h=some (g v,none,[b]):=by
 obtain ⟨d,hd,O⟩:=Option.bind_eq_some_iff.1 hi;obtain ⟨i,G,J⟩:=Fe.1 O;simp [Jk,Z,dA,hx,PW,hd,G,hb,J,hv]
end
section
variable {P:Program} {o:Oper} {T:Nat→Option AV} {h:QH}
def sliceB (lo hi:Int) (len:Nat):Bool:=decide (0≤lo∧lo≤hi∧hi≤len)
def NU (T:Nat→Option AV) (d:Int):Option Operand→Option Int
 | none=>some d
 | some x=>match Zc T x with | some (.p (.val (.int _ n)))=>some n | _=>none
theorem NV {T:Nat→Option AV} {x:Option Operand} {n:Int} (h:NU T d x=some n) (h0:0≤n):XI T d x=some n.toNat:=by
 cases x with
 | none=>simp only [NU,QO] at h; subst h; simp [XI]
 | some x =>
  simp only [NU] at h;split at h
  ·rename_i k m G;simp only [QO] at h;subst h;simp [XI,G,h0]
  ·cases h
end
def Qii {E V:Type} (x:V→ZB × List (Nat × Blk)) (y:E→ZB × List (Nat × Blk)):Except E V→ZB × List (Nat × Blk)
 | .ok v=>x v
 | .error e=>y e
section
variable {R V:Type} {N:Nat} {s s1:St} {Q:R→AX→St→Prop}
theorem Qij {S:V→St} (v:V) (O:Lp) (s0:St) (h0:L8 O s=some s0) (J:Weak N s0 s1) (K:Lp) (G:L8 K s1=some (S v)):Zv (some v) (Qa1 N S) .normal s:=Qkh v ((HV h0).trans (J.trans (HV G)))
end
section
variable {R V E:Type} {a a1 a2:Option R} {P:Program} {N:Nat} {ro:Option Nat} {ops:Array Oper} {o:Oper} {l:List Oper} {dr:Bool} {acc:List Yn} {s s' s1:St} {Q:R→AX→St→Prop} {K:R→St→Prop} {f:FuncId} {args args':List AV} {dst:Option Tmp}
def dQ {V:Type} (P:Program) (fn:Func) (hc:List (Nat × Blk)) (N:Nat) (cf:FuncId) (X:V→ZB × List (Nat × Blk)):V→AX→St→Prop:=fun v=>QaT P fn hc N cf (Yh X v)
def fKe {V:Type} (P:Program) (fn:Func) (hc:List (Nat × Blk)) (X:V→ZB × List (Nat × Blk)):V→St→Prop:=fun v s=>Bf P fn hc (Yh X v) s
def noQ {V:Type}:V→AX→St→Prop:=fun _ _ _=>False
theorem qV {X:R→ZB × List (Nat × Blk)} (h:NS a P N cf [.p (.val .nilIface), .ptr 2000 0] none s (fKe P fn hc X) noQ):Zv a (dQ P fn hc N cf X) .ret s:=⟨fun r G=>h.h r G⟩
theorem IC {X:R→ZB × List (Nat × Blk)} (h:NS a P N cf [p, .ptr 2000 0] none s (fKe P fn hc X) noQ):Zv a (dQ P fn hc N cf X) (.panic p) s:=⟨fun r G=>h.h r G⟩
theorem Js {X:V→ZB × List (Nat × Blk)} {v:V} (C:Conv) (bs:List Nat) (cb:List (Nat × List Conv))  
   (h:(TY P fn (look s.T) (look s.H)).map (cv C)=some (YD (X v).1):=by kernel_rfl)(G:(X v).1=.ret (YD (X v).1):=by kernel_rfl)(O:K5 cb s.H bs=(X v).2:=by kernel_rfl)(hok:Bj hc (X v).2 (YD (X v).1)=true:=by kernel_rfl):DW (some v) (fKe P fn hc X) s:=⟨fun r J=>by cases J; exact nO C bs cb h G O hok⟩
theorem Qba (h:QaV H=true):∀ c k x,look H c=some k→k.ob=some x→(some x).map (kE (Es b))=some x:=by
 intro c k x J G;rw [yM h c k J] at G;cases G
theorem MP {X:R→ZB × List (Nat × Blk)} (hc:List (Nat × Blk)) (C:LK P g cf) (F:RO fn g) (b:Nat) (hf:P.funcs[f]?=some fn) (hn:fn.ntmps=n) (hl:Nat.ble args.length n=true) (aa:Ye P g=true) (Y:Nat.blt b 1000=true)
  (hm:P.follows .mixedOrders=true) {ops:Array Oper} (Z:F.r1=.region id ops false) (h1:(T9 P n ops false ⟨YW 0 args,hc⟩).isSome=true) (G:look (FR P n ops false ⟨YW 0 args,hc⟩).T F.tb=some (.ptr b 0))
  (O:((look (FR P n ops false ⟨YW 0 args,hc⟩).H 2000).isNone&&QaV (FR P n ops false ⟨YW 0 args,hc⟩).H)=true)
  (h:QP a P n none F.rest ⟨(F.tc,AV.fn (.func g) [] [.ptr 2000 0]) :: QaU b (FR P n ops false ⟨YW 0 args,hc⟩).T,Et b (FR P n ops false ⟨YW 0 args,hc⟩).H⟩ (dQ P fn hc n cf X)) (r:R) (hr:a=some r):KD P f args (look hc) (Yh X r):=by
 subst hn;simp only [Zf,Option.isNone_iff_eq_none] at O;obtain ⟨s1,J⟩:=TD.1 h1;have e:FR P fn.ntmps ops false ⟨YW 0 args,hc⟩=s1:=by simp [FR,J]
 rw [e] at G O h;refine uD C F b hf (Nat.le_of_ble_eq_true hl) aa (by simpa [Nat.blt_eq] using Y) ?_;rw [Z];exact ML hm J ⟨rfl,G,O.1,Qba O.2,h.h r hr⟩
end
theorem QdH
  (h:Ex P N ro c s (fun x s'=>∃ G,qH (look s'.T) (look G.H) G.T∧M4 (look s'.H) (look G.H) G.H∧K4 (look G.H) s.H=true∧(∀ v,x=.panic v→ZX (look G.H) v=true)∧Q x G)):Ex P N ro c s Q:=by
 intro φ M0 D a w r;refine wpIn_mono (h φ M0 D a w r) ?_;rintro e a' w' ⟨φ',x,s',⟨G,h1,Z,h3,hp,h4⟩,r',E',J⟩;obtain ⟨k1,k2,Y⟩:=Eo (hc:=s.H) r' E' Z h3;refine ⟨φ',x,G,h4,⟨?_,r'.siz,k1,fun t y ht=>?_⟩,k2,?_⟩
 ·obtain ⟨h0,ms,g1,g2,g3⟩:=r'.dfs;refine ⟨h0,ms,g1,g2,fun z O=>⟨(g3 z O).1,(g3 z O).2.1,fun b hb=>(g3 z O).2.2 b ?_⟩⟩;cases hq:look G.H b with
  | none=>exact absurd hq hb
  | some k'=>obtain ⟨⟨k,e1,_⟩,_⟩:=JJ Z b k' hq; rw [e1]; simp
 ·obtain ⟨z,g1,g2,g3⟩:=MH h1 t y ht;exact ⟨(r'.tm t z g1).1,Y _ _ g3 (JX.1 _ _ _ g2 (r'.tm t z g1).2)⟩
 ·cases x with
  | normal=>exact J
  | exit i=>exact J
  | ret=>exact J
  | panic v=>obtain ⟨u,h5,h6⟩:=J; exact ⟨u,h5,Y _ _ (hp v rfl) h6⟩
section
variable {R V E:Type} {a a1 a2:Option R} {P:Program} {N:Nat} {ro:Option Nat} {ops:Array Oper} {o:Oper} {l:List Oper} {dr:Bool} {acc:List Yn} {s s' s1:St} {Q:R→AX→St→Prop} {K:R→St→Prop} {f:FuncId} {args args':List AV} {dst:Option Tmp}
def rgQ (N:Nat) (s:St) (Q:R→AX→St→Prop):R→AX→St→Prop:=fun r x s'=>∃ G,qH (look s'.T) (look G.H) G.T∧M4 (look s'.H) (look G.H) G.H∧K4 (look G.H) s.H=true∧(∀ v,x=.panic v→ZX (look G.H) v=true)∧Q r x G
def fKg (G:Nat) (T:List (Nat × AV)) (nf:Dz) (N:Nat) (s:St) (Q:R→AX→St→Prop):R→St→Prop:=fun r=>QaX G T nf (rgQ N s Q r)
theorem RV {O:Operand} {ps:Array Tmp} {assign:Code} (g:FuncId) (G:Nat) (l':List AV) (J:List AV) (hf:Zc (look s.T) O=some (.fn (.func g) l' J)) (hok:(Ye P g&&Nat.ble 1000 G&&(look s.H G).isNone)=true)
  (h:∀ nf fn,nf=Dz.mk N fn ps assign body→NS a P N g (l'++[.yv G]++J) none ⟨s.T,(G, .lp s.T nf .ready none) :: s.H⟩ (fKg G s.T nf N s Q) (rgQ N s Q)):QP a P N none (.rangeFunc O ps assign body) s Q:=by
 simp only [Zf,Option.isNone_iff_eq_none] at hok;refine ⟨fun r Y=>QdH (wK G (Nat.le_of_ble_eq_true hok.1.2) hf hok.1.1 hok.2 fun fn=>?_)⟩;exact (h _ fn rfl).h r Y
theorem QdI {x:AX} {st:LoopState} {G:Nat} {T:List (Nat × AV)} (J:Lp) (O:St) (Z:∀ v,x ≠ .panic v) (hs:(if okT (look (shr J ⟨s1.T,(G, .lp T nf .exhausted pd) :: s1.H⟩).H) (shr J ⟨s1.T,(G, .lp T nf .exhausted pd) :: s1.H⟩).T&&aQ (look (shr J ⟨s1.T,(G, .lp T nf .exhausted pd) :: s1.H⟩).H) (shr J ⟨s1.T,(G, .lp T nf .exhausted pd) :: s1.H⟩).H&&K4 (look (shr J ⟨s1.T,(G, .lp T nf .exhausted pd) :: s1.H⟩).H) s.H then some (shr J ⟨s1.T,(G, .lp T nf .exhausted pd) :: s1.H⟩) else none)=some O)
  (h:Zv a Q x O) (r:R) (hr:a=some r):rgQ N s Q r x ⟨s1.T,(G, .lp T nf .exhausted pd) :: s1.H⟩:=by
 split at hs
 ·rename_i hok;simp only [QO] at hs;subst hs;simp only [Zf] at hok;exact ⟨_,Fp hok.1.1,Y7 hok.1.2,hok.2,fun v Y=>absurd Y (Z v),h.h r hr⟩
 ·cases hs
def rgS (G:Lp) (s s1:St):Option St:=if okT (look (shr G s1).H) (shr G s1).T&&aQ (look (shr G s1).H) (shr G s1).H&&K4 (look (shr G s1).H) s.H then some (shr G s1) else none
theorem Qbb {J:Nat} {T:List (Nat × AV)} (st:LoopState) (Y:Lp) (G:St) (hl:look s1.H J=some (.lp T nf st none)) (O:st ≠ .busy) (hs:rgS Y s ⟨s1.T,(J, .lp T nf .exhausted none) :: s1.H⟩=some G) (h:Zv a Q .normal G):DW a (fKg J T nf N s Q) s1 :=
 ⟨fun r Z=>⟨st,none,hl,O,QdI (st:=st) Y G (fun v e=>by cases e) hs h r Z⟩⟩
def rdR (ρ:Nat→Nat) (hc:List (Nat × Blk)) (s:St) (dst:Option Tmp) (K:St→Prop) (Q:AX→St→Prop):ZB→QH→Prop:=fun x h'=>∃ hc',h'=look hc'∧FQ ρ hc hc' s.H∧Qa5 K Q s dst ρ hc' x
def rnQ (ρ:Nat→Nat) (hc:List (Nat × Blk)) (b:Nat) (T:List (Nat × AV)) (nf:Dz) (s:St) (dst:Option Tmp) (K:R→St→Prop) (Q:R→AX→St→Prop):R→AX→St→Prop:=fun r=>QaW hc b T nf (rdR ρ hc s dst (K r) (Q r))
def asQ (P:Program) (N l:Nat) (body:Code) (b:Nat) (T:List (Nat × AV)) (nf:Dz) (Q:R→AX→St→Prop):R→AX→St→Prop:=fun r x s1=>x=.normal∧∃ G,look s1.H b=some (.lp T nf .ready G)∧Ex P N (some l) body ⟨s1.T,(b, .lp T nf .busy G) :: s1.H⟩ (Q r)
theorem Qbc {l:Nat} {T:List (Nat × AV)} (J:Lp) (G:St) (pd:Option Code) (Y:look s1.H b=some (.lp T nf .ready pd)) (hs:L8 J ⟨s1.T,(b, .lp T nf .busy pd) :: s1.H⟩=some G) (h:QP a P N (some l) body G Q):Zv a (asQ P N l body b T nf Q) .normal s1 :=
 ⟨fun r O=>⟨rfl,pd,Y,TK (HV hs) (h.h r O)⟩⟩
theorem Bn {N1:Nat} {fn:FuncId} {ps:Array Tmp} {assign:Code} {l1:List Oper} (L:List (Nat × Nat)) (hc:List (Nat × Blk)) (b:Nat) (T:List (Nat × AV)) (C:List Conv) (cb:List (Nat × List Conv)) (args':List AV) (hw:ZC ops o (look s.T)=some true) (aa:nf=Dz.mk N1 fn ps assign body)
  (hy:(yieldOf (look (Zd ops o s.T true)) o.op).map (fun p=>(p.1,qM C p.2))=some (VO L b,VC (VO L) args')) (hb:look hc b=some (.lp T nf .ready none)) (J:(Nat.ble 1000 b&&Nat.beq ps.size args'.length&&ps.toList.all (fun p=>Nat.blt p N1))=true)
  (hok:JZ N o.dst (VO L) hc args'=true) (Z:RU s.H (VO L) cb hc=hc.map (fun p=>some (ZM (VO L) p.2)))
  (h:∀ l,QP a P N1 (some l) assign ⟨psT ps.toList args' T,hc⟩ (asQ P N1 l body b T nf (rnQ (VO L) hc b T nf (mk ops o s true) o.dst (fKr P N ops Q l1) Q))):Yf a P N ops Q false acc (o :: l1) s:=by
 obtain ⟨⟨b0,args⟩,ab,hp⟩:=Fe.1 hy;simp only [Prod.mk.injEq] at hp;obtain ⟨O,Y⟩:=hp;have O:b0=VO L b:=O;subst O;refine ⟨fun r hr=>?_⟩;show K3 P N ops (Q r) (o :: l1) s;simp only [K3,hw,ZE,ab];show YEx P N (VO L b) args o.dst (mk ops o s true) _ _;simp only [Zf] at J;simp only [JZ,Zf] at hok;obtain ⟨⟨⟨⟨g1,g2⟩,g3⟩,g4⟩,g5⟩:=hok
 have hY:QaL P b args' (look hc) (rdR (VO L) hc (mk ops o s true) o.dst (fKr P N ops Q l1 r) (Q r)):=by
  have G:=aa;refine uE (nf:=nf) (Nat.le_of_ble_eq_true J.1.1) hb ?_ ?_ fun l=>?_
  ·subst G; exact Nat.eq_of_beq_eq_true J.1.2
  ·subst G; intro p hp; simpa [Nat.blt_eq] using List.all_eq_true.1 J.2 p hp
  ·have:=(h l).h r hr;subst G;exact this
 refine uC (s:=mk ops o s true) (VO L) hY (by rw [← Y]; exact U1 C args) g2 (fun c hc=>by simpa using List.all_eq_true.1 g3 c hc) (RS g4) (UK Z) (UJ g5) (ZL g1) ?_;rintro x h' ⟨hc',rfl,hd,hk⟩;refine ⟨hc',Z9 (VO L) hc' s.H,rfl,hd,fun _=>rfl,?_⟩;cases x with
 | ret x=>exact hk
 | panic x=>exact hk
def QgH (hc hc':List (Nat × Blk)) (b:Nat) (s:St):Bool:=aQ (look hc') hc'&&K4 (look hc') hc
theorem QgI {T:List (Nat × AV)} {x:AX} {O:Bool} (hx:∀ r,rnQ ρ hc b T nf s dst K Q r x s1=Bg hc b T nf (rdR ρ hc s dst (K r) (Q r)) O st pd s1) (bs:List Nat) (cb:List (Nat × List Conv)) (J:LoopState) (G:Option Code)
  (hl:look (K5 cb s1.H bs) b=some (.lp T nf J G)) (hok:(QgH hc (K5 cb s1.H bs) b s&&Xl ρ hc ((b, .lp T nf st pd) :: K5 cb s1.H bs) s.H)=true)
  (Y:DW a K (St.put ⟨s.T,Z9 ρ ((b, .lp T nf st pd) :: K5 cb s1.H bs) s.H⟩ dst (WT ρ (.p (.val (.bool O)))))):Zv a (rnQ ρ hc b T nf s dst K Q) x s1:=by
 refine ⟨fun r Z=>?_⟩;rw [hx r];simp only [QgH,Zf] at hok;exact ⟨_,J,G,Y7 hok.1.1,hok.1.2,hl,_,rfl,X6 hok.2,Y.h r Z⟩
theorem lK {T:List (Nat × AV)} (bs:List Nat) (cb:List (Nat × List Conv)) (J:LoopState) (G:Option Code)  
  (Y:DW a K (St.put ⟨s.T,Z9 ρ ((b, .lp T nf .ready none) :: K5 cb s1.H bs) s.H⟩ dst (WT ρ (.p (.val (.bool true))))))(O:look (K5 cb s1.H bs) b=some (.lp T nf J G):=by kernel_rfl)(hok:(QgH hc (K5 cb s1.H bs) b s&&Xl ρ hc ((b, .lp T nf .ready none) :: K5 cb s1.H bs) s.H)=true:=by kernel_rfl):Zv a (rnQ ρ hc b T nf s dst K Q) .normal s1:=QgI (fun _=>rfl) bs cb J G O hok Y
end
def Ae (k i:Nat):Nat:=if i=k then 0 else if i < k then i+1 else i
def nP (o:Oper):Bool:=match o.op,o.guard with | .move _,none=>true | _,_=>false
def lL (o:Oper):Bool:=nP o&&o.after.toList.all (fun e=>!Region.binds .any e)
def reO (k:Nat) (o:Oper):Oper:={ o with after:=⟨(if lL o then [] else [⟨0, .data⟩])++o.after.toList.map fun e=>⟨Ae k e.on,e.ground⟩⟩,guard:=o.guard.map fun g=>(Ae k g.1,g.2) }
def NW (k:Nat) (l:List Oper):List Oper:=match l[k]? with
 | some o=>{ o with after:=#[] } :: (l.eraseIdx k).map (reO k)
 | none=>l
def Xb (k:Nat) (ops:Array Oper):Array Oper:=⟨NW k ops.toList⟩
def Oi (k:Nat) (ops:Array Oper):Bool:=match ops[k]? with
 | some o=>nP o&&o.after.toList.all (fun e=>!Region.binds .any e)&&Region.noSelect ops&&Region.free .any ops (Array.replicate ops.size false) k
 | none=>false
theorem uM {k:Nat} {l:List Oper} (h:l[k]?=some o):(NW k l)[0]?=some { o with after:=#[] }:=by
 simp [NW,h]
theorem lM {k:Nat} {l:List Oper} (h:l[k]?=some o) (i:Nat) (hi:i ≠ k):(NW k l)[Ae k i]?=(l[i]?).map (reO k):=by
 unfold NW Ae;simp only [h,if_neg hi];by_cases hlt:i < k
 ·simp only [if_pos hlt,List.getElem?_cons_succ,List.getElem?_map];rw [List.getElem?_eraseIdx,if_pos hlt]
 ·obtain ⟨j,rfl⟩:∃ j,i=j+1:=⟨i - 1,by omega⟩;simp only [if_neg hlt,List.getElem?_cons_succ,List.getElem?_map];rw [List.getElem?_eraseIdx,if_neg zo]
theorem nQ {k:Nat} {l:List Oper} (h:l[k]?=some o):(NW k l).length=l.length:=by
 have G:k < l.length:=(List.getElem?_eq_some_iff.1 h).1;unfold NW;simp only [h,Y6,List.length_map,List.length_eraseIdx,if_pos G];omega
theorem NY {k:Nat} (h:ops[k]?=some o):(Xb k ops)[0]?=some { o with after:=#[] }:=by
 have:=uM (l:=ops.toList) (by simpa using h);simpa [Xb] using this
theorem qW {k:Nat} (h:ops[k]?=some o) (i:Nat) (hi:i ≠ k):(Xb k ops)[Ae k i]?=(ops[i]?).map (reO k):=by
 have:=lM (l:=ops.toList) (by simpa using h) i hi;simpa [Xb] using this
theorem nR {k:Nat} (h:ops[k]?=some o):(Xb k ops).size=ops.size:=by
 have:=nQ (l:=ops.toList) (by simpa using h);simpa [Xb] using this
theorem Qbd {k:Nat} (G:k < n) (hi:i < n):Ae k i < n:=by
 unfold Ae;split
 ·omega
 ·split <;> omega
theorem Qbe {k:Nat} (hi:i ≠ k):Ae k i ≠ 0:=by
 unfold Ae;rw [if_neg hi];split <;> omega
theorem QdJ {k:Nat} (hi:i ≠ k) (G:j ≠ k) (h:Ae k i=Ae k j):i=j:=by
 unfold Ae at h;rw [if_neg hi,if_neg G] at h;split at h <;> split at h <;> omega
theorem Qbf {k:Nat} (G:j ≠ 0):∃ i,i ≠ k∧Ae k i=j:=by
 unfold Ae;by_cases h:j≤k
 ·exact ⟨j - 1,by omega,by rw [if_neg zo,if_pos zo]; omega⟩
 ·exact ⟨j,by omega,by rw [if_neg zo,if_neg zo]⟩
section
variable {P:Program} {ops:Array Oper} {Q:Exit→Act→World→Prop} {k:Nat} {ok:Oper}
theorem lN (G:ops[k]?=some ok) (g:Nat):((Xb k ops)[Ae k g]?).bind (·.dst)=(ops[g]?).bind (·.dst):=by
 by_cases J:g=k
 ·subst J;rw [show Ae g g=0 from by simp [Ae],NY G,G];rfl
 ·rw [qW G g J];cases ops[g]? <;> rfl
theorem lQ (G:ops[k]?=some ok) (o:Oper) (tmps:Array Value):Region.wanted (reO k o) (yielded (Xb k ops) tmps)=Region.wanted o (yielded ops tmps):=by
 unfold Region.wanted reO;cases hg:o.guard with
 | none=>simp
 | some g =>
  obtain ⟨g,b⟩:=g;simp only [Option.map_some];unfold yielded;rw [lN G g]
theorem QdK (G:ops[k]?=some ok) (hi:i ≠ k) {K K':Act→World→Prop} (J:∀ a w,K a w→K' a w) (h:wpOp P (Xb k ops) Q (Ae k i) K a w):wpOp P ops Q i K' a w:=by
 refine wpOp_mono J ?_;unfold wpOp at h ⊢;rw [qW G i hi] at h;cases ho:ops[i]? with
 | none=>simpa [ho] using h
 | some o =>
  simp only [ho,Option.map_some] at h ⊢;rw [lQ G] at h;exact h
theorem Bo (hk:ops[k]?=some ok) {G:Array Bool} (hs:listed.size=ops.size) (ae:G.size=ops.size) (h0:G.getD 0 false=true) (h1:listed.getD k false=true) (hl:∀ i,i ≠ k→G.getD (Ae k i) false=listed.getD i false) (i:Nat) (hi:i ≠ k) :
  i ∈ Region.ready .any ops listed↔Ae k i ∈ Region.ready .any (Xb k ops) G:=by
 have ad:k < ops.size:=(Ll.1 hk).1;have aa:∀ (l:Array Bool) (i:Nat),i < l.size→l.getD i true=l.getD i false:=fun l i hi=>by simp [hi]
 rw [mem_ready,mem_ready,qW hk i hi];rcases Nat.lt_or_ge i ops.size with hlt | ab
 rotate_left
 ·have:ops[i]?=none:=by simp [ab]
  simp [this]
 have e1:listed.getD i true=G.getD (Ae k i) true:=by
  rw [aa listed i zo,aa G _ (by rw [ae]; exact Qbd ad hlt),hl i hi]
 rw [e1]
 have Z:∀ j,listed.getD j false=G.getD (Ae k j) false:=by
  intro j;by_cases hj:j=k
  ·subst hj;rw [h1,show Ae j j=0 from by simp [Ae],h0]
  ·exact (hl j hj).symm
 refine and_congr_right fun _=>?_
 constructor
 ·rintro ⟨o,ho,J⟩;refine ⟨reO k o,by rw [ho]; rfl,fun e Y hb=>?_⟩;simp only [reO,List.mem_toArray,List.mem_append,List.mem_map] at Y;rcases Y with Y | ⟨e',ac,rfl⟩
  ·split at Y
   ·cases Y
   ·rw [List.mem_singleton] at Y;subst Y;exact h0
  ·rw [← Z];exact J e' (by simpa using ac) hb
 ·rintro ⟨o',O,J⟩;cases ho:ops[i]? with
  | none=>rw [ho] at O; cases O
  | some o =>
   rw [ho] at O;cases O;refine ⟨o,rfl,fun e Y hb=>?_⟩;rw [Z];exact J ⟨Ae k e.on,e.ground⟩ (by simp only [reO,List.mem_toArray,List.mem_append,List.mem_map]; exact .inr ⟨e,by simpa using Y,rfl⟩) hb
theorem nS (hk:ops[k]?=some ok):∀ (O:Nat) (listed G:Array Bool) (a:Act) (w:World),listed.size=ops.size→G.size=ops.size→G.getD 0 false=true→listed.getD k false=true →
  (∀ i,i ≠ k→G.getD (Ae k i) false=listed.getD i false)→wpAny P .any (Xb k ops) Q O G a w→wpAny P .any ops Q O listed a w:=by
 have ac:k < ops.size:=(Ll.1 hk).1;have ab:∀ (l:Array Bool) (i:Nat),i < l.size→l.getD i true=l.getD i false:=fun l i hi=>by simp [hi]
 have aa:∀ (listed G:Array Bool),listed.size=ops.size→G.size=ops.size→G.getD 0 false=true→listed.getD k false=true →
   (∀ i,i ≠ k→G.getD (Ae k i) false=listed.getD i false)→(Region.ready .any ops listed=[]↔Region.ready .any (Xb k ops) G=[]):=by
  intro listed G hs J h0 h1 hl;simp only [List.eq_nil_iff_forall_not_mem];constructor
  ·intro h j hj
   have ad:j ≠ 0:=by
    intro e;subst e;have:=(mem_ready.1 hj).1;rw [ab G 0 zo,h0] at this;cases this
   obtain ⟨i,Y,rfl⟩:=Qbf (k:=k) ad;exact h i ((Bo hk hs J h0 h1 hl i Y).2 hj)
  ·intro h i hi
   have Y:i ≠ k:=by
    intro e;subst e;have:=(mem_ready.1 hi).1;rw [ab listed i zo,h1] at this;cases this
   exact h _ ((Bo hk hs J h0 h1 hl i Y).1 hi)
 intro O
 induction O with
 | zero =>
  intro listed G a w hs J h0 h1 hl h;exact ⟨(aa listed G hs J h0 h1 hl).2 h.1,h.2⟩
 | succ O ih =>
  intro listed G a w hs J h0 h1 hl h;refine ⟨fun hr=>h.1 ((aa listed G hs J h0 h1 hl).1 hr),fun i hi=>?_⟩
  have Y:i ≠ k:=by
   intro e;subst e;have:=(mem_ready.1 hi).1;rw [ab listed i zo,h1] at this;cases this
  have h2:=h.2 _ ((Bo hk hs J h0 h1 hl i Y).1 hi);refine QdK hk Y (fun a' w' h3=>ih _ _ a' w' (by simpa using hs) (by simpa using J) (getD_set_true h0) (getD_set_true h1) ?_ h3) h2;intro j hj;by_cases e:i=j
  ·subst e
   have Z:i < ops.size:=by
    obtain ⟨o,ho,_⟩:=(mem_ready.1 hi).2;exact (Ll.1 ho).1
   have:=Qbd ac Z;rw [← hs] at Z;rw [← J] at this;simp [Z,this]
  ·rw [getD_set_ne false e,getD_set_ne false (fun e2=>e (QdJ Y hj e2)),hl j hj]
theorem XL {Q':Exit→Act→World→Prop} (hQ:∀ e a w,Q e a w→Q' e a w):∀ (G:Nat) (listed:Array Bool) (a:Act) (w:World),wpAny P .any ops Q G listed a w→wpAny P .any ops Q' G listed a w
 | 0,listed,a,w,h=>⟨h.1,hQ _ _ _ h.2⟩
 | G+1,listed,a,w,h=>by
  refine ⟨fun hr=>hQ _ _ _ (h.1 hr),fun i hi=>?_⟩;have J:=h.2 i hi;unfold wpOp at J ⊢;cases ho:ops[i]? with
  | none=>simp only [ho] at J ⊢; exact XL hQ G _ a w J
  | some o =>
   simp only [ho] at J ⊢;split
   ·rename_i O;simp only [O,if_true] at J;rcases J with J | ⟨Z,Y⟩
    ·exact .inl (Oper.wp_mono2 J (fun a w h=>XL hQ G _ a w h) hQ)
    ·exact .inr ⟨Z,_,_,hQ _ _ _ Y.choose_spec.choose_spec⟩
   ·rename_i O;simp only [O] at J;exact XL hQ G _ _ w J
end
def Agree (X:Tmp→Prop) (a b:Act):Prop:=a.defers=b.defers∧a.tmps.size=b.tmps.size∧∀ t,¬ X t→a.tmps[t]?=b.tmps[t]?
theorem nT (X:Tmp→Prop) (a:Act):Agree X a a:=⟨rfl,rfl,fun _ _=>rfl⟩
theorem Fq {X:Tmp→Prop} {b:Act} (h:Agree X a b) (d:Option Tmp) (v:Value):Agree X (a.put d v) (b.put d v):=by
 cases d with
 | none=>exact h
 | some d =>
  refine ⟨h.1,by simpa [Act.put] using h.2.1,fun t G=>?_⟩;simp only [Act.put,Array.getElem?_setIfInBounds];rw [h.2.1,h.2.2 t G]
theorem nU {X:Tmp→Prop} {b:Act} (h:Agree X a b) (G:∀ t,x=.tmp t→¬ X t):a.eval x=b.eval x:=by
 cases x with
 | tmp t =>
  have:=h.2.2 t (G t rfl);simp only [Act.eval];rw [Array.getD_eq_getD_getElem?,Array.getD_eq_getD_getElem?,this]
 | _=>rfl
theorem X7 {X:Tmp→Prop} {b:Act} (h:Agree X a b) (hs:∀ cs b,o.op ≠ .select cs b) (O:∀ t ∈ o.looksAt ops,¬ X t):execOp a.eval o=execOp b.eval o :=
 execOp_congr o hs fun x J=>nU h fun t G=>O t (by
  subst G;exact List.mem_append_left _ (List.mem_filterMap.2 ⟨.tmp t,by simpa using J,rfl⟩))
theorem qX {X:Tmp→Prop} {b:Act} {K:Act→World→Prop} {Q:Exit→Act→World→Prop} (h:Agree X a b) (hs:∀ cs b,o.op ≠ .select cs b) (hl:∀ t ∈ o.looksAt ops,¬ X t) (hd:∀ t,o.dst=some t→¬ X t)
  (hp:∀ c w,Q (.panic c) b w→Q' (.panic c) a w) (ho:∀ a w,¬ Q .outgrown a w) (J:o.wp P b w K Q):o.wp P a w (fun a' w'=>∃ Y,Agree X a' Y∧(∀ t,o.dst ≠ some t→Y.tmps[t]?=b.tmps[t]?)∧K Y w') Q':=by
 have G:∀ (b:Act) (v:Value) (t:Tmp),o.dst ≠ some t→(b.put o.dst v).tmps[t]?=b.tmps[t]?:=by
  intro b v t Z;cases hdst:o.dst with
  | none=>rfl
  | some d =>
   have:d ≠ t:=fun e=>Z (by rw [hdst,e])
   simp [Act.put,Array.getElem?_setIfInBounds_ne this]
 unfold Oper.wp at *;rw [X7 (ops:=ops) h hs hl];generalize (execOp b.eval o).run P w=r at *;cases r with
 | ok n w' =>
  cases n <;> simp only [Oper.upon] at J ⊢
  case value u=>exact ⟨_,Fq h _ u,G b u,J⟩
  case skip=>exact ⟨_,Fq h _ _,G b _,J⟩
  case defer d =>
   refine ⟨_,Fq (X:=X) (a:={ a with defers:=d :: a.defers }) (b:={ b with defers:=d :: b.defers }) ⟨by simp [h.1],h.2.1,h.2.2⟩ _ _,fun t Z=>?_,J⟩;exact G { b with defers:=d :: b.defers } _ t Z
  case enter f args =>
   refine Calls.mono J fun e w'' O=>?_
   cases e with
   | returned u=>exact ⟨_,Fq h _ u,G b u,O⟩
   | panicked c=>exact hp _ _ O
   | outgrown=>obtain ⟨a0,w0,O⟩:=O; exact absurd O (ho _ _)
  case row row args=>exact Rows.mono J fun u w'' O=>⟨_,Fq h _ u,G b u,O⟩
 | halt x w' =>
  cases x <;> simp only [Oper.upon] at J ⊢
  case panic u=>exact hp _ _ J
def qY (P:Program) (o:Oper) (T:Nat→Option AV) (h:QH):Option AV :=
 match o.op with
 | .move x=>Zc T x
 | .load ty x=>(PW P T h ty x).map (·.1)
 | .fieldAddr s x f=>(Xr P T s x f).map (·.1)
 | .nilCheck x=>(UD T x).map (·.1)
 | .extract x i=>(FH T x i).map (·.1)
 | .binOp op _ x y _=>match Zc T x,Zc T y with
  | some (.p (.val (.int k a))),some (.p (.val (.int k' b)))=>if GR op then none else if k=k' then (NI op k a b).map fun v=>.p (.val v) else none
  | _,_=>none
 | _=>none
section
variable {P:Program} {N:Nat} {D:DB} {φ:Nat→Nat} {M0:Zr} {T:Nat→Option AV} {h:QH} {a:Act} {w:World}
theorem qZ (r:Q8 φ M0 N D T h a w) {x:AV} (O:qY P o T h=some x):∃ v,(execOp a.eval o).run P w=.ok (.value v) w∧Qe φ h w (MM φ h M0) x v:=by
 unfold qY at O;split at O
 ·rename_i y J;exact ⟨a.eval y,by simp [execOp,J],r.ev O⟩
 ·rename_i ty y J;obtain ⟨u,hu,rfl⟩:=Fe.1 O;obtain ⟨_,v,G,h3⟩:=O0 (P:=P) r hu;exact ⟨v,by simp [execOp,J,G],h3⟩
 ·rename_i s y f J;obtain ⟨u,hu,rfl⟩:=Fe.1 O;unfold Xr at hu;split at hu
  ·rename_i fields hs;split at hu
   ·rename_i fl hf;split at hu
    ·rename_i i hi;split at hu
     ·cases hu
     ·rename_i aa;split at hu
      ·rename_i b off Y;simp only [QO] at hu;subst hu;have G:=r.ev Y;simp only [Qe] at G;refine ⟨.pointer (some ⟨φ b,off+fl.offset,none⟩),?_,?_⟩
       ·simp [execOp,J,Instr.fieldAt,run_underlying hs,hf,G.1,Instr.sureAddr,fieldPlace,QX hi,aa,Addr.add_lit]
       ·simp only [Qe]; exact ⟨trivial,G.2⟩
      ·rename_i cs Y;split at hu
       ·rename_i ab;simp only [QO] at hu;subst hu;have G:=r.ev Y;simp only [Qe] at G;obtain ⟨rr,oo,h3,h4⟩:=G;refine ⟨.pointer (some ⟨rr,oo+fl.offset,none⟩),?_,?_⟩
        ·simp [execOp,J,Instr.fieldAt,run_underlying hs,hf,h3,Instr.sureAddr,fieldPlace,QX hi,aa,Addr.add_lit]
        ·simp only [Qe]; exact ⟨rr,oo+fl.offset,rfl,NH _ ab h4⟩
       ·cases hu
      ·cases hu
    ·cases hu
   ·cases hu
  ·cases hu
 ·rename_i y J;obtain ⟨u,hu,rfl⟩:=Fe.1 O;unfold UD at hu;split at hu
  ·rename_i b off Y;simp only [QO] at hu;subst hu;have G:=r.ev Y;refine ⟨a.eval y,?_,G⟩;simp only [Qe] at G;simp [execOp,J,G.1]
  ·rename_i cs Y;simp only [QO] at hu;subst hu;have G:=r.ev Y;refine ⟨a.eval y,?_,G⟩;simp only [Qe] at G;obtain ⟨rr,oo,h3,_⟩:=G;simp [execOp,J,h3]
  ·rename_i f l m Y;simp only [QO] at hu;subst hu;have G:=r.ev Y;refine ⟨a.eval y,?_,G⟩;simp only [Qe] at G;obtain ⟨l',m',h3,_⟩:=G;simp [execOp,J,h3]
  ·cases hu
 ·rename_i y i J;obtain ⟨u,hu,rfl⟩:=Fe.1 O;unfold FH at hu;split at hu
  ·rename_i vs Y;split at hu
   ·rename_i v Z;simp only [QO] at hu;subst hu;have G:=r.ev Y;simp only [Qe] at G;obtain ⟨l,h3,h4⟩:=G;obtain ⟨z,h5,h6⟩:=Uy h4 Z;exact ⟨z,by simp [execOp,J,Instr.extract,h3,h5],h6⟩
   ·cases hu
  ·cases hu
 ·rename_i op tx y z ty J;split at O
  ·rename_i k n k' m Y hy;have h1:=r.ev Y;have G:=r.ev hy;simp only [Qe,QI] at h1 G;split at O
   ·cases O
   rename_i hs;split at O
   ·rename_i hk;subst hk;obtain ⟨v,Z,rfl⟩:=Fe.1 O;refine ⟨v,?_,by simp [Qe,QI]⟩;cases op <;> first | (simp [GR] at hs; done) | (simp only [NI] at Z; first | (cases Z; done) | (simp only [QO] at Z; subst Z; simp [execOp,J,h1,G,eqGuard,binOp,Op.intArith,Op.intBits,Op.intCmp,Lm,fM,Qdb,wh,Qs,leI,Qp,bne]; done) | (by_cases hz:m=0 <;> simp only [hz,if_true,if_false] at Z <;> first | (cases Z; done) | (simp only [QO] at Z; subst Z; simp [execOp,J,h1,G,eqGuard,binOp,Op.intDiv,hz])))
   ·cases O
  ·cases O
 ·cases O
end
def wR:AV→Bool
 | .p (.val _)=>true
 | .ptr _ _=>true
 | _=>false
theorem nV {x:AV} {Y:Value} (O:wR x=true) (J:Qe φ h w M x v) (G:Qe φ h w M x Y):v=Y:=by
 unfold wR at O;split at O
 ·simp only [Qe,QI] at J G;rw [J,G]
 ·simp only [Qe] at J G;rw [J.1,G.1]
 ·cases O
def Qbg (h:QH) (x:AV):Prop:=wR x=true∨∃ S es t ty,x=.tsl S es t∧h t=some (.arr ty S es.length)∧0 < S
theorem yQ {x:AV} {v':Value} (hx:Qbg h x) (O:Qe φ h w M x v) (Z:Qe φ h w M x v'):v=v':=by
 rcases hx with hx | ⟨S,es,t,ty,rfl,ht,hS⟩
 ·exact nV hx O Z
 ·simp only [Qe] at O Z;obtain ⟨_,Aj,n1,a1,a2,a3⟩:=O;obtain ⟨_,Vz,n2,b1,b2,b3⟩:=Z;rw [ht] at a1 b1;cases a1;cases b1;rcases a3 rfl with ⟨_,Y,J⟩ | ⟨cap,c,Y,J,e3,_⟩ <;> rcases b3 rfl with ⟨_,f1,f2⟩ | ⟨G,c',f1,f2,f3,_⟩
  ·exact Y.trans f1.symm
  ·rw [J] at f2; cases f2
  ·rw [J] at f2; cases f2
  rw [J] at f2;cases f2;rw [e3] at f3;have:cap=G:=Nat.eq_of_mul_eq_mul_right hS f3;rw [Y,f1,this]
def RX (P:Program) (N:Nat) (ops:Array Oper):List Nat→St→Option St
 | [],s=>some s
 | i :: l,s=>match ops[i]? with
  | some o=>match qY P o (look s.T) (look s.H),o.dst with
   | some x,some d=>if d < N then RX P N ops l (s.put (some d) x) else none
   | _,_=>none
  | none=>none
def RY (ops:Array Oper):List Nat→Bool
 | []=>true
 | i :: l=>(match ops[i]? with
  | some o=>match o.dst with
   | some d=>!(o.looksAt ops).contains d&&l.all (fun j=>match (ops[j]?).bind (·.dst) with | some e=>!(o.looksAt ops).contains e&&e != d | none=>false)
   | none=>false
  | none=>false)&&RY ops l
def Qbh (ops:Array Oper) (H:List Nat) (t:Tmp):Prop:=∃ i ∈ H,(ops[i]?).bind (·.dst)=some t
theorem Oj {P:Program} {N:Nat} {D:DB} {φ:Nat→Nat} {M0:Zr} {ops:Array Oper} (aa:Region.noSelect ops=true):∀ (H:List Nat) (s s1:St) (a:Act) (w:World),RY ops H=true→RX P N ops H s=some s1→Q8 φ M0 N D (look s.T) (look s.H) a w →
  ∃ b,Q8 φ M0 N D (look s1.T) (look s1.H) b w∧look s1.H=look s.H∧Agree (Qbh ops H) a b∧∀ i ∈ H,∃ o d v,ops[i]?=some o∧o.dst=some d∧b.tmps[d]?=some v∧(execOp b.eval o).run P w=.ok (.value v) w
 | [],s,s1,a,w,_,h,r=>by
  simp only [RX,QO] at h;subst h;exact ⟨a,r,rfl,nT _ a,fun i hi=>by cases hi⟩
 | i :: H,s,s1,a,w,hp,h,r=>by
  simp only [RX] at h;cases ho:ops[i]? with
  | none=>rw [ho] at h; cases h
  | some o =>
   simp only [ho] at h;split at h
   ·rename_i x d hx hd;split at h;rotate_left
    ·cases h
    rename_i af;simp only [RY,ho,hd,Zf,Bool.not_eq_true'] at hp;obtain ⟨⟨ab,G⟩,ak⟩:=hp;obtain ⟨v,ah,ac⟩:=qZ r hx;have r1:=r.put (d:=some d) (fun t O=>by cases O; exact af) ac;obtain ⟨b,rb,hH,Y,ad⟩:=Oj aa H (s.put (some d) x) s1 (a.put (some d) v) w ak h r1
    have ae:∀ t ∈ o.looksAt ops,t ≠ d∧¬ Qbh ops H t:=by
     intro t O;refine ⟨fun e=>?_,?_⟩
     ·subst e; simp [O] at ab
     ·rintro ⟨j,Z,J⟩;have:=List.all_eq_true.1 G j Z;rw [J] at this;simp [O] at this
    have ai:¬ Qbh ops H d:=by
     rintro ⟨j,Z,J⟩;have:=List.all_eq_true.1 G j Z;rw [J] at this;simp at this
    have aj:d < a.tmps.size:=by rw [r.siz]; exact af
    refine ⟨b,rb,by rw [hH]; rfl,?_,?_⟩
    ·refine ⟨by rw [← Y.1]; rfl,by rw [← Y.2.1]; simp [Act.put],fun t O=>?_⟩;rw [← Y.2.2 t (fun hc=>O (by obtain ⟨j,Z,J⟩:=hc; exact ⟨j,List.mem_cons_of_mem _ Z,J⟩))];have:d ≠ t:=fun e=>O ⟨i,List.mem_cons_self,by rw [ho]; exact hd.trans (by rw [e])⟩
     simp [Act.put,Array.getElem?_setIfInBounds_ne this]
    ·intro j Z;rcases List.mem_cons.1 Z with rfl | Z
     ·refine ⟨o,d,v,ho,hd,?_,?_⟩
      ·rw [← Y.2.2 d ai];simp [Act.put,aj]
      ·rw [← ah];congr 1;have h1:execOp (a.put (some d) v).eval o=execOp a.eval o:=execOp_put o (fun cs b=>Region.noSelect_spec aa j o cs b ho) a (some d) v (fun t O hc=>by cases O; exact (ae d hc).1 rfl);rw [← h1];exact (X7 (ops:=ops) Y (fun cs b=>Region.noSelect_spec aa j o cs b ho) (fun t O=>(ae t O).2)).symm
     ·exact ad j Z
   ·cases h
def GG (P:Program) (ops:Array Oper) (i:Nat) (s:St):Prop :=
 match ops[i]? with
 | some o=>match o.op,o.dst with
  | .move x,some d=>True
  | _,some d=>∃ x,qY P o (look s.T) (look s.H)=some x∧look s.T d=some x∧Qbg (look s.H) x
  | _,none=>False
 | none=>False
def Jg (P:Program) (ops:Array Oper) (L:List Nat) (s:St):Prop:=∀ i ∈ L,GG P ops i s
def Jt:Nat→Array Oper→Nat→Nat→Bool
 | 0,_,_,_=>false
 | n+1,ops,j,i=>match ops[j]? with
  | some o=>o.after.toList.any fun e=>Region.binds .any e&&(e.on == i||Jt n ops e.on i)
  | none=>false
def X8 (ops:Array Oper) (L:List Nat) (c:Nat):List Nat:=L.filter fun i=>!Jt ops.size ops c i&&!Jt ops.size ops i c
def fO (P:Program) (N:Nat) (ops:Array Oper) (Q:AX→St→Prop) (L:List Nat):List (Nat × List Nat)→St→Prop
 | [],s=>Q .normal s
 | (c,hs) :: rest,s=>match ops[c]? with
  | some o=>X3 P N o s (fun s'=>Jg P ops (X8 ops L c) s'∧∃ G,RX P N ops hs s'=some G∧fO P N ops Q L rest G) Q
  | none=>False
theorem XM {ops:Array Oper} {listed:Array Bool} (J:∀ (j:Nat) o,ops[j]?=some o→listed.getD j false=true→∀ e ∈ o.after,Region.binds .any e=true→listed.getD e.on false=true):∀ (n j i:Nat) (o:Oper),ops[j]?=some o→(∀ e ∈ o.after,Region.binds .any e=true→listed.getD e.on false=true)→Jt n ops j i=true→listed.getD i false=true
 | 0,j,i,o,ho,hr,h=>by cases h
 | n+1,j,i,o,ho,hr,h=>by
  simp only [Jt,ho,List.any_eq_true,Zf,Bool.or_eq_true,beq_iff_eq] at h;obtain ⟨e,he,hb,G⟩:=h;have Z:=hr e (by simpa using he) hb;rcases G with G | G
  ·rw [← G]; exact Z
  ·cases ho2:ops[e.on]? with
   | none=>cases n <;> simp [Jt,ho2] at G
   | some o2=>exact XM J n e.on i o2 ho2 (fun e2 O Y=>J e.on o2 ho2 Z e2 O Y) G
def chainOk (ops:Array Oper):List Nat→Bool
 | []=>true
 | [_]=>true
 | c :: c' :: r=>(ops[c']?).any (waits · c)&&chainOk ops (c' :: r)
def MQ (ops:Array Oper) (L:List Nat):List Nat→List Nat→List (Nat × List Nat)→Bool
 | _,_,[]=>true
 | J,G,(c,hs) :: r=>G.all (fun i=>L.contains i||Jt ops.size ops c i)&&hs.all (fun i=>Jt ops.size ops i c)&&J.all (fun i=>!Jt ops.size ops i c)&&MQ ops L (J++hs) hs r
def q8 (H:List Nat) (Ch:List (Nat × List Nat)):List Nat:=H++(Ch.map (·.2)).flatten
def uN (H L:List Nat) (Ch:List (Nat × List Nat)) (ops:Array Oper):Bool :=
 (List.range ops.size).all (fun i=>(q8 H Ch).contains i||(Ch.map (·.1)).contains i)&&Region.noSelect ops&&RY ops (q8 H Ch)&&chainOk ops (Ch.map (·.1))&&decide (Ch.map (·.1)).Nodup&&(q8 H Ch).all (fun i=>!(Ch.map (·.1)).contains i) &&
 MQ ops L H H Ch&&ops.toList.all (fun o=>o.guard.isNone)&&Fg 0 ops.toList &&
 (q8 H Ch).all (fun i=>match (ops[i]?).bind (·.dst) with
  | some d=>(List.range ops.size).all fun j=>i == j||(match ops[j]? with | some G=>G.dst != some d&&(waits G i||!(G.looksAt ops).contains d) | none=>true)
  | none=>false) &&
 L.all (fun i=>match ops[i]? with | some o=>(match o.op with | .move _=>true | _=>false)&&(Ch.map (·.1)).all (fun c=>match (ops[c]?).bind (·.dst) with | some e=>!(o.looksAt ops).contains e | none=>true)||!(match o.op with | .move _=>true | _=>false) | none=>false)
theorem FU (h:waits o i=true):∃ e ∈ o.after,Region.binds .any e=true∧e.on=i:=by
 simp only [waits,List.any_eq_true,Zf,beq_iff_eq] at h;obtain ⟨e,J,G,O⟩:=h;exact ⟨e,by simpa using J,G,O⟩
theorem dV {b:Act} {X:Tmp→Prop} (h:Agree X a b) (O:∀ t,¬ X t):a=b:=by
 obtain ⟨G,Z,J⟩:=h;cases a with
 | mk Y da =>
  cases b with
  | mk tb db =>
   simp only at G J;subst G;congr 1;exact Array.ext_getElem? (fun i=>J i (O i))
def Xc (ops:Array Oper) (H:List Nat) (listed:Array Bool) (t:Tmp):Prop:=∃ i ∈ H,listed.getD i false=false∧(ops[i]?).bind (·.dst)=some t
theorem Bq {ops:Array Oper}:∀ (G:List Nat) (c c':Nat) (l2:List Nat),chainOk ops (G++c :: c' :: l2)=true→(ops[c']?).any (waits · c)=true
 | [],c,c',l2,h=>by
  simp only [List.nil_append,chainOk,Zf] at h;exact h.1
 | [x],c,c',l2,h=>by
  simp only [List.cons_append,List.nil_append,chainOk,Zf] at h;exact h.2.1
 | x :: y :: G,c,c',l2,h=>by
  simp only [List.cons_append,chainOk,Zf] at h;exact Bq (y :: G) c c' l2 h.2
theorem q9 {ops:Array Oper}:∀ (J l2:List Nat),RY ops (J++l2)=true→(∀ i ∈ J,∀ j ∈ l2,∃ o d,ops[i]?=some o∧o.dst=some d∧∀ e,(ops[j]?).bind (·.dst)=some e→e ∉ o.looksAt ops∧e ≠ d)∧RY ops l2=true
 | [],l2,h=>⟨(fun i hi=>by cases hi),h⟩
 | x :: J,l2,h=>by
  simp only [List.cons_append,RY,Zf] at h;obtain ⟨g1,g2⟩:=q9 J l2 h.2;refine ⟨fun i hi j Y=>?_,g2⟩;rcases List.mem_cons.1 hi with rfl | hi
  ·have G:=h.1;cases ho:ops[i]? with
   | none=>rw [ho] at G; cases G
   | some o =>
    rw [ho] at G;dsimp only at G;cases hd:o.dst with
    | none=>rw [hd] at G; cases G
    | some d =>
     rw [hd] at G;simp only [Zf] at G;refine ⟨o,d,rfl,hd,fun e Z=>?_⟩;have O:=List.all_eq_true.1 G.2 j (List.mem_append_right _ Y);rw [Z] at O;simp only [Zf,Bool.not_eq_true',bne_iff_ne] at O;refine ⟨fun hc=>?_,O.2⟩;have:=O.1;simp [hc] at this
  ·exact g1 i hi j Y
theorem za (O:ops[j]?=some o) (Y:o.dst=some d):∀ (l:List Nat),RY ops l=true→j ∈ l→d ∉ o.looksAt ops:=by
 intro l
 induction l with
 | nil=>intro _ h; cases h
 | cons x l G =>
  intro hp J;simp only [RY,Zf] at hp;rcases List.mem_cons.1 J with rfl | J
  ·have:=hp.1;simp only [O,Y,Zf,Bool.not_eq_true'] at this;intro hc;simp [hc] at this
  ·exact G hp.2 J
theorem NZ {ops:Array Oper}:∀ (J l2:List Nat),RY ops (J++l2)=true→RY ops J=true
 | [],_,_=>rfl
 | x :: J,l2,h=>by
  simp only [List.cons_append,RY,Zf] at h ⊢;refine ⟨?_,NZ J l2 h.2⟩;have G:=h.1;cases ho:ops[x]? with
  | none=>rw [ho] at G; cases G
  | some o =>
   rw [ho] at G;dsimp only at G ⊢;cases hd:o.dst with
   | none=>rw [hd] at G; cases G
   | some d =>
    rw [hd] at G;simp only [Zf,List.all_append] at G ⊢;exact ⟨G.1,G.2.1⟩
theorem Ig {ops:Array Oper} {L:List Nat}:∀ (Y J:List Nat) (Z:List (Nat × List Nat)),MQ ops L Y J Z=true→∀ c hs,(c,hs) ∈ Z→∀ i ∈ hs,Jt ops.size ops i c=true
 | _,_,[],_,c,hs,h,_,_=>by cases h
 | Y,J,(c0,G) :: r,h,c,hs,O,i,hi=>by
  simp only [MQ,Zf] at h;rcases List.mem_cons.1 O with e | O
  ·cases e;exact List.all_eq_true.1 h.1.1.2 i hi
  ·exact Ig (Y++G) G r h.2 c hs O i hi
def N7 (ops:Array Oper):List Tmp:=ops.toList.filterMap (·.dst)
def Ih (ops:Array Oper) (s:St):St:=⟨s.T.filter (fun p=>!(N7 ops).contains p.1),s.H⟩
theorem Br (f:Nat→Bool):∀ (T:List (Nat × AV)) (t:Nat) (x:AV),look (T.filter (fun p=>f p.1)) t=some x→look T t=some x∧f t=true
 | [],t,x,h=>by cases h
 | (k,v) :: T,t,x,h=>by
  simp only [List.filter_cons] at h;by_cases G:f k=true
  ·simp only [G,if_true,look] at h;simp only [look];by_cases e:k=t
   ·subst e; simp only [if_true] at h ⊢; exact ⟨h,G⟩
   ·simp only [e,if_false] at h ⊢; exact Br f T t x h
  ·simp only [G] at h;obtain ⟨O,J⟩:=Br f T t x (by simpa using h);simp only [look];have:k ≠ t:=fun e=>G (e ▸ J)
   simp only [this,if_false];exact ⟨O,J⟩
def qh {R:Type} (ops:Array Oper) (Q:R→AX→St→Prop):R→AX→St→Prop:=fun r x s=>match x with | .normal=>Q r .normal s | .panic v=>Q r (.panic v) (Ih ops s) | _=>False
theorem yR {b:Act} {X:Tmp→Prop} (h:Agree X a b) (G:∀ t,X t→t ∈ N7 ops) (r:Q8 φ M0 N D (look s.T) (look s.H) b w):Q8 φ M0 N D (look (Ih ops s).T) (look (Ih ops s).H) a w:=by
 refine ⟨?_,by rw [h.2.1]; exact r.siz,r.hp,fun t x O=>?_⟩
 ·have:=r.dfs;unfold Marks at this ⊢;rw [h.1];exact this
 ·obtain ⟨J,Y⟩:=Br (fun t=>!(N7 ops).contains t) s.T t x O;obtain ⟨g1,g2⟩:=r.tm t x J;refine ⟨g1,?_⟩
  have:a.tmps[t]?=b.tmps[t]?:=h.2.2 t (fun hc=>by
   have:=G t hc;simp [this] at Y)
  rw [Array.getD_eq_getD_getElem?,this,← Array.getD_eq_getD_getElem?];exact g2
theorem QdL {Qh:AX→St→Prop} {H L:List Nat} {Ch:List (Nat × List Nat)} (hok:uN H L Ch ops=true) (c3:∀ s,Qh .normal s→Q .normal s) (da:∀ v s,Qh (.panic v) s→Q (.panic v) (Ih ops s)) :
  ∀ (ac:Nat) (done ch:List (Nat × List Nat)) (ak Y:List Nat) (listed:Array Bool) (a b:Act) (w:World) (s:St) (φ:Nat→Nat),Ch=done++ch→Y=H++(done.map (·.2)).flatten→(∀ i ∈ Y,i ∉ L→i ∉ ak→listed.getD i false=true)→(∀ i ∈ ak,i ∈ Y)→MQ ops L Y ak ch=true→listed.size=ops.size→Og listed ops.size≤ac →
   (∀ (j:Nat) o,ops[j]?=some o→listed.getD j false=true→∀ e ∈ o.after,Region.binds .any e=true→listed.getD e.on false=true) →
   (∀ c ∈ done,listed.getD c.1 false=true)→(∀ c ∈ ch,listed.getD c.1 false=false)→Agree (Xc ops Y listed) a b→Q8 φ M0 N D (look s.T) (look s.H) b w→QW φ0 h0 w0 φ (look s.H) w →
   (∀ i ∈ Y,listed.getD i false=false→∃ o d v,ops[i]?=some o∧o.dst=some d∧b.tmps[d]?=some v∧(execOp b.eval o).run P w=.ok (.value v) w) →
   fO P N ops Qh L ch s→wpAny P .any ops (Post N D Q φ0 M0 h0 w0) ac listed a w:=by
 simp only [uN,Zf,decide_eq_true_eq] at hok;obtain ⟨⟨⟨⟨⟨⟨⟨⟨⟨⟨b9,bz⟩,a6⟩,ao⟩,ce⟩,ck⟩,c2⟩,c5⟩,bt⟩,bk⟩,c6⟩:=hok;have bh:∀ (listed:Array Bool) (i:Nat),i < listed.size→listed.getD i true=listed.getD i false:=fun listed i hi=>by simp [hi]
 have cy:∀ (X:Tmp→Prop) (a b:Act),Agree X a b→(∀ t,X t→t ∈ N7 ops)→∀ c w,Post N D Qh φ0 M0 h0 w0 (.panic c) b w→Post N D Q φ0 M0 h0 w0 (.panic c) a w:=by
  rintro X a b aa hX c w' ⟨φ',x,s',g1,g2,g3,g4⟩;cases x with
  | normal=>cases g4
  | exit i=>cases g4
  | ret=>cases g4
  | panic v=>exact ⟨φ', .panic v,Ih ops s',da _ _ g1,yR aa hX g2,g3,g4⟩
 have b7:∀ a w,¬ Post N D Qh φ0 M0 h0 w0 .outgrown a w:=fun a w h=>Ws ⟨a,w,h⟩
 have df:∀ (Y:List Nat) (listed:Array Bool) (t:Tmp),Xc ops Y listed t→t ∈ N7 ops:=by
  rintro Y listed t ⟨i,_,_,hd⟩;cases Z:ops[i]? with
  | none=>rw [Z] at hd; cases hd
  | some o =>
   rw [Z] at hd;exact List.mem_filterMap.2 ⟨o,by have:=Array.mem_of_getElem? Z; simpa using this,hd⟩
 have dt:∀ (j:Nat) o,ops[j]?=some o→o.guard=none:=by
  intro j o Z;have:=List.all_eq_true.1 c5 o (by have:=Array.mem_of_getElem? Z; simpa using this);simpa using this
 have bi:∀ (listed:Array Bool),listed.size=ops.size→Region.ready .any ops listed=[]→∀ i,i < ops.size→listed.getD i false=true:=by
  intro listed bd hr i
  induction i using Nat.strongRecOn with
  | _ i ih =>
   intro hi;cases hq:listed.getD i false with
   | true=>rfl
   | false =>
    have:i ∈ Region.ready .any ops listed:=by
     rw [mem_ready];refine ⟨by rw [bh listed i zo]; exact hq,ops[i],Array.getElem?_eq_getElem hi,fun e he hb=>?_⟩;have G:=VV bt i ops[i] (by simp [hi]) e he hb;exact ih e.on zo zo
    rw [hr] at this;cases this
 have bn:∀ (listed:Array Bool) (ch:List (Nat × List Nat)) (Y:List Nat) (a b:Act) (w:World) (s:St) (φ:Nat→Nat),(∀ i,i < ops.size→listed.getD i false=true)→(∀ c ∈ ch,listed.getD c.1 false=false)→Agree (Xc ops Y listed) a b →
   Q8 φ M0 N D (look s.T) (look s.H) b w→QW φ0 h0 w0 φ (look s.H) w→fO P N ops Qh L ch s→Post N D Q φ0 M0 h0 w0 .normal a w:=by
  intro listed ch Y a b w s φ O ad aa r E hx
  have c9:a=b:=dV aa (by
   rintro t ⟨i,hi,hl,hd⟩;cases Z:ops[i]? with
   | none=>rw [Z] at hd; cases hd
   | some o=>rw [O i (Ll.1 Z).1] at hl; cases hl)
  subst c9;cases ch with
  | nil=>exact ⟨φ, .normal,s,c3 _ hx,r,E,rfl⟩
  | cons c ch =>
   exfalso;obtain ⟨c,hs⟩:=c;simp only [fO] at hx;cases Z:ops[c]? with
   | none=>rw [Z] at hx; exact hx
   | some o =>
    have:=ad (c,hs) List.mem_cons_self;rw [O c (Ll.1 Z).1] at this;cases this
 intro ac
 induction ac with
 | zero =>
  intro done ch ak Y listed a b w s φ ab av bu bj aj bd hu al be ad aa r E J hx;have O:∀ i,i < ops.size→listed.getD i false=true:=fun i hi=>by rw [← bh listed i zo]; exact Bd (n:=ops.size) zo i hi
  refine ⟨List.eq_nil_iff_forall_not_mem.2 fun i hi=>?_,bn listed ch Y a b w s φ O ad aa r E hx⟩;obtain ⟨G,o,Z,_⟩:=mem_ready.1 hi;have cj:=(Ll.1 Z).1;rw [bh listed i zo,O i cj] at G;cases G
 | succ ac ih =>
  intro done ch ak Y listed a b w s φ ab av bu bj aj bd hu al be ad aa r E J hx;refine ⟨fun hr=>bn listed ch Y a b w s φ (bi listed bd hr) ad aa r E hx,fun j hj=>?_⟩;obtain ⟨cz,o,Z,O⟩:=mem_ready.1 hj;have aq:j < ops.size:=(Ll.1 Z).1;have ar:listed.getD j false=false:=by rw [← bh listed j zo]; exact cz
  have bq:∀ cs b,o.op ≠ .select cs b:=fun cs b=>Region.noSelect_spec bz j o cs b Z
  have bb:∀ tm,Region.wanted o (yielded ops tm)=true:=fun tm=>by simp [Region.wanted,dt j o Z]
  have an:∀ i ∈ Y,i ∈ q8 H Ch:=by
   intro i hi;rw [av] at hi;unfold q8;rw [ab,List.map_append,List.flatten_append,← List.append_assoc];exact List.mem_append_left _ hi
  have eL:∀ k,(listed.setIfInBounds j true).getD k false=(listed.getD k false||decide (k=j)):=by
   intro k;by_cases b4:k=j
   ·subst b4;have:k < listed.size:=by omega
    simp [this]
   ·rw [getD_set_ne false (Ne.symm b4)];simp [b4]
  have cq:Og (listed.setIfInBounds j true) ops.size≤ac:=by
   have:=Eg cz ops.size;rw [if_pos aq] at this;omega
  have br:∀ (k:Nat) ok,ops[k]?=some ok→(listed.setIfInBounds j true).getD k false=true→∀ e ∈ ok.after,Region.binds .any e=true→(listed.setIfInBounds j true).getD e.on false=true:=by
   intro k ok hk hl e he hb;rw [eL] at hl ⊢;simp only [Bool.or_eq_true,decide_eq_true_eq] at hl ⊢;rcases hl with hl | hl
   ·exact .inl (al k ok hk hl e he hb)
   ·subst hl;rw [Z] at hk;cases hk;exact .inl (O e he hb)
  have bp:∀ t ∈ o.looksAt ops,¬ Xc ops Y listed t∨∃ d,o.dst=some d∧t=d∧j ∈ Y:=by
   intro t ht;by_cases hc:Xc ops Y listed t;rotate_left
   ·exact .inl hc
   obtain ⟨i,hi,hl,hd⟩:=hc;have G:=List.all_eq_true.1 bk i (an i hi);rw [hd] at G;have h2:=List.all_eq_true.1 G j (by simp [aq]);simp only [Z,Bool.or_eq_true,beq_iff_eq,Zf,Bool.not_eq_true',bne_iff_ne] at h2;rcases h2 with rfl | ⟨_,h2 | h2⟩
   ·rw [Z] at hd;exact .inr ⟨t,hd,rfl,hi⟩
   ·obtain ⟨e,he,hb,b0⟩:=FU h2;have:=O e he hb;rw [b0,hl] at this;cases this
   ·simp [ht] at h2
  have bc:=List.all_eq_true.1 b9 j (by simp [aq]);simp only [Bool.or_eq_true,List.contains_iff_mem] at bc;by_cases af:j ∈ q8 H Ch
  ·
   have bg:j ∉ Ch.map (·.1):=by
    have:=List.all_eq_true.1 ck j af;simpa using this
   have ax:j ∈ Y:=by
    unfold q8 at af;rw [ab,List.map_append,List.flatten_append,← List.append_assoc] at af;rcases List.mem_append.1 af with G | G
    ·rw [av]; exact G
    ·exfalso;obtain ⟨hs,h2,h3⟩:=List.mem_flatten.1 G;obtain ⟨⟨c,c0⟩,h4,h5⟩:=List.mem_map.1 h2;simp only at h5;subst h5;have hw:=Ig Y ak ch aj c c0 h4 j h3;have:=XM al _ j c o Z O hw;rw [ad (c,c0) h4] at this;cases this
   obtain ⟨o',d,v,cm,hd,hv,co⟩:=J j ax ar;rw [Z] at cm;cases cm;have bv:d ∉ o.looksAt ops:=za Z hd (q8 H Ch) a6 af
   have bx:∀ t ∈ o.looksAt ops,¬ Xc ops Y listed t:=by
    intro t ht;rcases bp t ht with G | ⟨d',G,rfl,_⟩
    ·exact G
    ·rw [hd] at G;cases G;exact absurd ht bv
   unfold wpOp;simp only [Z,bb,if_true];refine .inl ?_;unfold Oper.wp;rw [X7 (ops:=ops) aa bq bx,co];simp only [Oper.upon];refine ih done ch ak Y (listed.setIfInBounds j true) (a.put o.dst v) b w s φ ab av (fun i hi G h2=>by rw [eL,bu i hi G h2]; rfl) bj aj (by simpa using bd) cq br (fun c hc=>by rw [eL,be c hc]; rfl) ?_ ?_ r E ?_ hx
   ·intro c hc;rw [eL,ad c hc];have:c.1 ≠ j:=fun e=>bg (by rw [ab,← e]; exact List.mem_map.2 ⟨c,List.mem_append_right _ hc,rfl⟩)
    simp [this]
   ·refine ⟨by rw [← aa.1,hd]; rfl,by rw [← aa.2.1,hd]; simp [Act.put],fun t ht=>?_⟩;rw [hd];by_cases b1:d=t
    ·subst b1
     have dh:d < a.tmps.size:=by
      rw [aa.2.1];exact (Ll.1 hv).1
     rw [hv];simp [Act.put,dh]
    ·rw [← aa.2.2 t (fun hc=>ht (by
      obtain ⟨i,hi,hl,ai⟩:=hc;refine ⟨i,hi,?_,ai⟩;rw [eL,hl];have:i ≠ j:=fun e=>b1 (by rw [e,Z] at ai; exact Option.some.inj (hd.symm.trans ai))
      simp [this]))]
     simp [Act.put,Array.getElem?_setIfInBounds_ne b1]
   ·intro i hi hl;refine J i hi ?_;rw [eL] at hl;simp only [Bool.or_eq_false_iff] at hl;exact hl.1
  ·
   have bg:j ∈ Ch.map (·.1):=bc.resolve_left af;have ax:j ∉ Y:=fun h=>af (an j h)
   have cw:∃ hs r,ch=(j,hs) :: r:=by
    have bo:=bg;rw [ab,List.map_append] at bo
    have c1:j ∈ ch.map (·.1):=by
     rcases List.mem_append.1 bo with G | G
     ·obtain ⟨c,hc,rfl⟩:=List.mem_map.1 G;rw [be c hc] at ar; cases ar
     ·exact G
    cases ch with
    | nil=>cases c1
    | cons c r =>
     obtain ⟨c,hs⟩:=c;by_cases cr:j=c
     ·exact ⟨hs,r,by rw [cr]⟩
     ·exfalso;have dj:j ∈ r.map (·.1):=(List.mem_cons.1 c1).resolve_left cr;obtain ⟨r1,r2,bl⟩:=List.append_of_mem dj;obtain ⟨q,x,cl⟩:∃ q x,c :: r1=q++[x]:=⟨(c :: r1).dropLast,(c :: r1).getLast zq,(List.dropLast_concat_getLast zq).symm⟩
      have de:Ch.map (·.1)=(done.map (·.1)++q)++x :: j :: r2:=by
       rw [ab,List.map_append,List.map_cons,bl,show c :: (r1++j :: r2)=(c :: r1)++j :: r2 from rfl,cl];simp
      rw [de] at ao;have G:=Bq _ _ _ _ ao;rw [Z] at G;obtain ⟨e,he,hb,b0⟩:=FU (o:=o) (i:=x) G;have h2:=O e he hb
      have dk:x ∈ ((c,hs) :: r).map (·.1):=by
       rw [List.map_cons,bl,show c :: (r1++j :: r2)=(c :: r1)++j :: r2 from rfl,cl]; simp
      obtain ⟨y,hy,rfl⟩:=List.mem_map.1 dk;have h3:=ad y hy;rw [b0,h3] at h2;cases h2
   obtain ⟨hs,rest,rfl⟩:=cw
   have b6:∀ t ∈ o.looksAt ops,¬ Xc ops Y listed t:=by
    intro t ht;rcases bp t ht with G | ⟨d',_,_,G⟩
    ·exact G
    ·exact absurd G ax
   have bm:∀ t,o.dst=some t→¬ Xc ops Y listed t:=by
    rintro t ht ⟨i,hi,hl,hd⟩;have G:=List.all_eq_true.1 bk i (an i hi);rw [hd] at G;have h2:=List.all_eq_true.1 G j (by simp [aq]);simp only [Z,Bool.or_eq_true,beq_iff_eq,Zf,Bool.not_eq_true',bne_iff_ne] at h2;rcases h2 with rfl | ⟨h2,_⟩
    ·exact ax hi
    ·exact h2 ht
   simp only [fO,Z] at hx;simp only [MQ,Zf] at aj;unfold wpOp;simp only [Z,bb,if_true];refine .inl ?_;have hw:=ME hx r;have dv:=Go.Abs.Oper.wp_mono2 (K':=fun a' w'=>∃ φ' s',(Jg P ops (X8 ops L j) s'∧∃ az,RX P N ops hs s'=some az∧fO P N ops Qh L rest az)∧Q8 φ' M0 N D (look s'.T) (look s'.H) a' w'∧QW φ (look s.H) w φ' (look s'.H) w') (Q':=Post N D Qh φ0 M0 h0 w0) hw (fun _ _ h=>h) (fun e a' w' p=>p.trans E);refine Oper.wp_mono ?_ (qX (ops:=ops) aa bq b6 bm (cy _ _ _ aa (df _ _)) b7 dv);rintro a' w' ⟨b',a8,b8,φ',s',⟨dw,az,b5,dl⟩,r',E'⟩
   have ay:∀ i ∈ Y,i ∉ L→listed.getD i false=true:=by
    intro i hi am;by_cases bf:i ∈ ak
    ·have G:=List.all_eq_true.1 aj.1.1.1 i bf;simp only [Bool.or_eq_true,List.contains_iff_mem] at G;rcases G with G | G
     ·exact absurd G am
     ·exact XM al _ j i o Z O G
    ·exact bu i hi am bf
   have a7:q8 H Ch=Y++(hs++(rest.map (·.2)).flatten):=by
    unfold q8;rw [ab,av,List.map_append,List.flatten_append,List.map_cons,List.flatten_cons,List.append_assoc]
   have au:=a6;rw [a7] at au;obtain ⟨dp,dm⟩:=q9 Y _ au;have dn:=NZ _ _ dm;obtain ⟨b2,rb,db,ah,cd⟩:=Oj bz hs s' az b' w' dn b5 r'
   have cp:∀ i ∈ hs,listed.getD i false=false∧i ≠ j:=by
    intro i hi;have hw:=List.all_eq_true.1 aj.1.1.2 i hi;refine ⟨?_,fun e=>af (by rw [a7,← e]; exact List.mem_append_right _ (List.mem_append_left _ hi))⟩;cases hq:listed.getD i false with
    | false=>rfl
    | true =>
     exfalso;obtain ⟨oi,_,_,ae,_⟩:=cd i hi;have:=XM al _ i j oi ae (fun e he hb=>al i oi ae hq e he hb) hw;rw [ar] at this;cases this
   have c7:∀ t,Qbh ops hs t→Xc ops (Y++hs) (listed.setIfInBounds j true) t:=by
    rintro t ⟨i,hi,hd⟩;refine ⟨i,List.mem_append_right _ hi,?_,hd⟩;rw [eL,(cp i hi).1];simp [(cp i hi).2]
   have du:∀ t,Xc ops Y listed t→Xc ops (Y++hs) (listed.setIfInBounds j true) t:=by
    rintro t ⟨i,hi,hl,hd⟩;refine ⟨i,List.mem_append_left _ hi,?_,hd⟩;rw [eL,hl];have:i ≠ j:=fun e=>ax (e ▸ hi)
    simp [this]
   refine ih (done++[(j,hs)]) rest hs (Y++hs) (listed.setIfInBounds j true) a' b2 w' az φ' (by rw [ab]; simp) (by rw [av,List.map_append,List.flatten_append]; simp) ?_ (fun i hi=>List.mem_append_right _ hi) aj.2 (by simpa using bd) cq br (fun c hc=>by
    rw [eL];rcases List.mem_append.1 hc with G | G
    ·rw [be c G]; rfl
    ·rw [List.mem_singleton] at G;simp [G]) ?_ ⟨a8.1.trans ah.1,a8.2.1.trans ah.2.1,fun t ht=>(a8.2.2 t (fun hc=>ht (du t hc))).trans (ah.2.2 t (fun hc=>ht (c7 t hc)))⟩ rb (by rw [db]; exact E.trans E') ?_ dl
   ·intro i hi am bf;rcases List.mem_append.1 hi with hi | hi
    ·rw [eL,ay i hi am]; rfl
    ·exact absurd hi bf
   ·intro c hc;rw [eL,ad c (List.mem_cons_of_mem _ hc)]
    have:c.1 ≠ j:=by
     intro e;rw [ab,List.map_append,List.map_cons] at ce;have h2:=(List.nodup_append.1 ce).2.1;exact (List.nodup_cons.1 h2).1 (List.mem_map.2 ⟨c,hc,e⟩)
    simp [this]
   ·intro i hi hl;rcases List.mem_append.1 hi with ba | di
    rotate_left
    ·exact cd i di
    rw [eL] at hl;simp only [Bool.or_eq_false_iff] at hl
    have am:i ∈ L:=by
     apply Classical.byContradiction;intro hc;rw [ay i ba hc] at hl;cases hl.1
    obtain ⟨oi,d,v,ae,ai,dd,cg⟩:=J i ba hl.1;have ca:b'.tmps[d]?=some v:=by rw [b8 d (fun e=>bm d e ⟨i,ba,hl.1,by rw [ae]; exact ai⟩)]; exact dd
    have cn:∀ t,t ∈ oi.looksAt ops∨t=d→¬ Qbh ops hs t:=by
     rintro t ht ⟨k,hk,c4⟩;obtain ⟨o2,d2,G,h2,h3⟩:=dp i ba k (List.mem_append_left _ hk);rw [ae] at G;cases G;rw [ai] at h2;cases h2;obtain ⟨h4,h5⟩:=h3 t c4;rcases ht with ht | ht
     ·exact h4 ht
     ·exact h5 ht
    have b3:∀ cs b,oi.op ≠ .select cs b:=fun cs b=>Region.noSelect_spec bz i oi cs b ae
    refine ⟨oi,d,v,ae,ai,by rw [← ah.2.2 d (cn d (.inr rfl))]; exact ca,?_⟩;rw [← X7 (ops:=ops) ah b3 (fun t ht=>cn t (.inl ht))]
    have dq:Jt ops.size ops j i=false:=by
     cases hq:Jt ops.size ops j i with
     | false=>rfl
     | true =>
      have:=XM al _ j i o Z O hq;rw [hl.1] at this;cases this
    have cx:Jt ops.size ops i j=false:=by
     have:=List.all_eq_true.1 aj.1.2 i ba;simpa using this
    have G:=dw i (List.mem_filter.2 ⟨am,by rw [dq,cx]; rfl⟩);unfold GG at G;simp only [ae] at G;split at G
    ·rename_i x d' aw bw
     have cc:b.eval x=v:=by
      simp [execOp,aw] at cg;exact cg
     have dc:b'.eval x=b.eval x:=by
      cases x with
      | tmp t =>
       have hne:o.dst ≠ some t:=by
        intro e;have h2:=List.all_eq_true.1 c6 i am;simp only [ae,aw,Bool.true_and,Bool.not_true,Bool.or_false] at h2;have h3:=List.all_eq_true.1 h2 j bg;simp only [Z,QE,e,Bool.not_eq_true'] at h3;have:t ∈ oi.looksAt ops:=List.mem_append_left _ (List.mem_filterMap.2 ⟨.tmp t,by simp [aw,Op.operands],rfl⟩);simp [this] at h3
       simp only [Act.eval];rw [Array.getD_eq_getD_getElem?,Array.getD_eq_getD_getElem?,b8 t hne]
      | _=>rfl
     simp [execOp,aw,dc,cc]
    ·rename_i d' bw aw;obtain ⟨x,h2,h3,h4⟩:=G;obtain ⟨v',h5,h6⟩:=qZ r' h2;rw [ai] at bw;cases bw;have h7:=(r'.tm d x h3).2;rw [Array.getD_eq_getD_getElem?,ca] at h7;have:=yQ h4 h6 h7;rw [h5,this];rfl
    ·cases G
theorem QgJ {R:Type} {r0:R} {Q:R→AX→St→Prop} (H L:List Nat) (Ch:List (Nat × List Nat)) (hm:P.follows .mixedOrders=true) (ac:UY ops=true) (hok:uN H L Ch ops=true) (h1:RX P N ops H s=some s1)
  (h:fO P N ops (qh ops Q r0) L Ch s1):Ex P N ro (.region id ops true) s (Q r0):=by
 intro φ M0 D a w r;refine wpIn_region_any hm (NN ac Ws _ _ _ _ ?_);have hd:QW φ (look s.H) w φ (look s.H) { w with drawn:=w.drawn+1 }:=BX rfl rfl rfl rfl;have r1:Q8 φ M0 N D (look s.T) (look s.H) a { w with drawn:=w.drawn+1 }:=r.keep hd (RB rfl) (SG (w:=w) rfl hd r.hp);have J:=hok;simp only [uN,Zf,decide_eq_true_eq] at J;obtain ⟨⟨⟨⟨⟨⟨⟨⟨⟨⟨ak,ae⟩,O⟩,ab⟩,ah⟩,aj⟩,G⟩,am⟩,ad⟩,ai⟩,al⟩:=J;obtain ⟨b,rb,hH,Y,hJ⟩:=Oj ae H s s1 a _ (NZ H _ O) h1 r1
 have Z:∀ (j:Nat),(Array.replicate ops.size false).getD j false=false:=by
  intro j;rcases Nat.lt_or_ge j ops.size with h | h
  ·simp [h]
  ·simp [h]
 have aa:∀ n,Og (Array.replicate ops.size false) n≤n:=by
  intro n
  induction n with
  | zero=>simp [Og]
  | succ n ih=>simp only [Og]; split <;> omega
 have h2:=QdL (D:=D) (φ0:=φ) (h0:=look s.H) (w0:=w) (M0:=M0) hok (Q:=Q r0) (Qh:=qh ops Q r0) (fun _ h=>h) (fun _ _ h=>h) ops.size [] Ch H H (Array.replicate ops.size false) a b { w with drawn:=w.drawn+1 } s1 φ rfl zq (fun i hi _ hc=>absurd hi hc) (fun i hi=>hi) G zq (aa _) (fun j o _ hj=>by rw [Z] at hj; cases hj) (fun c hc=>by cases hc) (fun c _=>Z c.1)
  ⟨Y.1,Y.2.1,fun t ht=>Y.2.2 t (fun hc=>ht (by obtain ⟨i,hi,af⟩:=hc; exact ⟨i,hi,Z i,af⟩))⟩ rb (by rw [hH]; exact hd) (fun i hi _=>hJ i hi) h
 refine XL ?_ _ _ _ _ h2;exact fun e a' w' h=>h
structure kH {R:Type} (a:Option R) (P:Program) (N:Nat) (ops:Array Oper) (Q:R→AX→St→Prop) (L:List Nat) (Ch:List (Nat × List Nat)) (s:St):Prop where
 intro ::
 h:∀ r,a=some r→fO P N ops (qh ops Q r) L Ch s
def fKh {R:Type} (P:Program) (N:Nat) (ops:Array Oper) (Q:R→AX→St→Prop) (L:List Nat) (Ch:List (Nat × List Nat)) (c:Nat) (hs:List Nat):R→St→Prop:=fun r s=>Jg P ops (X8 ops L c) s∧∃ G,RX P N ops hs s=some G∧fO P N ops (qh ops Q r) L Ch G
section
variable {R V E:Type} {a a1 a2:Option R} {P:Program} {N:Nat} {ro:Option Nat} {id:Nat} {ops:Array Oper} {o:Oper} {s s1 s':St} {Q:R→AX→St→Prop} {f:FuncId} {args args':List AV} {dst:Option Tmp} {L hs:List Nat} {Ch:List (Nat × List Nat)} {c i:Nat}
theorem KG (H L:List Nat) (Ch:List (Nat × List Nat)) (G:P.follows .mixedOrders=true) (O:UY ops=true)   (h:kH a P N ops Q L Ch ((RX P N ops H s).getD s))(hok:uN H L Ch ops=true:=by kernel_rfl)(J:(RX P N ops H s).isSome=true:=by kernel_rfl):QP a P N ro (.region id ops true) s Q:=by
 obtain ⟨s1,e⟩:=TD.1 J;rw [e] at h;exact ⟨fun r Y=>QgJ H L Ch G O hok e (h.h r Y)⟩
theorem Qg:Jg P ops [] s:=fun i hi=>by cases hi
theorem Qo (O:GG P ops i s) (J:Jg P ops L s):Jg P ops (i :: L) s:=fun j G=>by
 rcases List.mem_cons.1 G with rfl | G
 ·exact O
 ·exact J j G
def Qbi (ops:Array Oper) (i:Nat):Bool:=match ops[i]? with | some o=>(match o.op,o.dst with | .move _,some _=>true | _,_=>false) | none=>false
theorem MR (h:Qbi ops i=true):GG P ops i s:=by
 unfold Qbi at h;unfold GG;cases ho:ops[i]? with
 | none=>rw [ho] at h; cases h
 | some o =>
  rw [ho] at h;dsimp only at h ⊢;cases h1:o.op <;> rw [h1] at h <;> cases h2:o.dst <;> rw [h2] at h <;> first | (cases h; done) | trivial
theorem zb (x:AV) (h:(ops[i]?).bind (fun o=>o.dst.bind fun d=>(qY P o (look s.T) (look s.H)).bind fun y=>(look s.T d).map fun z=>(y,z))=some (x,x)) (hx:Qbg (look s.H) x):GG P ops i s:=by
 unfold GG;cases ho:ops[i]? with
 | none=>rw [ho] at h; cases h
 | some o =>
  rw [ho,QE] at h;cases hd:o.dst with
  | none=>rw [hd] at h; cases h
  | some d =>
   rw [hd,QE] at h;obtain ⟨y,hy,Z⟩:=Option.bind_eq_some_iff.1 h;obtain ⟨z,O,J⟩:=Fe.1 Z;simp only [Prod.mk.injEq] at J;obtain ⟨rfl,rfl⟩:=J;dsimp only;rw [hd];split
   ·trivial
   ·rename_i G Y;cases G;exact ⟨_,hy,O,hx⟩
   ·rename_i G; cases G
theorem QA (x:AV)  (G:wR x=true)(h:(ops[i]?).bind (fun o=>o.dst.bind fun d=>(qY P o (look s.T) (look s.H)).bind fun y=>(look s.T d).map fun z=>(y,z))=some (x,x):=by kernel_rfl):GG P ops i s:=zb x h (.inl G)
theorem Ju {S t ty:Nat}   (hS:Nat.ble 1 S=true)(h:(ops[i]?).bind (fun o=>o.dst.bind fun d=>(qY P o (look s.T) (look s.H)).bind fun y=>(look s.T d).map fun z=>(y,z))=some (.tsl S es t, .tsl S es t):=by kernel_rfl)(G:look s.H t=some (.arr ty S es.length):=by kernel_rfl):GG P ops i s:=zb _ h (.inr ⟨S,es,t,ty,rfl,G,Nat.le_of_ble_eq_true hS⟩)
theorem WK (h:Zv a Q .normal s):kH a P N ops Q L [] s:=⟨fun r G=>h.h r G⟩
theorem kh (G:List Nat)  (Z:Jg P ops G s)  (h:kH a P N ops Q L Ch ((RX P N ops hs s).getD s))(O:X8 ops L c=G:=by kernel_rfl)(J:(RX P N ops hs s).isSome=true:=by kernel_rfl):DW a (fKh P N ops Q L Ch c hs) s:=by
 obtain ⟨s1,e⟩:=TD.1 J;rw [e] at h;exact ⟨fun r Y=>⟨O ▸ Z,s1,e,h.h r Y⟩⟩
def RZ (P:Program) (N:Nat) (ops:Array Oper) (c:Nat) (s:St):Option St:=(ops[c]?).bind (fun o=>match o.op with | .pick ..=>none | .panic _=>none | .call ⟨.value _,_,_⟩=>none | _=>if KE N o.dst then (Jk P o (look s.T) (look s.H)).map (fun u=>XV s o.dst u) else none)
theorem Yx (L':List Nat)   (Y:Jg P ops L' ((RZ P N ops c s).getD s)) (h:kH a P N ops Q L Ch ((RZ P N ops c s).getD s))(hL:X8 ops L c=L':=by kernel_rfl)(h0:(RZ P N ops c s).isSome=true:=by kernel_rfl):kH a P N ops Q L ((c,[]) :: Ch) s:=by
 obtain ⟨s',G⟩:=TD.1 h0;rw [G] at Y h;simp only [Option.getD_some] at Y h;unfold RZ at G;refine ⟨fun r hr=>?_⟩;simp only [fO];cases ho:ops[c]? with
 | none=>rw [ho] at G; cases G
 | some o =>
  simp only [ho,QE] at G ⊢;unfold X3;split at G
  ·cases G
  ·cases G
  ·cases G
  ·rename_i n1 n2 n3;split at G;rotate_left
   ·cases G
   rename_i Z;obtain ⟨u,hu,rfl⟩:=Fe.1 G
   have key:qw N o s (fun s'=>Jg P ops (X8 ops L c) s'∧∃ J,RX P N ops [] s'=some J∧fO P N ops (qh ops Q r) L Ch J) (Jk P o (look s.T) (look s.H)):=by
    rw [hu];exact ⟨Z,hL ▸ Y,_,rfl,h.h r hr⟩
   split
   ·rename_i O; exact absurd O (n1 _ _ _)
   ·rename_i O; exact absurd O (n2 _)
   ·rename_i O; exact absurd O (n3 _ _ _)
   ·exact .inl key
theorem ZH   (h:NS a P N f args dst s (fKh P N ops Q L Ch c hs) (qh ops Q))(hf:(ops[c]?).bind (fun o=>(ZO (look s.T) o.op).map fun p=>(p.1,p.2,o.dst))=some (f,args,dst):=by kernel_rfl)(hb:Ye P f=true:=by kernel_rfl):kH a P N ops Q L ((c,hs) :: Ch) s:=by
 refine ⟨fun r Y=>?_⟩;simp only [fO];cases ho:ops[c]? with
 | none=>rw [ho] at hf; cases hf
 | some o =>
  simp only [ho,QE] at hf ⊢;obtain ⟨⟨f0,G⟩,O,J⟩:=Fe.1 hf;simp only [Prod.mk.injEq] at J;obtain ⟨rfl,rfl,rfl⟩:=J;exact XJ O hb (h.h r Y)
theorem uO {v:AV} (s':St) (e:Ih ops s=s') (h:Zv a Q (.panic v) s'):Zv a (qh ops Q) (.panic v) s:=by
 subst e;exact ⟨fun r G=>h.h r G⟩
theorem Af {b:Bool} (Y:List Nat) (Z:ops[c]?=some o)   (hu:b=true→Jk P o (look s.T) (look s.H)=some u) (hl:b=true→Jg P ops Y (XV s o.dst u)) (h:kH a P N ops Q L Ch (XV s o.dst u))(hL:X8 ops L c=Y:=by kernel_rfl)(hp:(plain o.op&&KE N o.dst)=true:=by kernel_rfl):kH (cond b a none) P N ops Q L ((c,[]) :: Ch) s:=by
 cases b with
 | false=>exact ⟨fun r O=>by cases O⟩
 | true =>
  refine ⟨fun r O=>?_⟩;simp only [Zf] at hp;simp only [fO,Z];unfold X3
  have key:qw N o s (fun s'=>Jg P ops (X8 ops L c) s'∧∃ G,RX P N ops [] s'=some G∧fO P N ops (qh ops Q r) L Ch G) (Jk P o (look s.T) (look s.H)):=by
   rw [hu rfl];exact ⟨hp.2,hL ▸ hl rfl,_,rfl,h.h r O⟩
  split
  ·rename_i J; rw [J] at hp; cases hp.1
  ·rename_i J; rw [J] at hp; cases hp.1
  ·rename_i J; rw [J] at hp; cases hp.1
  ·exact .inl key
theorem Qik {m:Option V} {k:V→Option R} {X:V→AV} {K:R→St→Prop} (C:List RoC) (hc:∀ v,m=some v→QC P f args' (.ret (X v))) (G:wQ (look s.H) C args=some args') (hb:(KE N dst&&YV args')=true) (Y:∀ v,flat (X v)=true)
  (h:∀ v,DW (k v) K (St.put s dst (X v))):NS (m.bind k) P N f args dst s K Q:=by
 refine ⟨fun r J=>?_⟩;obtain ⟨v,O,Z⟩:=Option.bind_eq_some_iff.1 J;simp only [Zf] at hb;exact wL (hc v O) (MO G) hb.2 (ZL hb.1) ⟨Y v,(h v).h r Z⟩
end
def Ey {K V:Type} (eq:K→K→Bool) (k:K):List (K × V)→Option V
 | []=>none
 | (k',v) :: r=>bif eq k k' then some v else Ey eq k r
def FW {K V:Type} (eq:K→K→Bool) (k:K) (v:V):List (K × V)→List (K × V)
 | []=>[(k,v)]
 | (k',G) :: r=>bif eq k k' then (k,v) :: r else (k',G) :: FW eq k v r
def Bt {K V:Type} (eq:K→K→Bool) (k:K) (z:V) (m:List (K × V)):V:=(Ey eq k m).getD z
def Qil {K V:Type} (eq:K→K→Bool) (k:K) (m:List (K × V)):Bool:=(Ey eq k m).isSome
def ze {K V:Type} (ke:K→Value) (ve:V→PV) (m:List (K × V)):List (Value × PV):=m.map fun p=>(ke p.1,ve p.2)
section
variable {P:Program} {o:Oper} {T:Nat→Option AV} {h:QH} {K V:Type} {kt e t:TypeId} {ke:K→Value} {ve:V→PV} {eq:K→K→Bool}
theorem wS (hk:∀ k,CX P kt (ke k)=true) (he:∀ a b,eqV P 4 kt (ke a) (ke b)=some (eq a b)) (k:K):∀ (m:List (K × V)) (i:Nat),
  (∃ j,Ut P kt (ke k) i (ze ke ve m)=some ((Ey eq k m).map fun v=>(j,ve v))∧(Ey eq k m ≠ none→∀ v,ze ke ve (FW eq k v m)=(ze ke ve m).set (j - i) (ke k,ve v)∧i≤j))∧(Ey eq k m=none→∀ v,ze ke ve (FW eq k v m)=ze ke ve m++[(ke k,ve v)])
 | [],i=>⟨⟨0,rfl,fun h=>absurd rfl h⟩,fun _ v=>rfl⟩
 | (k',G) :: m,i=>by
  obtain ⟨⟨j,h1,h2⟩,h3⟩:=wS hk he k m (i+1);have J:Ut P kt (ke k) i (ze ke ve ((k',G) :: m))=match (if CX P kt (ke k') then eqV P 4 kt (ke k) (ke k') else none) with | some true=>some (some (i,ve G)) | some false=>Ut P kt (ke k) (i+1) (ze ke ve m) | none=>none:=rfl
  have O:Ey eq k ((k',G) :: m)=bif eq k k' then some G else Ey eq k m:=rfl
  have Z:∀ v,FW eq k v ((k',G) :: m)=bif eq k k' then (k,v) :: m else (k',G) :: FW eq k v m:=fun _=>rfl
  rw [hk k',if_pos rfl,he] at J;cases hq:eq k k'
  ·rw [hq] at J O;simp only [hq,cond_false] at J O Z;rw [O];refine ⟨⟨j,by rw [J,h1],fun Y v=>?_⟩,fun Y v=>?_⟩
   ·obtain ⟨g1,g2⟩:=h2 Y v;refine ⟨?_,by omega⟩;rw [Z,show ze ke ve ((k',G) :: FW eq k v m)=(ke k',ve G) :: ze ke ve (FW eq k v m) from rfl,g1,show ze ke ve ((k',G) :: m)=(ke k',ve G) :: ze ke ve m from rfl,show j - i=(j - (i+1))+1 from by omega];rfl
   ·rw [Z,show ze ke ve ((k',G) :: FW eq k v m)=(ke k',ve G) :: ze ke ve (FW eq k v m) from rfl,h3 Y v];rfl
  ·rw [hq] at J O;simp only [hq,cond_true] at J O Z;rw [O];refine ⟨⟨i,J,fun _ v=>⟨?_,Nat.le_refl _⟩⟩,fun Y=>by cases Y⟩;rw [Z,Nat.sub_self];rfl
theorem QgK {rsv:Option Operand} (G:o.op=.makeMap t none) (J:o.dst=some d) (hb:h d=none):Jk P o T h=some (.mv d,some (d, .mp []),[d]):=by
 simp [Jk,G,CZ,J,hb]
theorem Qbj {m:List (K × V)} {k:K} {z0:V} (ho:o.op=.lookup t x ix ok) (ht:P.underlying t=some (.map kt e)) (hx:Zc T x=some (.mv b)) (hi:(Zc T ix).bind SH=some (ke k)) (hb:h b=some (.mp (ze ke ve m))) (aa:(P.underlying kt).isSome=true)
  (hk:∀ k,CX P kt (ke k)=true) (he:∀ a b,eqV P 4 kt (ke a) (ke b)=some (eq a b)) (hz:((P.info? e).bind (·.zero)).map zR=some (avP (ve z0))):Jk P o T h=some (C8 ok (avP (ve (Bt eq k z0 m))) (Qil eq k m),none,[b]):=by
 obtain ⟨kv,O,J⟩:=Option.bind_eq_some_iff.1 hi;obtain ⟨kd,Y⟩:=TD.1 aa;obtain ⟨z,Z,ab⟩:=Fe.1 hz;obtain ⟨⟨j,G,h2⟩,h3⟩:=wS (P:=P) (kt:=kt) (ke:=ke) (ve:=ve) (eq:=eq) hk he k m 0;unfold Bt Qil;cases hg:Ey eq k m with
 | none =>
  rw [hg] at G;simp only [Option.map_none] at G;simp [Jk,TF,ho,Xi,ht,hx,O,hb,J,Y,hk,G,Z,ab]
 | some v =>
  rw [hg] at G;simp only [Option.map_some] at G;simp [Jk,TF,ho,Xi,ht,hx,O,hb,J,Y,hk,G]
theorem Qbk {m:List (K × V)} {k:K} {v:V} (ho:o.op=.mapUpdate t x ix y) (ht:P.underlying t=some (.map kt e)) (hx:Zc T x=some (.mv b)) (hi:(Zc T ix).bind SH=some (ke k)) (hy:(Zc T y).bind pvO=some (ve v)) (hb:h b=some (.mp (ze ke ve m))) (ab:(P.underlying kt).isSome=true)
  (hk:∀ k,CX P kt (ke k)=true) (he:∀ a b,eqV P 4 kt (ke a) (ke b)=some (eq a b)):Jk P o T h=some (.p (.val undef),some (b, .mp (ze ke ve (FW eq k v m))),[b]):=by
 obtain ⟨kv,Z,O⟩:=Option.bind_eq_some_iff.1 hi;obtain ⟨kd,aa⟩:=TD.1 ab;obtain ⟨y0,J,Y⟩:=Option.bind_eq_some_iff.1 hy;obtain ⟨⟨j,G,h2⟩,h3⟩:=wS (P:=P) (kt:=kt) (ke:=ke) (ve:=ve) (eq:=eq) hk he k m 0;cases hg:Ey eq k m with
 | none =>
  rw [hg] at G;simp only [Option.map_none] at G;rw [h3 hg v];simp [Jk,TF,ho,YT,ht,hx,Z,J,Y,hb,O,aa,hk,G]
 | some v0 =>
  rw [hg] at G;simp only [Option.map_some] at G;rw [(h2 (by rw [hg]; simp) v).1];simp [Jk,TF,ho,YT,ht,hx,Z,J,Y,hb,O,aa,hk,G]
end
section
variable {R V E:Type} {a a1 a2:Option R} {P:Program} {N:Nat} {ro:Option Nat} {ops:Array Oper} {o:Oper} {l:List Oper} {s s' s0 s1:St} {Q:R→AX→St→Prop} {K:R→St→Prop} {f g:FuncId} {args args':List AV} {dst:Option Tmp}
def iR (hc:List (Nat × Blk)) (ρ:Nat→Nat) (s:St) (dst:Option Tmp) (K:R→St→Prop) (Q:R→AX→St→Prop) (r:R):ZB→QH→Prop:=fun x h'=>∃ hc',h'=look hc'∧FQ ρ hc hc' s.H∧Qa5 (K r) (Q r) s dst ρ hc' x
def dI (P:Program) (fn:Func) (hc:List (Nat × Blk)) (N:Nat) (g:FuncId) (G:List (Nat × Nat)) (ρ:Nat→Nat) (s:St) (dst:Option Tmp) (K:R→St→Prop) (Q:R→AX→St→Prop):R→AX→St→Prop :=
 fun r=>dP P fn hc N g (RP G) (iR hc ρ s dst K Q r)
def dW (T:List (Nat × AV)):List Tmp→List (Nat × Nat)→Bool
 | [],[]=>true
 | t :: ts,p :: L=>(match look T t with | some (.ptr b 0)=>b == p.1 | _=>false)&&dW T ts L
 | _,_=>false
theorem zf {T:List (Nat × AV)}:∀ {ts:List Tmp} {L:List (Nat × Nat)},dW T ts L=true→ts.map (look T)=L.map fun p=>some (.ptr p.1 0)
 | [],[],_=>rfl
 | [],_ :: _,h=>by cases h
 | _ :: _,[],h=>by cases h
 | t :: ts,p :: L,h=>by
  simp only [dW,Zf] at h;simp only [List.map_cons,List.cons.injEq];refine ⟨?_,zf h.2⟩;have G:=h.1;split at G
  ·rename_i b J;rw [J,eq_of_beq G]
  ·cases G
def QdM:List (Nat × Blk)→Bool
 | []=>true
 | (_,k) :: l=>(match k.ob with | none=>true | some .mp=>true | _=>false)&&QdM l
theorem uP {ρ:Nat→Nat}:∀ {H:List (Nat × Blk)},QdM H=true→∀ c k x,look H c=some k→k.ob=some x→(some x).map (kE ρ)=some x
 | [],_,c,k,x,G,_=>by simp [look] at G
 | (b,Z) :: H,J,c,k,x,G,Y=>by
  simp only [QdM,Zf] at J;simp only [look] at G;by_cases e:b=c
  ·simp only [e,if_true,QO] at G;subst G;have O:=J.1;rw [Y] at O;cases x with
   | mp=>rfl
   | lp=>cases O
  ·rw [if_neg e] at G;exact uP J.2 c k x G Y
def Qbl (tbs:List Tmp) (G:List (Nat × Nat)) (s:St):Bool:=dW s.T tbs G&&Qgz G s.H&&QdM s.H
theorem zg (L:List (Nat × Nat)) (C:List Conv) (cb:List (Nat × List Conv)) (F:MJ fn g) (J:List (Nat × Nat)) (hf:P.funcs[f]?=some fn) (hn:fn.ntmps=n) (hl:Nat.ble args'.length n=true)
  (G:qM C args=VC (VO L) args') (hok:JZ N dst (VO L) hc args'=true) (Z:RU s.H (VO L) cb hc=hc.map (fun p=>some (ZM (VO L) p.2))) (aa:Ye P g=true) (hm:P.follows .mixedOrders=true)
  {ops:Array Oper} (ab:F.r1=.region id ops false) (h1:(T9 P n ops false ⟨YW 0 args',hc⟩).isSome=true) (Y:Qbl F.tbs J (FR P n ops false ⟨YW 0 args',hc⟩)=true)
  (h:QP a P n none F.rest ⟨(F.tc, .fn (.func g) [] (RP J)) :: sgT J (FR P n ops false ⟨YW 0 args',hc⟩).T,uG J (FR P n ops false ⟨YW 0 args',hc⟩).H⟩ (dI P fn hc n g J (VO L) s dst K Q)):NS a P N f args dst s K Q:=by
 subst hn;refine ⟨fun r hr=>?_⟩;obtain ⟨s1,O⟩:=TD.1 h1;have e:FR P fn.ntmps ops false ⟨YW 0 args',hc⟩=s1:=by simp [FR,O]
 rw [e] at Y h;simp only [Qbl,Zf] at Y;simp only [JZ,Zf] at hok;obtain ⟨⟨⟨⟨k1,k2⟩,k3⟩,k4⟩,k5⟩:=hok
 have hA:KD P f args' (look hc) (iR hc (VO L) s dst K Q r):=by
  refine wN F J hf (Nat.le_of_ble_eq_true hl) aa ?_;rw [ab];exact ML hm O ⟨rfl,zf Y.1.1,Y.1.2,uP Y.2,h.h r hr⟩
 refine NQ (VO L) hA (G ▸ U1 C args) k2 (fun c hc=>by simpa using List.all_eq_true.1 k3 c hc) (RS k4) (UK Z) (UJ k5) (ZL k1) ?_;rintro x h' ⟨hc',rfl,hd,hk⟩;refine ⟨hc',Z9 (VO L) hc' s.H,rfl,hd,fun _=>rfl,?_⟩;cases x with
 | ret x=>exact hk
 | panic x=>exact hk
def clQ (P:Program) (Y:Func) (O:List (Nat × Blk)) (G:Nat→Nat) (s:St) (J:R→AX→St→Prop):R→AX→St→Prop :=
 fun r=>Qfc P Y O (fun x h'=>∃ hc',h'=look hc'∧FQ G O hc' s.H∧(match x with | .ret _=>J r .ret ⟨s.T,Z9 G hc' s.H⟩ | .panic _=>False))
def Qim:AX→AV
 | .panic v=>v
 | _=>Aa
def Qko:AX→Bool
 | .exit _=>true
 | _=>false
theorem wU {LD:List (Nat × Nat)} {x:AX} (Y:Fj P g) (Z:List (Nat × Nat)) (J:List (Nat × Blk)) (O:AV) (G:List AV) (cb:List (Nat × List Conv)) (hx:Qko x=false) (hl:Nat.ble G.length Y.fn.ntmps=true)
  (aa:Qim x :: RP LD=VC (VO Z) (O :: G)) (hok:JZ N none (VO Z) J (O :: G)=true) (ab:RU s.H (VO Z) cb J=J.map (fun p=>some (ZM (VO Z) p.2)))
  (h:QP a P Y.fn.ntmps none Y.rest ⟨(Y.d2,O) :: (Y.d1,O) :: YW 0 G,J⟩ (clQ P Y.fn J (VO Z) s (uL P fn hc ρ s0 dst K Q))):Zv a (dI P fn hc N g LD ρ s0 dst K Q) x s:=by
 refine ⟨fun r hr=>?_⟩;simp only [JZ,Zf] at hok;obtain ⟨⟨⟨⟨k1,k2⟩,k3⟩,k4⟩,k5⟩:=hok
 have key:DEx P N g (Qim x :: RP LD) s (Bf P fn hc (iR hc ρ s0 dst K Q r)):=by
  refine lv (VO Z) (uF Y (Nat.le_of_ble_eq_true hl) (h.h r hr)) (by rw [aa]; exact uz _) k2 (fun c hc=>by simpa using List.all_eq_true.1 k3 c hc) (RS k4) (UK ab) (UJ k5) ?_;rintro y h' ⟨hc',rfl,hd,hk⟩;refine ⟨hc',Z9 (VO Z) hc' s.H,rfl,hd,fun _=>rfl,?_⟩;cases y with
  | ret y=>exact hk
  | panic y=>exact hk
 cases x with
 | normal=>exact key
 | ret=>exact key
 | panic v=>exact key
 | exit i=>cases hx
theorem Qbm {Y:Func} {O:List (Nat × Blk)} {G:Nat→Nat} {J:R→AX→St→Prop} {x:AX} (hx:x=.ret∨x=.normal) (bs:List Nat) (cb:List (Nat × List Conv)) (h:TY P Y (look s1.T) (look s1.H)=some (.tup []))
  (hok:Nn G O (K5 cb s1.H bs) s (.tup [])=true) (Z:Zv a J .ret ⟨s.T,Z9 G (K5 cb s1.H bs) s.H⟩):Zv a (clQ P Y O G s J) x s1:=by
 simp only [Nn,Bj,Zf] at hok;refine ⟨fun r hr=>?_⟩
 have:Bf P Y O (fun x h'=>∃ hc',h'=look hc'∧FQ G O hc' s.H∧(match x with | .ret _=>J r .ret ⟨s.T,Z9 G hc' s.H⟩ | .panic _=>False)) s1 :=
  ⟨_,_,K5 cb s1.H bs,h,le_refl _,hok.1.1.1,Y7 hok.1.1.2,hok.1.2,_,rfl,X6 hok.2,Z.h r hr⟩
 rcases hx with rfl | rfl <;> exact this
theorem Qbn {Y:Func} {O:List (Nat × Blk)} {G:Nat→Nat} {J:R→AX→St→Prop} (bs:List Nat) (cb:List (Nat × List Conv)) (h:TY P Y (look s1.T) (look s1.H)=some (.tup []))
  (hok:Nn G O (K5 cb s1.H bs) s (.tup [])=true) (Z:Zv a J .ret ⟨s.T,Z9 G (K5 cb s1.H bs) s.H⟩):Zv a (clQ P Y O G s J) .ret s1:=Qbm (.inl rfl) bs cb h hok Z
theorem Qin {Y:Func} {O:List (Nat × Blk)} {G:Nat→Nat} {J:R→AX→St→Prop} (bs:List Nat) (cb:List (Nat × List Conv)) (h:TY P Y (look s1.T) (look s1.H)=some (.tup []))
  (hok:Nn G O (K5 cb s1.H bs) s (.tup [])=true) (Z:Zv a J .ret ⟨s.T,Z9 G (K5 cb s1.H bs) s.H⟩):Zv a (clQ P Y O G s J) .normal s1:=Qbm (.inr rfl) bs cb h hok Z
end
section
variable {R V:Type} {a a1 a2:Option R} {P:Program} {N:Nat} {ro:Option Nat} {c:Code} {s s' s1:St} {Q:R→AX→St→Prop}
def rdV (P:Program) (N:Nat) (ro:Option Nat) (c:Code):Nat→(AX→St→Prop)→AX→St→Prop
 | 0,Q=>andThen (fun _=>False) Q
 | k+1,Q=>andThen (fun s'=>Ex P N ro c s' (rdV P N ro c k Q)) Q
def rdU (P:Program) (N:Nat) (ro:Option Nat) (c:Code) (k:Nat) (Q:R→AX→St→Prop):R→AX→St→Prop:=fun r=>rdV P N ro c k (Q r)
theorem lS {Q:AX→St→Prop}:∀ (k:Nat) (s:St) (φ:Nat→Nat) (a:Act) (w:World),Ex P N ro c s (rdV P N ro c k Q)→Q8 φ M0 N D (look s.T) (look s.H) a w→QW φ0 h0 w0 φ (look s.H) w →
  Code.roundsIn (wd ro) 0 P c (Post N D Q φ0 M0 h0 w0) (k+1) a w:=by
 intro k
 induction k with
 | zero =>
  intro s φ a w h r E;rw [roundsIn_succ];refine wpIn_mono (h φ M0 D a w r) ?_;rintro e Z w' ⟨φ',x,s',J,r',O,G⟩;cases x with
  | normal=>exact J.elim
  | ret=>simp only [J7] at G; subst G; exact ⟨φ', .ret,s',J,r',E.trans O,rfl⟩
  | exit i=>simp only [J7] at G; subst G; exact ⟨φ', .exit i,s',J,r',E.trans O,rfl⟩
  | panic p=>obtain ⟨v,rfl,Y⟩:=G; exact ⟨φ', .panic p,s',J,r',E.trans O,v,rfl,Y⟩
 | succ k ih =>
  intro s φ a w h r E;rw [roundsIn_succ];refine wpIn_mono (h φ M0 D a w r) ?_;rintro e Z w' ⟨φ',x,s',J,r',O,G⟩;cases x with
  | normal=>simp only [J7] at G; subst G; exact ih s' φ' Z w' J r' (E.trans O)
  | ret=>simp only [J7] at G; subst G; exact ⟨φ', .ret,s',J,r',E.trans O,rfl⟩
  | exit i=>simp only [J7] at G; subst G; exact ⟨φ', .exit i,s',J,r',E.trans O,rfl⟩
  | panic p=>obtain ⟨v,rfl,Y⟩:=G; exact ⟨φ', .panic p,s',J,r',E.trans O,v,rfl,Y⟩
theorem nW:QW φ h w φ h w:=BX rfl rfl rfl rfl
theorem Z7 (k:Nat) (h:QP a P N ro c s (rdU P N ro c k Q)):QP a P N ro (.loop c) s Q :=
 ⟨fun r J φ M0 D a w G=>wpIn_loop_rounds (k+1) (lS k s φ a w (h.h r J) G nW)⟩
theorem N8 (K:Lp) (s':St) {k:Nat}  (h:QP a P N ro c s' (rdU P N ro c k Q))(G:L8 K s=some s':=by kernel_rfl):Zv a (rdU P N ro c (k+1) Q) .normal s:=⟨fun r J=>(sP (Q:=rdU P N ro c k Q) K s' G h).h r J⟩
theorem M5 {k:Nat} (h:Zv a Q (.exit i) s):Zv a (rdU P N ro c k Q) (.exit i) s:=⟨fun r G=>by cases k <;> exact h.h r G⟩
theorem Qio {k:Nat} (h:Zv a Q (.panic p) s):Zv a (rdU P N ro c k Q) (.panic p) s:=⟨fun r G=>by cases k <;> exact h.h r G⟩
end
def lT (M:Zr) (k:Nat):Zr:=fun r o=>M r o∨r=k
theorem Ag (φ:Nat→Nat) (h:QH) (w:World):VR φ h w φ h w:=RB rfl
theorem Qbo {J:Zr} (hs:∀ r o,M0 r o→J r o) (r:Q8 φ J N D T h a w):Q8 φ M0 N D T h a w:=by
 have Y:∀ r o v,w.cell? ⟨r,o,none⟩=some v→¬ MM φ h J r o→w.cell? ⟨r,o,none⟩=some v∧¬ MM φ h M0 r o:=fun r o v hc G=>⟨hc,fun x=>G (x.imp id (hs r o))⟩
 exact ⟨r.dfs,r.siz,⟨r.hp.inj,fun b k hb=>ZI Y (Ag φ h w) rfl (r.hp.blk b k hb),fun b hb o G=>r.hp.fr b hb o (hs _ _ G),fun x o Z=>r.hp.lt x o (hs _ _ Z),r.hp.gm.sub fun x o G=>G.imp id (hs x o)⟩,
  fun t x O=>⟨(r.tm t x O).1,(QJ Y (Ag φ h w)).1 _ _ (r.tm t x O).2⟩⟩
theorem lU {G:Zr} {e:Exit} {O:Act} (hs:∀ r o,M0 r o→G r o) (p:Post N D Q φ G h w e O w'):Post N D Q φ M0 h w e O w':=by
 obtain ⟨φ',x,s',Y,h2,h3,J⟩:=p;refine ⟨φ',x,s',Y,Qbo hs h2,h3,?_⟩;cases x with
 | panic v =>
  obtain ⟨u,e1,e2⟩:=J;exact ⟨u,e1,(QJ (fun r o v hc Z=>⟨hc,fun x=>Z (x.imp id (hs r o))⟩) (Ag _ _ _)).1 _ _ e2⟩
 | _=>exact J
theorem yS {ob:Obj} (r:Zz φ h w M0) (hC:Clear φ h w 1):QW φ h w φ h (w.alloc ob)∧VR φ h w φ h (w.alloc ob):=by
 have G:∀ x,x < w.heap.size→(w.alloc ob).heap[x]?=w.heap[x]?:=fun x Y=>by show (w.heap.push ob)[x]?=_; rw [Array.getElem?_push,if_neg zo]
 have hs:(w.alloc ob).heap.size≤w.heap.size+1:=by show (w.heap.push ob).size≤_; simp
 have O:∀ b k,h b=some k→(w.alloc ob).heap[φ b]?=w.heap[φ b]?:=fun b k hb=>hC.lt r hs G (by rw [hb]; simp)
 refine ⟨⟨rfl,rfl,rfl,by show _≤(w.heap.push ob).size; simp,fun x Y _=>G x Y,fun x o Y _=>by simp [World.cell?,G x Y],fun _ _ _ x=>x,fun _ _ _ _ x=>⟨⟨_,x⟩,rfl⟩,?_,?_,fun _ _ _ _ Z h2=>⟨⟨_,Z,h2⟩,rfl⟩⟩,?_,?_,?_,fun _ _ _ Z h2=>⟨⟨_,Z,h2⟩,rfl⟩⟩
 ·exact fun t ty S n _ hc=>⟨n,hc,Nat.le_refl _,fun _=>Yp rfl (O _ _ hc)⟩
 ·exact fun t ty S n _ hc=>⟨n,hc,Nat.le_refl _,fun _=>⟨rfl,fun c J=>⟨c,by rw [O _ _ hc]; exact J,rfl⟩⟩⟩
 ·exact fun b ty cs hc=>⟨⟨ty,cs,hc⟩,rfl⟩
 ·exact fun t ty S n hc=>⟨n,hc,Nat.le_refl _,fun _=>Yp rfl (O _ _ hc)⟩
 ·exact fun t ty S n hc=>⟨n,hc,Nat.le_refl _,fun _=>⟨rfl,fun c J=>⟨c,by rw [O _ _ hc]; exact J,rfl⟩⟩⟩
theorem lV {b:Act} {ob:Obj} {d:Tmp} (r:Q8 φ M0 N D T h b w) (hT:T d=none) (hC:Clear φ h w 1):Q8 φ (lT M0 w.heap.size) N D T h (b.put (some d) v) (w.alloc ob):=by
 obtain ⟨E,X⟩:=yS (ob:=ob) r.hp hC
 have hk:∀ x o u,w.cell? ⟨x,o,none⟩=some u→¬ MM φ h M0 x o→(w.alloc ob).cell? ⟨x,o,none⟩=some u∧¬ MM φ h (lT M0 w.heap.size) x o:=by
  intro x o u hc G;have O:=BV hc;obtain ⟨Z,h2⟩:=E.keeps M0 x o u hc G;refine ⟨Z,fun J=>?_⟩;rcases J with J | J | J
  ·exact G (.inl J)
  ·exact G (.inr J)
  ·omega
 have Y:∀ x,x < w.heap.size→(w.alloc ob).heap[x]?=w.heap[x]?:=fun x O=>by show (w.heap.push ob)[x]?=_; rw [Array.getElem?_push,if_neg zo]
 refine ⟨r.dfs.keep E,by simp [Act.put,r.siz],⟨r.hp.inj,fun c k hb=>ZI hk X (hC.lt r.hp (w':=w.alloc ob) (by show (w.heap.push ob).size≤_; simp) Y (by rw [hb]; simp)) (r.hp.blk c k hb),?_,?_,(r.hp.gm.evol E).w,fun g hg o G=>G.elim (fun G=>r.hp.gm.m g hg o (.inl G)) (fun G=>G.elim (fun G=>r.hp.gm.m g hg o (.inr G)) (fun e=>by have:=vS r.hp.gm.w g hg; omega))⟩,?_⟩
 ·intro c hc o G;rcases G with G | G
  ·exact r.hp.fr c hc o G
  ·rcases hC c hc with Z | Z <;> omega
 ·intro x o O;show x < (w.heap.push ob).size;rw [Array.size_push];rcases O with O | O
  ·have:=r.hp.lt x o O; omega
  ·omega
 ·intro t x ht;refine ⟨(r.tm t x ht).1,?_⟩;have hne:¬ d=t:=fun e=>by rw [e,ht] at hT; cases hT
  have:(b.put (some d) v).tmps.getD t undef=b.tmps.getD t undef:=by simp [Act.put,Array.getElem?_setIfInBounds_ne hne]
  rw [this];exact (QJ hk X).1 _ _ (r.tm t x ht).2
theorem nX {b:Act} {k ty:Nat} {i:TypeInfo} (r:Q8 φ (lT M0 k) N D (look s.T) (look s.H) b w) (E:QW φ0 h0 w0 φ (look s.H) w)
  (ai:w0.heap.size≤k) (ad:∀ x,¬ M0 k x) (ae:o.op=.alloc ty) (hd:o.dst=some d) (hi:P.info? ty=some i) (hz:i.zero=some z) (hN:d < N) (hb:b.tmps[d]?=some (.pointer (some ⟨k,0,none⟩))) (hw:w.heap[k]?=some (.cells z.cells ty (0,0)))
  (hu:Jk P o (look s.T) (look s.H)=some u) :
  Q8 (Qu φ d k) M0 N D (look (XV s o.dst u).T) (look (XV s o.dst u).H) b w∧QW φ0 h0 w0 (Qu φ d k) (look (XV s o.dst u).H) w:=by
 simp only [Jk,ae,hi,hz,zX,hd] at hu;cases hcs:cellsOf (zR z) with
 | none=>rw [hcs] at hu; cases hu
 | some cs =>
  rw [hcs] at hu;dsimp only at hu;cases hn:look s.H d with
  | some x=>rw [hn] at hu; cases hu
  | none =>
   rw [hn] at hu;dsimp only at hu;cases hu;have hT:∀ t,look (XV s o.dst (.ptr d 0,some (d, .box ty cs),[d])).T t=if d=t then some (.ptr d 0) else look s.T t:=fun t=>by simp [XV,hd,look]
   have hH:look (XV s o.dst (.ptr d 0,some (d, .box ty cs),[d])).H=upd (look s.H) d (.box ty cs):=by funext c; simp [XV,look,upd]
   rw [hH];have hne:∀ c q,look s.H c=some q→¬ d=c:=fun c q hc e=>by rw [e] at hn; rw [hn] at hc; cases hc
   have aa:∀ c,look s.H c ≠ none→φ c ≠ k:=fun c hc e=>r.hp.fr c hc 0 (.inr e)
   have ac:∀ x y,MM (Qu φ d k) (upd (look s.H) d (.box ty cs)) M0 x y→MM φ (look s.H) (lT M0 k) x y:=by
    rintro x y (⟨c,q,G,O,J⟩ | h)
    ·by_cases e:d=c
     ·simp only [Qu,e,if_true] at O;exact .inr (.inr O.symm)
     ·simp only [upd,Qu,e,if_false] at G O;exact .inl ⟨c,q,G,O,J⟩
    ·exact .inr (.inl h)
   have X:VR φ (look s.H) w (Qu φ d k) (upd (look s.H) d (.box ty cs)) w:=by
    refine ⟨fun c Z cs' hc=>?_,fun t Z S n hc=>?_,fun t Z S n hc=>?_,fun c k' x hc ho=>?_⟩
    ·have:=hne c _ hc;exact ⟨⟨Z,cs',by simp [upd,this,hc]⟩,by simp [Qu,this]⟩
    ·have:=hne t _ hc;exact ⟨n,by simp [upd,this,hc],Nat.le_refl _,fun _=>Yp (by simp [Qu,this]) rfl⟩
    ·have:=hne t _ hc;exact ⟨n,by simp [upd,this,hc],Nat.le_refl _,fun _=>⟨by simp [Qu,this],fun c ah=>⟨c,ah,rfl⟩⟩⟩
    ·have:=hne c _ hc;exact ⟨⟨k',by simp [upd,this,hc],ho⟩,by simp [Qu,this]⟩
   have ab:∀ x y v,w.cell? ⟨x,y,none⟩=some v→¬ MM φ (look s.H) (lT M0 k) x y→w.cell? ⟨x,y,none⟩=some v∧¬ MM (Qu φ d k) (upd (look s.H) d (.box ty cs)) M0 x y:=fun x y v hc hm=>⟨hc,fun hh=>hm (ac x y hh)⟩
   refine ⟨⟨?_,r.siz,⟨?_,?_,?_,fun x y hx=>r.hp.lt x y (.inl hx),r.hp.gm.sub ac⟩,?_⟩,?_⟩
   ·obtain ⟨g0,ms,g1,g2,g3⟩:=r.dfs;refine ⟨g0,ms,g1,g2,fun x hx=>?_⟩;obtain ⟨g4,g5,g6⟩:=g3 x hx;refine ⟨g4,g5,fun c hc e=>?_⟩;by_cases ec:d=c
    ·simp only [Qu,ec,if_true] at e;rw [← e,hw] at g5;cases g5
    ·simp only [upd,Qu,ec,if_false] at hc e;exact g6 c hc e
   ·intro c c' hc hc' e;by_cases e1:d=c <;> by_cases e2:d=c'
    ·exact e1.symm.trans e2
    ·simp only [Qu,e1,if_true] at e;have e3:¬ c=c':=fun x=>e2 (e1.trans x)
     simp only [e3,if_false] at e;simp only [upd,e2,if_false] at hc';exact absurd e.symm (aa c' hc')
    ·simp only [Qu,e2,if_true] at e;have e3:¬ c'=c:=fun x=>e1 (e2.trans x)
     simp only [e3,if_false] at e;simp only [upd,e1,if_false] at hc;exact absurd e (aa c hc)
    ·simp only [upd,Qu,e1,e2,if_false] at hc hc' e;exact r.hp.inj c c' hc hc' e
   ·intro c q hc;by_cases e:d=c
    ·have O:q=.box ty cs:=by simp only [upd,e,if_true,QO] at hc; exact hc.symm
     have J:Qu φ d k c=k:=by simp [Qu,e]
     rw [O,J];exact ⟨z.cells,hw,(QJ ab X).2 _ _ (Vi hcs (Wp z)).1⟩
    ·have G:look s.H c=some q:=by simpa [upd,e] using hc
     have J:Qu φ d k c=φ c:=by simp [Qu,e]
     rw [J];exact ZI ab X rfl (r.hp.blk c q G)
   ·intro c hc y hm;by_cases e:d=c
    ·have J:Qu φ d k c=k:=by simp [Qu,e]
     rw [J] at hm;exact ad _ hm
    ·have J:Qu φ d k c=φ c:=by simp [Qu,e]
     rw [J] at hm;exact r.hp.fr c (by simpa [upd,e] using hc) y (.inl hm)
   ·intro t x Y;rw [hT] at Y;by_cases e:d=t
    ·simp only [e,if_true,QO] at Y;subst Y;refine ⟨e ▸ hN,?_⟩;subst e;rw [Array.getD_eq_getD_getElem?,hb];simp only [Qe,Option.getD_some];exact ⟨by simp [Qu],ty,cs,by simp [upd]⟩
    ·simp only [e,if_false] at Y;exact ⟨(r.tm t x Y).1,(QJ ab X).1 _ _ (r.tm t x Y).2⟩
   ·refine ⟨E.os,E.tape,E.output,E.size,E.same,E.cell,?_,?_,?_,?_,?_⟩
    ·rintro x y hx ⟨c,q,G,O,J⟩;by_cases e:d=c
     ·simp only [Qu,e,if_true] at O; omega
     ·simp only [upd,Qu,e,if_false] at G O; exact E.mu x y hx ⟨c,q,G,O,J⟩
    ·intro c Z cs' hc hb;obtain ⟨⟨af,G⟩,O⟩:=E.kb c Z cs' hc hb;have:=hne c _ G;exact ⟨⟨af,by simp [upd,this,G]⟩,by simp [Qu,this,O]⟩
    ·intro t Z S n Y hb;obtain ⟨n',G,O,J⟩:=E.kt t Z S n Y hb;have:=hne t _ G;exact ⟨n',by simp [upd,this,G],O,fun e=>(by simpa [Qu,this] using J e)⟩
    ·intro t Z S n Y hb;obtain ⟨n',G,O,J⟩:=E.kv t Z S n Y hb;have:=hne t _ G;exact ⟨n',by simp [upd,this,G],O,fun e=>⟨by simp [Qu,this,(J e).1],(J e).2⟩⟩
    ·intro c k' x hc hb ho;obtain ⟨⟨k2,G,O⟩,J⟩:=E.ko c k' x hc hb ho;have:=hne c _ G;exact ⟨⟨k2,by simp [upd,this,G],O⟩,by simp [Qu,this,J]⟩
def fP (P:Program) (N:Nat) (ops:Array Oper) (Q:AX→St→Prop) (H:List Nat) (q d:Nat):List Nat→St→Prop
 | [],s=>Q .normal s
 | c :: rest,s=>match ops[c]? with
  | some o=>if c=q then (∃ u,KE N o.dst=true∧Jk P o (look s.T) (look s.H)=some u∧Jg P ops (X8 ops H c) (XV s o.dst u)∧fP P N ops Q H q d rest (XV s o.dst u))
   else X3 P N o s (fun s'=>Jg P ops (X8 ops H c) s'∧(q ∈ rest→look s'.T d=none)∧fP P N ops Q H q d rest s') Q
  | none=>False
def Ah (ops:Array Oper) (q:Nat):List Nat→Bool
 | c :: c' :: r=>(c != q||(ops[c']?).any (waits · q))&&Ah ops q (c' :: r)
 | _=>true
def QdN (ops:Array Oper) (H G:List Nat):Bool :=
 H.all (fun i=>match ops[i]? with | some o=>(match o.op with | .move _=>true | _=>false)&&G.all (fun c=>match (ops[c]?).bind (·.dst) with | some e=>!(o.looksAt ops).contains e | none=>true)||!(match o.op with | .move _=>true | _=>false) | none=>false)
def Ez (P:Program) (N:Nat) (H:List Nat) (q d:Nat) (G:List Nat) (ops:Array Oper):Bool :=
 (List.range ops.size).all (fun i=>H.contains i||G.contains i)&&Region.noSelect ops&&RY ops H&&chainOk ops (G.filter (· != q))&&decide G.Nodup&&H.all (fun i=>!G.contains i) &&
 H.all (fun i=>G.all fun c=>!Jt ops.size ops i c)&&ops.toList.all (fun o=>o.guard.isNone)&&Fg 0 ops.toList &&
 H.all (fun i=>match (ops[i]?).bind (·.dst) with
  | some d=>(List.range ops.size).all fun j=>i == j||(match ops[j]? with | some J=>J.dst != some d&&(waits J i||!(J.looksAt ops).contains d) | none=>true)
  | none=>false)&&QdN ops H G&&Ah ops q G&&decide (d < N) &&
 G.all (fun c=>c == q||(match ops[c]? with | some o=>o.dst != some d | none=>false)) &&
 (match ops[q]? with
  | some o=>o.dst == some d&&(match o.op with | .alloc ty=>(match P.info? ty with | some i=>i.zero.isSome | none=>false) | _=>false)
  | none=>false)
theorem Ii {ops:Array Oper} {q:Nat}:∀ (G:List Nat) (c':Nat) (l2:List Nat),Ah ops q (G++q :: c' :: l2)=true→(ops[c']?).any (waits · q)=true
 | [],c',l2,h=>by
  simp only [List.nil_append,Ah,Zf,bne_self_eq_false,Bool.false_or] at h;exact h.1
 | [x],c',l2,h=>by
  simp only [List.cons_append,List.nil_append,Ah,Zf,bne_self_eq_false,Bool.false_or] at h;exact h.2.1
 | x :: y :: G,c',l2,h=>by
  simp only [List.cons_append,Ah,Zf] at h;exact Ii (y :: G) c' l2 h.2
theorem lW {b b':Act} {oi:Oper} (Z:GG P ops i s) (ab:ops[i]?=some oi) (aa:oi.dst=some d)
  (r':Q8 φ M0 N D (look s.T) (look s.H) b' w') (hv:b'.tmps[d]?=some v) (J:(execOp b.eval oi).run P w=.ok (.value v) w) (hm:∀ x,oi.op=.move x→b'.eval x=b.eval x):(execOp b'.eval oi).run P w'=.ok (.value v) w':=by
 unfold GG at Z;simp only [ab] at Z;split at Z
 ·rename_i x d' G O
  have Y:b.eval x=v:=by
   simp [execOp,G] at J;exact J
  simp [execOp,G,hm x G,Y]
 ·rename_i d' O G;obtain ⟨x,h2,h3,h4⟩:=Z;obtain ⟨v',h5,h6⟩:=qZ r' h2;rw [aa] at O;cases O;have h7:=(r'.tm d x h3).2;rw [Array.getD_eq_getD_getElem?,hv] at h7;have:=yQ h4 h6 h7;rw [h5,this];rfl
 ·cases Z
theorem Qbp {Qh:AX→St→Prop} {H Cs:List Nat} {q:Nat} (hok:Ez P N H q d Cs ops=true) (dq:∀ s,Qh .normal s→Q .normal s) (eb:∀ v s,Qh (.panic v) s→Q (.panic v) (Ih ops s)) :
  ∀ (af:Nat) (done ch:List Nat) (listed:Array Bool) (a b:Act) (w:World) (s:St) (φ:Nat→Nat) (M1:Zr),Cs=done++ch→listed.size=ops.size→Og listed ops.size≤af →
   (∀ (j:Nat) o,ops[j]?=some o→listed.getD j false=true→∀ e ∈ o.after,Region.binds .any e=true→listed.getD e.on false=true) →
   (∀ c ∈ done,listed.getD c false=true)→(∀ c ∈ ch,c ≠ q→listed.getD c false=false)→Agree (Xc ops H listed) a b→Q8 φ M1 N D (look s.T) (look s.H) b w→QW φ0 h0 w0 φ (look s.H) w →
   (∀ i ∈ H,listed.getD i false=false→∃ o d v,ops[i]?=some o∧o.dst=some d∧b.tmps[d]?=some v∧(execOp b.eval o).run P w=.ok (.value v) w) →
   (q ∈ ch→look s.T d=none∧∀ i ∈ H,listed.getD i false=false→GG P ops i s) →
   (((q ∈ ch→listed.getD q false=false)∧M1=M0)∨(q ∈ ch∧listed.getD q false=true∧ch.head? ≠ some q∧∃ k o ty i z,M1=lT M0 k∧ops[q]?=some o∧o.op=.alloc ty∧o.dst=some d∧P.info? ty=some i∧i.zero=some z∧b.tmps[d]?=some (.pointer (some ⟨k,0,none⟩))∧w.heap[k]?=some (.cells z.cells ty (0,0))∧w0.heap.size≤k∧∀ x,¬ M0 k x)) →
   fP P N ops Qh H q d ch s→wpAny P .any ops (Post N D Q φ0 M0 h0 w0) af listed a w:=by
 simp only [Ez,Zf,decide_eq_true_eq] at hok;obtain ⟨⟨⟨⟨⟨⟨⟨⟨⟨⟨⟨⟨⟨⟨c0,eh⟩,cm⟩,br⟩,ax⟩,b2⟩,bq⟩,du⟩,ca⟩,b1⟩,dw⟩,b8⟩,c2⟩,cn⟩,ac⟩:=hok;have bu:∀ (listed:Array Bool) (i:Nat),i < listed.size→listed.getD i true=listed.getD i false:=fun listed i hi=>by simp [hi]
 have b7:∀ (X:Tmp→Prop) (a b:Act),Agree X a b→(∀ t,X t→t ∈ N7 ops)→∀ c w,Post N D Qh φ0 M0 h0 w0 (.panic c) b w→Post N D Q φ0 M0 h0 w0 (.panic c) a w:=by
  rintro X a b aa hX c w' ⟨φ',x,s',g1,g2,g3,g4⟩;cases x with
  | normal=>cases g4
  | exit i=>cases g4
  | ret=>cases g4
  | panic v=>exact ⟨φ', .panic v,Ih ops s',eb _ _ g1,yR aa hX g2,g3,g4⟩
 have b0:∀ a w,¬ Post N D Qh φ0 M0 h0 w0 .outgrown a w:=fun a w h=>Ws ⟨a,w,h⟩
 have dc:∀ (Hv:List Nat) (listed:Array Bool) (t:Tmp),Xc ops Hv listed t→t ∈ N7 ops:=by
  rintro Hv listed t ⟨i,_,_,hd⟩;cases O:ops[i]? with
  | none=>rw [O] at hd; cases hd
  | some o =>
   rw [O] at hd;exact List.mem_filterMap.2 ⟨o,by have:=Array.mem_of_getElem? O; simpa using this,hd⟩
 have ek:∀ (j:Nat) o,ops[j]?=some o→o.guard=none:=by
  intro j o O;have:=List.all_eq_true.1 du o (by have:=Array.mem_of_getElem? O; simpa using this);simpa using this
 have bw:∀ (listed:Array Bool),listed.size=ops.size→Region.ready .any ops listed=[]→∀ i,i < ops.size→listed.getD i false=true:=by
  intro listed am hr i
  induction i using Nat.strongRecOn with
  | _ i ih =>
   intro hi;cases hq:listed.getD i false with
   | true=>rfl
   | false =>
    have:i ∈ Region.ready .any ops listed:=by
     rw [mem_ready];refine ⟨by rw [bu listed i zo]; exact hq,ops[i],Array.getElem?_eq_getElem hi,fun e he hb=>?_⟩;have G:=VV ca i ops[i] (by simp [hi]) e he hb;exact ih e.on zo zo
    rw [hr] at this;cases this
 have b5:∀ (listed:Array Bool) (ch:List Nat) (a b:Act) (w:World) (s:St) (φ:Nat→Nat) (M1:Zr),(∀ i,i < ops.size→listed.getD i false=true)→(∀ c ∈ ch,c ≠ q→listed.getD c false=false)→Agree (Xc ops H listed) a b →
   Q8 φ M1 N D (look s.T) (look s.H) b w→QW φ0 h0 w0 φ (look s.H) w→(((q ∈ ch→listed.getD q false=false)∧M1=M0)∨(q ∈ ch∧ch.head? ≠ some q))→fP P N ops Qh H q d ch s→Post N D Q φ0 M0 h0 w0 .normal a w:=by
  intro listed ch a b w s φ M1 Z ae aa r E hM Y
  have dy:a=b:=dV aa (by
   rintro t ⟨i,hi,hl,hd⟩;cases O:ops[i]? with
   | none=>rw [O] at hd; cases hd
   | some o=>rw [Z i (Ll.1 O).1] at hl; cases hl)
  subst dy;cases ch with
  | nil =>
   rcases hM with ⟨_,rfl⟩ | ⟨h,_⟩
   ·exact ⟨φ, .normal,s,dq _ Y,r,E,rfl⟩
   ·cases h
  | cons c ch =>
   exfalso;simp only [fP] at Y;cases O:ops[c]? with
   | none=>rw [O] at Y; exact Y
   | some o =>
    have hc:=Z c (Ll.1 O).1;by_cases ad:c=q
    ·rcases hM with ⟨h,_⟩ | ⟨_,h⟩
     ·rw [ad,h (by rw [ad]; exact List.mem_cons_self)] at hc;cases hc
     ·exact h (by rw [ad]; rfl)
    ·rw [ae c List.mem_cons_self ad] at hc;cases hc
 intro af
 induction af with
 | zero =>
  intro done ch listed a b w s φ M1 ab am hu cd bb ae aa r E J hT hM Y;have Z:∀ i,i < ops.size→listed.getD i false=true:=fun i hi=>by rw [← bu listed i zo]; exact Bd (n:=ops.size) zo i hi
  refine ⟨List.eq_nil_iff_forall_not_mem.2 fun i hi=>?_,b5 listed ch a b w s φ M1 Z ae aa r E (hM.imp id fun h=>⟨h.1,h.2.2.1⟩) Y⟩;obtain ⟨G,o,O,_⟩:=mem_ready.1 hi;have c5:=(Ll.1 O).1;rw [bu listed i zo,Z i c5] at G;cases G
 | succ af ih =>
  intro done ch listed a b w s φ M1 ab am hu cd bb ae aa r E J hT hM Y;refine ⟨fun hr=>b5 listed ch a b w s φ M1 (bw listed am hr) ae aa r E (hM.imp id fun h=>⟨h.1,h.2.2.1⟩) Y,fun j hj=>?_⟩;obtain ⟨dm,o,O,Z⟩:=mem_ready.1 hj;have ba:j < ops.size:=(Ll.1 O).1;have av:listed.getD j false=false:=by rw [← bu listed j zo]; exact dm
  have bk:∀ cs b,o.op ≠ .select cs b:=fun cs b=>Region.noSelect_spec eh j o cs b O
  have az:∀ tm,Region.wanted o (yielded ops tm)=true:=fun tm=>by simp [Region.wanted,ek j o O]
  have eL:∀ k,(listed.setIfInBounds j true).getD k false=(listed.getD k false||decide (k=j)):=by
   intro k;by_cases cr:k=j
   ·subst cr;have:k < listed.size:=by omega
    simp [this]
   ·rw [getD_set_ne false (Ne.symm cr)];simp [cr]
  have bd:Og (listed.setIfInBounds j true) ops.size≤af:=by
   have:=Eg dm ops.size;rw [if_pos ba] at this;omega
  have ah:∀ (k:Nat) ok,ops[k]?=some ok→(listed.setIfInBounds j true).getD k false=true→∀ e ∈ ok.after,Region.binds .any e=true→(listed.setIfInBounds j true).getD e.on false=true:=by
   intro k ok hk hl e he hb;rw [eL] at hl ⊢;simp only [Bool.or_eq_true,decide_eq_true_eq] at hl ⊢;rcases hl with hl | hl
   ·exact .inl (cd k ok hk hl e he hb)
   ·subst hl;rw [O] at hk;cases hk;exact .inl (Z e he hb)
  have ao:∀ i,(listed.setIfInBounds j true).getD i false=false→listed.getD i false=false∧i ≠ j:=by
   intro i hl;rw [eL] at hl;simp only [Bool.or_eq_false_iff,decide_eq_false_iff_not] at hl;exact hl
  have b6:∀ t ∈ o.looksAt ops,¬ Xc ops H listed t∨∃ d,o.dst=some d∧t=d∧j ∈ H:=by
   intro t ht;by_cases hc:Xc ops H listed t;rotate_left
   ·exact .inl hc
   obtain ⟨i,hi,hl,hd⟩:=hc;have G:=List.all_eq_true.1 b1 i hi;rw [hd] at G;have h2:=List.all_eq_true.1 G j (by simp [ba]);simp only [O,Bool.or_eq_true,beq_iff_eq,Zf,Bool.not_eq_true',bne_iff_ne] at h2;rcases h2 with rfl | ⟨_,h2 | h2⟩
   ·rw [O] at hd;exact .inr ⟨t,hd,rfl,hi⟩
   ·obtain ⟨e,he,hb,bj⟩:=FU h2;have:=Z e he hb;rw [bj,hl] at this;cases this
   ·simp [ht] at h2
  have bl:=List.all_eq_true.1 c0 j (by simp [ba]);simp only [Bool.or_eq_true,List.contains_iff_mem] at bl
  have ck:q ∈ ch→q ∉ H:=by
   intro hq ck;have:=List.all_eq_true.1 b2 q ck;rw [ab] at this;simp [hq] at this
  by_cases an:j ∈ H
  ·
   have ay:j ∉ Cs:=by
    have:=List.all_eq_true.1 b2 j an;simpa using this
   obtain ⟨o',dd,v,c6,hd,hv,bi⟩:=J j an av;rw [O] at c6;cases c6;have ce:dd ∉ o.looksAt ops:=za O hd H cm an
   have cl:∀ t ∈ o.looksAt ops,¬ Xc ops H listed t:=by
    intro t ht;rcases b6 t ht with G | ⟨d',G,rfl,_⟩
    ·exact G
    ·rw [hd] at G;cases G;exact absurd ht ce
   unfold wpOp;simp only [O,az,if_true];refine .inl ?_;unfold Oper.wp;rw [X7 (ops:=ops) aa bk cl,bi];simp only [Oper.upon];have dz:q ∈ ch→q ≠ j:=fun h e=>ck h (e ▸ an)
   refine ih done ch (listed.setIfInBounds j true) (a.put o.dst v) b w s φ M1 ab (by simpa using am) bd ah (fun c hc=>by rw [eL,bb c hc]; rfl) ?_ ?_ r E (fun i hi hl=>J i hi (ao i hl).1) (fun h=>⟨(hT h).1,fun i hi hl=>(hT h).2 i hi (ao i hl).1⟩) ?_ Y
   ·intro c hc ad;rw [eL,ae c hc ad];have:c ≠ j:=fun e=>ay (by rw [ab,← e]; exact List.mem_append_right _ hc)
    simp [this]
   ·refine ⟨by rw [← aa.1,hd]; rfl,by rw [← aa.2.1,hd]; simp [Act.put],fun t ht=>?_⟩;rw [hd];by_cases cp:dd=t
    ·subst cp
     have co:dd < a.tmps.size:=by
      rw [aa.2.1];exact (Ll.1 hv).1
     rw [hv];simp [Act.put,co]
    ·rw [← aa.2.2 t (fun hc=>ht (by
      obtain ⟨i,hi,hl,a6⟩:=hc;refine ⟨i,hi,?_,a6⟩;rw [eL,hl];have:i ≠ j:=fun e=>cp (by rw [e,O] at a6; exact Option.some.inj (hd.symm.trans a6))
      simp [this]))]
     simp [Act.put,Array.getElem?_setIfInBounds_ne cp]
   ·rcases hM with ⟨G,h2⟩ | ⟨G,h2,h3⟩
    ·exact .inl ⟨fun h=>by rw [eL,G h]; simp [dz h],h2⟩
    ·exact .inr ⟨G,by rw [eL,h2]; rfl,h3⟩
  ·
   have ay:j ∈ Cs:=bl.resolve_left an
   have au:j ∈ ch:=by
    rw [ab] at ay;rcases List.mem_append.1 ay with G | G
    ·rw [bb j G] at av; cases av
    ·exact G
   have bp:∀ t ∈ o.looksAt ops,¬ Xc ops H listed t:=by
    intro t ht;rcases b6 t ht with G | ⟨d',_,_,G⟩
    ·exact G
    ·exact absurd G an
   have bh:∀ t,o.dst=some t→¬ Xc ops H listed t:=by
    rintro t ht ⟨i,hi,hl,hd⟩;have G:=List.all_eq_true.1 b1 i hi;rw [hd] at G;have h2:=List.all_eq_true.1 G j (by simp [ba]);simp only [O,Bool.or_eq_true,beq_iff_eq,Zf,Bool.not_eq_true',bne_iff_ne] at h2;rcases h2 with rfl | ⟨h2,_⟩
    ·exact an hi
    ·exact h2 ht
   have da:∀ x y,M0 x y→M1 x y:=by
    intro x y h;rcases hM with ⟨_,rfl⟩ | ⟨_,_,_,k,_,_,_,_,rfl,_⟩
    ·exact h
    ·exact .inl h
   have cj:∀ (b':Act) (w':World) (s':St) (φ':Nat→Nat) (M':Zr),(∀ t,o.dst ≠ some t→b'.tmps[t]?=b.tmps[t]?)→Q8 φ' M' N D (look s'.T) (look s'.H) b' w'→(∀ i ∈ H,(listed.setIfInBounds j true).getD i false=false→GG P ops i s') →
     ∀ i ∈ H,(listed.setIfInBounds j true).getD i false=false→∃ o d v,ops[i]?=some o∧o.dst=some d∧b'.tmps[d]?=some v∧(execOp b'.eval o).run P w'=.ok (.value v) w':=by
    intro b' w' s' φ' M' aj r' bg i hi hl;have bv:=(ao i hl).1;obtain ⟨oi,di,v,bx,a6,ef,dv⟩:=J i hi bv;have c1:b'.tmps[di]?=some v:=by rw [aj di (fun e=>bh di e ⟨i,hi,bv,by rw [bx]; exact a6⟩)]; exact ef
    refine ⟨oi,di,v,bx,a6,c1,lW (bg i hi hl) bx a6 r' c1 dv fun x ak=>?_⟩;cases x with
    | tmp t =>
     have hne:o.dst ≠ some t:=by
      intro e;have h2:=List.all_eq_true.1 dw i hi;simp only [bx,ak,Bool.true_and,Bool.not_true,Bool.or_false] at h2;have h3:=List.all_eq_true.1 h2 j ay;simp only [O,QE,e,Bool.not_eq_true'] at h3;have:t ∈ oi.looksAt ops:=List.mem_append_left _ (List.mem_filterMap.2 ⟨.tmp t,by simp [ak,Op.operands],rfl⟩);simp [this] at h3
     simp only [Act.eval];rw [Array.getD_eq_getD_getElem?,Array.getD_eq_getD_getElem?,aj t hne]
    | _=>rfl
   have aw:∀ (s':St),Jg P ops (X8 ops H j) s'→∀ i ∈ H,(listed.setIfInBounds j true).getD i false=false→GG P ops i s':=by
    intro s' bg i hi hl;have bv:=(ao i hl).1
    have ej:Jt ops.size ops j i=false:=by
     cases hq:Jt ops.size ops j i with
     | false=>rfl
     | true =>
      have:=XM cd _ j i o O Z hq;rw [bv] at this;cases this
    have df:Jt ops.size ops i j=false:=by
     have:=List.all_eq_true.1 (List.all_eq_true.1 bq i hi) j ay;simpa using this
    exact bg i (List.mem_filter.2 ⟨hi,by rw [ej,df]; rfl⟩)
   have ar:∀ (a' b':Act),Agree (Xc ops H listed) a' b'→Agree (Xc ops H (listed.setIfInBounds j true)) a' b':=by
    intro a' b' h;refine ⟨h.1,h.2.1,fun t ht=>h.2.2 t (fun hc=>ht ?_)⟩;obtain ⟨i,hi,hl,hd⟩:=hc;refine ⟨i,hi,?_,hd⟩;rw [eL,hl];have:i ≠ j:=fun e=>an (e ▸ hi)
    simp [this]
   by_cases bc:j=q
   ·
    subst bc;rw [O] at ac;simp only [Zf,beq_iff_eq] at ac;obtain ⟨be,ac⟩:=ac;split at ac;rotate_left
    ·cases ac
    rename_i ty ak;split at ac;rotate_left
    ·cases ac
    rename_i ti hi;obtain ⟨z,hz⟩:=TD.1 ac
    have ea:M1=M0:=by
     rcases hM with ⟨_,h⟩ | ⟨_,h,_⟩
     ·exact h
     ·rw [h] at av; cases av
    subst ea;unfold wpOp;simp only [O,az,if_true];refine .inl ?_;cases ch with
    | nil=>cases au
    | cons c rest =>
     by_cases bn:c=j
     ·subst bn;simp only [fP,O,if_true] at Y;obtain ⟨u,db,hu,hl,bf⟩:=Y
      have hex:X3 P N o s (fun s'=>s'=XV s o.dst u) Qh:=by
       unfold X3;simp only [ak];rw [hu];exact .inl ⟨db,rfl⟩
      have hw:=ME hex r;have cw:=Go.Abs.Oper.wp_mono2 (K':=fun a' w'=>∃ φ' s',s'=XV s o.dst u∧Q8 φ' M1 N D (look s'.T) (look s'.H) a' w'∧QW φ (look s.H) w φ' (look s'.H) w') (Q':=Post N D Qh φ0 M1 h0 w0) hw (fun _ _ h=>h) (fun e a' w' p=>p.trans E);refine Oper.wp_mono ?_ (qX (ops:=ops) aa bk bp bh (b7 _ _ _ aa (dc _ _)) b0 cw);rintro a' w' ⟨b',aq,aj,φ',s',rfl,r',E'⟩
      have bm:c ∉ rest:=by
       rw [ab] at ax;exact (List.nodup_cons.1 (List.nodup_append.1 ax).2.1).1
      refine ih (done++[c]) rest (listed.setIfInBounds c true) a' b' w' _ φ' M1 (by rw [ab]; simp) (by simpa using am) bd ah (fun x Y=>by
       rw [eL];rcases List.mem_append.1 Y with G | G
       ·rw [bb x G]; rfl
       ·rw [List.mem_singleton] at G;simp [G]) ?_ (ar _ _ aq) r' (E.trans E') (cj b' w' _ φ' M1 aj r' (aw _ hl)) (fun h=>absurd h bm) (.inl ⟨fun h=>absurd h bm,rfl⟩) bf
      intro x Y al;rw [eL,ae x (List.mem_cons_of_mem _ Y) al];simp [al]
     ·have bi:∀ ev,(execOp ev o).run P w=.ok (.value (.pointer (some ⟨w.heap.size,0,none⟩))) (w.alloc (.cells z.cells ty)):=fun ev=>by
       simp [execOp,ak,Instr.alloc,zeroValue,typeInfo,hi,hz,newVar,newRow,newObj,Sem.run]
      unfold Oper.wp;rw [bi];simp only [Oper.upon];rw [be];obtain ⟨c3,dx⟩:=hT au;obtain ⟨r,E1,_,cx⟩:=r.lift 1;have E:=E.trans E1;have r2:=lV (ob:=.cells z.cells ty) (v:=.pointer (some ⟨w.heap.size,0,none⟩)) r c3 cx
      have aj:∀ t,o.dst ≠ some t→(b.put (some d) (.pointer (some ⟨w.heap.size,0,none⟩))).tmps[t]?=b.tmps[t]?:=by
       intro t ht;have:d ≠ t:=fun e=>ht (by rw [be,e])
       simp [Act.put,Array.getElem?_setIfInBounds_ne this]
      have cy:∀ i ∈ H,(listed.setIfInBounds j true).getD i false=false→GG P ops i s:=fun i hi hl=>dx i hi (ao i hl).1
      refine ih done (c :: rest) (listed.setIfInBounds j true) _ _ _ s _ _ ab (by simpa using am) bd ah (fun x Y=>by rw [eL,bb x Y]; rfl) ?_ (ar _ _ (Fq aa (some d) _)) r2 (E.trans (yS r.hp cx).1) (cj _ _ s _ _ aj r2 cy) (fun _=>⟨c3,cy⟩) (.inr ⟨au,by rw [eL]; simp,fun h=>bn (Option.some.inj h),w.heap.size,o,ty,ti,z,rfl,O,ak,be,hi,hz,?_,?_,E.size,fun x Y=>Nat.lt_irrefl _ (r.hp.lt _ _ Y)⟩) Y
      ·intro x Y al;rw [eL,ae x Y al];simp [al]
      ·have co:d < b.tmps.size:=by rw [r.siz]; exact c2
       simp [Act.put,co]
      ·show (w.heap.push _)[w.heap.size]?=_;simp
   ·
    have bt:∃ rest,ch=j :: rest:=by
     cases ch with
     | nil=>cases au
     | cons c rest =>
      by_cases bn:j=c
      ·exact ⟨rest,by rw [bn]⟩
      exfalso;have cq:j ∈ rest:=(List.mem_cons.1 au).resolve_left bn;obtain ⟨r1,r2,a7⟩:=List.append_of_mem cq
      have de:∀ x,x ∈ c :: rest→x ≠ q→(ops[j]?).any (waits · x)=true→False:=by
       intro x Y al hw;rw [O] at hw;obtain ⟨e,he,hb,bj⟩:=FU (o:=o) (i:=x) hw;have h2:=Z e he hb;rw [bj,ae x Y al] at h2;cases h2
      by_cases ai:∀ x ∈ c :: r1,x=q
      ·
       have ad:c=q:=ai c List.mem_cons_self
       have ec:r1=[]:=by
        cases r1 with
        | nil=>rfl
        | cons y r1 =>
         exfalso;have hy:=ai y zq;have h3:=ax;rw [ab,a7] at h3;have h4:=(List.nodup_append.1 h3).2.1;rw [ad,hy] at h4;simp at h4
       subst ec;rcases hM with ⟨G,_⟩ | ⟨_,_,h3,_⟩
       ·have h4:=G (by rw [ad]; exact List.mem_cons_self);have h5:(ops[j]?).any (waits · q)=true:=Ii done j r2 (by rw [ab,a7,ad] at b8; exact b8);rw [O] at h5;obtain ⟨e,he,hb,bj⟩:=FU (o:=o) (i:=q) h5;have h6:=Z e he hb;rw [bj,h4] at h6;cases h6
       ·exact h3 (by rw [ad]; rfl)
      ·simp only [Classical.not_forall] at ai;obtain ⟨x0,dp,cz⟩:=ai
       have ee:(c :: r1).filter (· != q) ≠ []:=by
        intro e;have:x0 ∈ (c :: r1).filter (· != q):=List.mem_filter.2 ⟨dp,by simpa using cz⟩;rw [e] at this;cases this
       obtain ⟨p,x,c7⟩:∃ p x,(c :: r1).filter (· != q)=p++[x]:=⟨_,_,(List.dropLast_concat_getLast ee).symm⟩;have ei:x ∈ (c :: r1).filter (· != q):=by rw [c7]; simp
       obtain ⟨dn,cg⟩:=List.mem_filter.1 ei
       have eg:Cs.filter (· != q)=(done.filter (· != q)++p)++x :: j :: r2.filter (· != q):=by
        rw [ab,List.filter_append,a7,show c :: (r1++j :: r2)=(c :: r1)++j :: r2 from rfl,List.filter_append,c7];have:(j :: r2).filter (· != q)=j :: r2.filter (· != q):=by simp [bc]
        rw [this];simp
       have bz:=br;rw [eg] at bz;have G:=Bq _ _ _ _ bz;exact de x (by rw [a7,show c :: (r1++j :: r2)=(c :: r1)++j :: r2 from rfl]; exact List.mem_append_left _ dn) (by simpa using cg) G
    obtain ⟨rest,rfl⟩:=bt;simp only [fP,O,if_neg bc] at Y;unfold wpOp;simp only [O,az,if_true];refine .inl ?_;have hw:=ME Y r;have cw:=Go.Abs.Oper.wp_mono2 (K':=fun a' w'=>∃ φ' s',(Jg P ops (X8 ops H j) s'∧(q ∈ rest→look s'.T d=none)∧fP P N ops Qh H q d rest s')∧Q8 φ' M1 N D (look s'.T) (look s'.H) a' w'∧QW φ (look s.H) w φ' (look s'.H) w') (Q':=Post N D Qh φ0 M0 h0 w0) hw (fun _ _ h=>h) (fun e a' w' p=>lU da (p.trans E));refine Oper.wp_mono ?_ (qX (ops:=ops) aa bk bp bh (b7 _ _ _ aa (dc _ _)) b0 cw);rintro a' w' ⟨b',aq,aj,φ',s',⟨bg,el,bf⟩,r',E'⟩;have cc:=cj b' w' s' φ' M1 aj r' (aw s' bg)
    have cq:j ∉ rest:=by
     rw [ab] at ax;exact (List.nodup_cons.1 (List.nodup_append.1 ax).2.1).1
    have a8:∀ c ∈ done++[j],(listed.setIfInBounds j true).getD c false=true:=fun x Y=>by
     rw [eL];rcases List.mem_append.1 Y with G | G
     ·rw [bb x G]; rfl
     ·rw [List.mem_singleton] at G;simp [G]
    have bo:∀ c ∈ rest,c ≠ q→(listed.setIfInBounds j true).getD c false=false:=by
     intro x Y al;rw [eL,ae x (List.mem_cons_of_mem _ Y) al];have:x ≠ j:=fun e=>cq (e ▸ Y)
     simp [this]
    have dk:q ∈ rest→look s'.T d=none∧∀ i ∈ H,(listed.setIfInBounds j true).getD i false=false→GG P ops i s':=fun h=>⟨el h,aw s' bg⟩
    rcases hM with ⟨G,rfl⟩ | ⟨G,h2,h3,k,oq,ty,ti,z,rfl,c9,ak,be,hi,hz,em,dl,c4,dh⟩
    ·refine ih (done++[j]) rest (listed.setIfInBounds j true) a' b' w' s' φ' M1 (by rw [ab]; simp) (by simpa using am) bd ah a8 bo (ar _ _ aq) r' (E.trans E') cc dk (.inl ⟨fun h=>?_,rfl⟩) bf;rw [eL,G (List.mem_cons_of_mem _ h)];simp [Ne.symm bc]
    ·have dt:q ∈ rest:=(List.mem_cons.1 G).resolve_left (Ne.symm bc)
     have ed:o.dst ≠ some d:=by
      have:=List.all_eq_true.1 cn j ay;simp only [O,Bool.or_eq_true,beq_iff_eq,bne_iff_ne] at this;exact this.resolve_left bc
     have b4:b'.tmps[d]?=some (.pointer (some ⟨k,0,none⟩)):=by rw [aj d ed]; exact em
     have b3:w'.heap[k]?=some (.cells z.cells ty (0,0)):=by
      rw [E'.same k (Ll.1 dl).1 (fun c hc e=>r.hp.fr c hc 0 (.inr e))];exact dl
     have dj:(listed.setIfInBounds j true).getD q false=true:=by rw [eL,h2]; rfl
     by_cases b9:rest.head?=some q
     ·cases rest with
      | nil=>cases b9
      | cons c rest =>
       obtain rfl:c=q:=Option.some.inj b9;simp only [fP,c9,if_true] at bf;obtain ⟨u,db,hu,hl,cg⟩:=bf;obtain ⟨r2,E2⟩:=nX r' (E.trans E') c4 dh ak be hi hz c2 b4 b3 hu
       have bm:c ∉ rest:=by
        rw [ab] at ax;exact (List.nodup_cons.1 (List.nodup_cons.1 (List.nodup_append.1 ax).2.1).2).1
       refine ih (done++[j,c]) rest (listed.setIfInBounds j true) a' b' w' _ _ M0 (by rw [ab]; simp) (by simpa using am) bd ah (fun x Y=>?_) (fun x Y=>bo x (List.mem_cons_of_mem _ Y)) (ar _ _ aq) r2 E2 cc (fun h=>absurd h bm) (.inl ⟨fun h=>absurd h bm,rfl⟩) cg;rcases List.mem_append.1 Y with h4 | h4
       ·exact a8 x (List.mem_append_left _ h4)
       ·simp only [List.mem_cons,List.not_mem_nil,or_false] at h4;rcases h4 with h4 | h4
        ·exact a8 x (by simp [h4])
        ·rw [h4]; exact dj
     ·exact ih (done++[j]) rest (listed.setIfInBounds j true) a' b' w' s' φ' _ (by rw [ab]; simp) (by simpa using am) bd ah a8 bo (ar _ _ aq) r' (E.trans E') cc dk (.inr ⟨dt,dj,b9,k,oq,ty,ti,z,rfl,c9,ak,be,hi,hz,b4,b3,c4,dh⟩) bf
theorem QdO {R:Type} {r0:R} {Q:R→AX→St→Prop} (H:List Nat) (q d:Nat) (Cs:List Nat) (hm:P.follows .mixedOrders=true) (ac:UY ops=true) (hok:Ez P N H q d Cs ops=true) (h1:RX P N ops H s=some s1)
  (hl:Jg P ops H s1) (hT:look s1.T d=none) (h:fP P N ops (qh ops Q r0) H q d Cs s1):Ex P N ro (.region id ops true) s (Q r0):=by
 intro φ M0 D a w r;refine wpIn_region_any hm (NN ac Ws _ _ _ _ ?_);have hd:QW φ (look s.H) w φ (look s.H) { w with drawn:=w.drawn+1 }:=BX rfl rfl rfl rfl;have r1:Q8 φ M0 N D (look s.T) (look s.H) a { w with drawn:=w.drawn+1 }:=r.keep hd (RB rfl) (SG (w:=w) rfl hd r.hp);have J:=hok;simp only [Ez,Zf,decide_eq_true_eq] at J;obtain ⟨⟨⟨⟨⟨⟨⟨⟨⟨⟨⟨⟨⟨⟨am,af⟩,O⟩,ab⟩,ai⟩,al⟩,aa⟩,ar⟩,ae⟩,aj⟩,ao⟩,an⟩,aq⟩,ad⟩,ak⟩:=J;obtain ⟨b,rb,hH,Y,hJ⟩:=Oj af H s s1 a _ O h1 r1
 have G:∀ (j:Nat),(Array.replicate ops.size false).getD j false=false:=by
  intro j;rcases Nat.lt_or_ge j ops.size with h | h
  ·simp [h]
  ·simp [h]
 have Z:∀ n,Og (Array.replicate ops.size false) n≤n:=by
  intro n
  induction n with
  | zero=>simp [Og]
  | succ n ih=>simp only [Og]; split <;> omega
 have h2:=Qbp (D:=D) (φ0:=φ) (h0:=look s.H) (w0:=w) (M0:=M0) hok (Q:=Q r0) (Qh:=qh ops Q r0) (fun _ h=>h) (fun _ _ h=>h) ops.size [] Cs (Array.replicate ops.size false) a b { w with drawn:=w.drawn+1 } s1 φ M0 rfl zq (Z _) (fun j o _ hj=>by rw [G] at hj; cases hj) (fun c hc=>by cases hc) (fun c _ _=>G c)
  ⟨Y.1,Y.2.1,fun t ht=>Y.2.2 t (fun hc=>ht (by obtain ⟨i,hi,ah⟩:=hc; exact ⟨i,hi,G i,ah⟩))⟩ rb (by rw [hH]; exact hd) (fun i hi _=>hJ i hi) (fun _=>⟨hT,fun i hi _=>hl i hi⟩) (.inl ⟨fun _=>G q,rfl⟩) h
 refine XL ?_ _ _ _ _ h2;exact fun e a' w' h=>h
structure uQ {R:Type} (a:Option R) (P:Program) (N:Nat) (ops:Array Oper) (Q:R→AX→St→Prop) (H:List Nat) (q d:Nat) (Ch:List Nat) (s:St):Prop where
 intro ::
 h:∀ r,a=some r→fP P N ops (qh ops Q r) H q d Ch s
def fKf {R:Type} (P:Program) (N:Nat) (ops:Array Oper) (Q:R→AX→St→Prop) (H:List Nat) (q d:Nat) (Ch:List Nat) (c:Nat):R→St→Prop:=fun r s=>Jg P ops (X8 ops H c) s∧(q ∈ Ch→look s.T d=none)∧fP P N ops (qh ops Q r) H q d Ch s
theorem uR {Ch:List Nat} {q:Nat} (h:(!Ch.contains q||(look s.T d).isNone)=true):q ∈ Ch→look s.T d=none:=by
 intro G;cases e:look s.T d with
 | none=>rfl
 | some x=>simp [G,e] at h
section
variable {R V E:Type} {a a1 a2:Option R} {P:Program} {N:Nat} {ro:Option Nat} {id:Nat} {ops:Array Oper} {o:Oper} {s s1 s':St} {Q:R→AX→St→Prop} {f:FuncId} {args args':List AV} {dst:Option Tmp} {H Ch:List Nat} {c i q d:Nat}
theorem uS (H:List Nat) (q d:Nat) (Ch:List Nat) (Y:P.follows .mixedOrders=true) (Z:UY ops=true) (hok:Ez P N H q d Ch ops=true) (O:(RX P N ops H s).isSome=true) (J:Jg P ops H ((RX P N ops H s).getD s)) (G:(look ((RX P N ops H s).getD s).T d).isNone=true)
  (h:uQ a P N ops Q H q d Ch ((RX P N ops H s).getD s)):QP a P N ro (.region id ops true) s Q:=by
 obtain ⟨s1,e⟩:=TD.1 O;rw [e] at h J G;simp only [Option.getD_some] at h J G;exact ⟨fun r hr=>QdO H q d Ch Y Z hok e J (by cases e:look s1.T d with | none=>rfl | some x=>rw [e] at G; cases G) (h.h r hr)⟩
theorem Qfe (h:Zv a Q .normal s):uQ a P N ops Q H q d [] s:=⟨fun r G=>h.h r G⟩
theorem kf (G:List Nat) (Z:X8 ops H c=G) (O:Jg P ops G s) (Y:(!Ch.contains q||(look s.T d).isNone)=true) (h:uQ a P N ops Q H q d Ch s):DW a (fKf P N ops Q H q d Ch c) s :=
 ⟨fun r J=>⟨Z ▸ O,uR Y,h.h r J⟩⟩
theorem f_q (Y:List Nat) (Z:X8 ops H q=Y) (h0:(RZ P N ops q s).isSome=true) (O:Jg P ops Y ((RZ P N ops q s).getD s)) (h:uQ a P N ops Q H q d Ch ((RZ P N ops q s).getD s)):uQ a P N ops Q H q d (q :: Ch) s:=by
 obtain ⟨s',G⟩:=TD.1 h0;rw [G] at O h;simp only [Option.getD_some] at O h;unfold RZ at G;refine ⟨fun r hr=>?_⟩;simp only [fP];cases ho:ops[q]? with
 | none=>rw [ho] at G; cases G
 | some o =>
  simp only [ho,QE,if_true] at G ⊢;split at G
  ·cases G
  ·cases G
  ·cases G
  ·split at G;rotate_left
   ·cases G
   rename_i J;obtain ⟨u,hu,rfl⟩:=Fe.1 G;exact ⟨u,J,hu,Z ▸ O,h.h r hr⟩
theorem Qip (L':List Nat) (O:Nat.beq c q=false) (hL:X8 ops H c=L') (h0:(RZ P N ops c s).isSome=true) (Z:Jg P ops L' ((RZ P N ops c s).getD s)) (Y:(!Ch.contains q||(look ((RZ P N ops c s).getD s).T d).isNone)=true) (h:uQ a P N ops Q H q d Ch ((RZ P N ops c s).getD s)):uQ a P N ops Q H q d (c :: Ch) s:=by
 obtain ⟨s',G⟩:=TD.1 h0;rw [G] at Z h Y;simp only [Option.getD_some] at Z h Y;unfold RZ at G;refine ⟨fun r hr=>?_⟩;have hne:¬ c=q:=fun e=>by subst e; simp at O
 simp only [fP];cases ho:ops[c]? with
 | none=>rw [ho] at G; cases G
 | some o =>
  simp only [ho,QE,if_neg hne] at G ⊢;unfold X3;split at G
  ·cases G
  ·cases G
  ·cases G
  ·rename_i n1 n2 n3;split at G;rotate_left
   ·cases G
   rename_i aa;obtain ⟨u,hu,rfl⟩:=Fe.1 G
   have key:qw N o s (fun s'=>Jg P ops (X8 ops H c) s'∧(q ∈ Ch→look s'.T d=none)∧fP P N ops (qh ops Q r) H q d Ch s') (Jk P o (look s.T) (look s.H)):=by
    rw [hu];exact ⟨aa,hL ▸ Z,uR Y,h.h r hr⟩
   split
   ·rename_i J; exact absurd J (n1 _ _ _)
   ·rename_i J; exact absurd J (n2 _)
   ·rename_i J; exact absurd J (n3 _ _ _)
   ·exact .inl key
theorem Ol (hf:(ops[c]?).bind (fun o=>(ZO (look s.T) o.op).map fun p=>(p.1,p.2,o.dst))=some (f,args,dst)) (hb:Ye P f=true) (J:Nat.beq c q=false) (h:NS a P N f args dst s (fKf P N ops Q H q d Ch c) (qh ops Q)):uQ a P N ops Q H q d (c :: Ch) s:=by
 refine ⟨fun r Z=>?_⟩;have hne:¬ c=q:=fun e=>by subst e; simp at J
 simp only [fP];cases ho:ops[c]? with
 | none=>rw [ho] at hf; cases hf
 | some o =>
  simp only [ho,QE,if_neg hne] at hf ⊢;obtain ⟨⟨f0,G⟩,Y,O⟩:=Fe.1 hf;simp only [Prod.mk.injEq] at O;obtain ⟨rfl,rfl,rfl⟩:=O;exact XJ Y hb (h.h r Z)
end
def lX (k:Nat) (x:AV):Blk→Blk
 | .box ty cs=>.box ty (cs.set k x)
 | q=>q
def GY (b k:Nat) (x:AV) (s:St):St:=⟨s.T,s.H.map fun p=>if p.1=b then (p.1,lX k x p.2) else p⟩
theorem MS {b k:Nat} {x:AV}:∀ (H:List (Nat × Blk)) (c:Nat),look (H.map fun p=>if p.1=b then (p.1,lX k x p.2) else p) c=if b=c then (look H c).map (lX k x) else look H c
 | [],c=>by simp [look]
 | (d,q) :: H,c=>by
  rw [List.map_cons];by_cases J:d=b
  ·subst J;simp only [if_true,look];by_cases G:d=c
   ·simp [G]
   ·simp only [G,if_false];rw [MS H c];simp [G]
  ·simp only [J,if_false,look];by_cases G:d=c
   ·subst G;simp [Ne.symm J]
   ·simp only [G,if_false];exact MS H c
theorem zh {k:Nat} {x:AV} {ty:Nat} {cs:List AV} (hb:look s.H b=some (.box ty cs)):look (GY b k x s).H=upd (look s.H) b (.box ty (cs.set k x)):=by
 funext c;show look (s.H.map _) c=_;rw [MS];by_cases e:b=c
 ·subst e; simp [upd,hb,lX]
 ·simp [upd,e]
theorem R3 {φ:Nat→Nat} {h:QH} {w:World} {M:Zr}:∀ {cs:List AV} {l:List Value} {k:Nat} {x:AV},Qi φ h w M cs l→cs[k]?=some x→∃ u,l[k]?=some u∧Qe φ h w M x u
 | [],l,k,x,_,h=>by simp at h
 | c :: cs,l,k,x,G,h=>by
  simp only [Qi] at G;obtain ⟨y,ys,rfl,J,O⟩:=G;cases k with
  | zero=>simp at h; subst h; exact ⟨y,rfl,J⟩
  | succ k=>simp at h; simpa using R3 O h
theorem FX {φ:Nat→Nat} {h:QH} {w:World} {M:Zr}:∀ {cs:List AV} {l:List Value} {k:Nat} {x:AV} {u:Value},Qi φ h w M cs l→l[k]?=some u→Qe φ h w M x u→Qi φ h w M (cs.set k x) l
 | [],l,k,x,u,J,G,O=>by simpa using J
 | c :: cs,l,k,x,u,J,G,O=>by
  simp only [Qi] at J;obtain ⟨y,ys,rfl,Z,Y⟩:=J;cases k with
  | zero=>simp at G; subst G; exact ⟨_,ys,rfl,O,Y⟩
  | succ k=>simp at G; exact ⟨y,ys,rfl,Z,FX Y G O⟩
section
variable {φ φ0:Nat→Nat} {h h0:QH} {w w0:World} {M0:Zr} {b ty:Nat} {cs cs':List AV}
theorem Bv (hb:h b=some (.box ty cs)):VR φ h w φ (upd h b (.box ty cs')) w:=by
 refine ⟨fun c t q hc=>⟨?_,rfl⟩,fun t J S n hc=>⟨n,?_,Nat.le_refl _,fun _=>Yp rfl rfl⟩,fun t J S n hc=>⟨n,?_,Nat.le_refl _,fun _=>⟨rfl,fun c hc=>⟨c,hc,rfl⟩⟩⟩,fun c k x hc G=>⟨⟨k,?_,G⟩,rfl⟩⟩
 ·by_cases e:b=c
  ·subst e; exact ⟨ty,cs',by simp [upd]⟩
  ·exact ⟨t,q,by simp [upd,e,hc]⟩
 ·have:¬ b=t:=fun e=>by subst e; rw [hb] at hc; cases hc
  simp [upd,this,hc]
 ·have:¬ b=t:=fun e=>by subst e; rw [hb] at hc; cases hc
  simp [upd,this,hc]
 ·have:¬ b=c:=fun e=>by subst e; rw [hb] at hc; cases hc; cases G
  simp [upd,this,hc]
theorem EA (hb:h b=some (.box ty cs)):∀ r o,Cb φ (upd h b (.box ty cs')) r o→Cb φ h r o:=by
 rintro r o ⟨c,k,G,J,O⟩;by_cases e:b=c
 ·subst e;exact ⟨b,_,hb,J,trivial⟩
 ·simp only [upd,e,if_false] at G;exact ⟨c,k,G,J,O⟩
theorem EB (hb:h b=some (.box ty cs)):QW φ h w φ (upd h b (.box ty cs')) w:=by
 have X:=Bv (φ:=φ) (w:=w) (cs':=cs') hb;refine ⟨rfl,rfl,rfl,Nat.le_refl _,fun _ _ _=>rfl,fun _ _ _ _=>rfl,fun r o _ O=>EA hb r o O,fun c t q _ hc=>?_,fun t G S n _ hc=>X.t t G S n hc,fun t G S n _ hc=>X.v t G S n hc,fun c k x _ hc J=>X.o c k x hc J⟩;by_cases e:b=c
 ·subst e;rw [hb] at hc;cases hc;exact ⟨⟨cs',by simp [upd]⟩,rfl⟩
 ·exact ⟨⟨q,by simp [upd,e,hc]⟩,rfl⟩
theorem Qbq (hb:h b=some (.box ty cs)) (r:Zz φ h w M0) (hc:∀ c:Array Value,w.heap[φ b]?=some (.cells c ty (0,0))→Qi φ h w (MM φ h M0) cs' c.toList):Zz φ (upd h b (.box ty cs')) w M0:=by
 have Z:∀ x o v,w.cell? ⟨x,o,none⟩=some v→¬ MM φ h M0 x o→w.cell? ⟨x,o,none⟩=some v∧¬ MM φ (upd h b (.box ty cs')) M0 x o:=fun x o v O h2=>⟨O,fun Y=>h2 (Y.imp (EA hb x o) id)⟩
 have X:=Bv (φ:=φ) (w:=w) (cs':=cs') hb
 have G:∀ c,upd h b (.box ty cs') c ≠ none→h c ≠ none:=fun c hc=>by
  by_cases e:b=c
  ·subst e; rw [hb]; simp
  ·simpa [upd,e] using hc
 refine ⟨fun c d hc hd=>r.inj c d (G c hc) (G d hd),fun c k J=>?_,fun c hc=>r.fr c (G c hc),r.lt,r.gm.sub fun x o Y=>Y.imp (EA hb x o) id⟩;by_cases e:b=c
 ·subst e;simp only [upd,if_true,QO] at J;subst J;obtain ⟨q,O,h2⟩:=r.blk b _ hb;exact ⟨q,O,(QJ Z X).2 _ _ (hc q O)⟩
 ·simp only [upd,e,if_false] at J;exact ZI Z X rfl (r.blk c k J)
end
theorem wV {ty:Nat} {cs cs':List AV} (r:Q8 φ M0 N D T h a w) (hb:h b=some (.box ty cs)) (hc:∀ c:Array Value,w.heap[φ b]?=some (.cells c ty (0,0))→Qi φ h w (MM φ h M0) cs' c.toList) :
  Q8 φ M0 N D T (upd h b (.box ty cs')) a w:=by
 have O:∀ x o v,w.cell? ⟨x,o,none⟩=some v→¬ MM φ h M0 x o→w.cell? ⟨x,o,none⟩=some v∧¬ MM φ (upd h b (.box ty cs')) M0 x o:=fun x o v J Y=>⟨J,fun Z=>Y (Z.imp (EA hb x o) id)⟩
 exact ⟨r.dfs.keep (EB hb),r.siz,Qbq hb r.hp hc,fun t x G=>⟨(r.tm t x G).1,(QJ O (Bv hb)).1 _ _ (r.tm t x G).2⟩⟩
theorem N9 {α:Type} {f:Nat→Bool}:∀ {H:List (Nat × α)} {c:Nat},f c=true→look (H.filter fun p=>f p.1) c=look H c
 | [],c,_=>rfl
 | (d,q) :: H,c,hf=>by
  by_cases e:d=c
  ·subst e;rw [List.filter_cons_of_pos (by simpa using hf)];simp [look]
  ·by_cases G:f d=true
   ·rw [List.filter_cons_of_pos (by simpa using G)];simp only [look,e,if_false];exact N9 hf
   ·rw [List.filter_cons_of_neg (by simpa using G)];simp only [look,e,if_false];exact N9 hf
def zi (t:Nat) (s G:St):Bool:=okT (look G.H) G.T&&aQ (look G.H) G.H&&K4 (look G.H) (s.H.filter fun p=>p.1 != t)&&(look G.H t).isNone
def Np (φ:Nat→Nat) (w:World) (t S n:Nat) (M0:Zr):Zr:=fun r o=>M0 r o∨(r=φ t∧n * S≤o∧r < w.heap.size)
theorem uT {t ty S:Nat} {K:Lp} (r:Q8 φ M0 N D (look s.T) (look s.H) a w) (af:look s.H t=some (.arr ty S n)) (hok:zi t s (shr K s)=true) :
  Q8 φ (Np φ w t S n M0) N D (look (shr K s).T) (look (shr K s).H) a w∧(∀ x v,ZX (look (shr K s).H) x=true→Qe φ (look s.H) w (MM φ (look s.H) M0) x v→Qe φ (look (shr K s).H) w (MM φ (look (shr K s).H) (Np φ w t S n M0)) x v)∧(∀ b k',look (shr K s).H b=some k'→∃ k,look s.H b=some k∧leB k k') ∧
  (∀ r o,MM φ (look (shr K s).H) (Np φ w t S n M0) r o→MM φ (look s.H) M0 r o):=by
 simp only [zi,Zf] at hok;obtain ⟨⟨⟨ai,ak⟩,hK⟩,ae⟩:=hok;have hT:qH (look s.T) (look (shr K s).H) (shr K s).T:=Fp ai;have hH:M4 (look s.H) (look (shr K s).H) (shr K s).H:=Y7 ak;generalize shr K s=s' at *;have ah:look s'.H t=none:=by cases e:look s'.H t with | none=>rfl | some x=>rw [e] at ae; cases ae
 have hh:∀ b k',look s'.H b=some k'→∃ k,look s.H b=some k∧leB k k':=fun b k' hb=>(JJ hH b k' hb).1
 have aa:∀ r o,Cb φ (look s'.H) r o→Cb φ (look s.H) r o:=by
  rintro x o ⟨b,k',Y,G,O⟩;obtain ⟨k,Z,h5⟩:=hh b k' Y;refine ⟨b,k,Z,G,?_⟩;cases k with
  | arr ty S n=>simp only [leB] at h5; subst h5; exact O
  | _=>trivial
 have hM:∀ r o,MM φ (look s'.H) (Np φ w t S n M0) r o→MM φ (look s.H) M0 r o:=by
  rintro x o (h | h | ⟨rfl,h,_⟩)
  ·exact .inl (aa x o h)
  ·exact .inr h
  ·exact .inl ⟨t,_,af,rfl,h⟩
 have J:∀ b,look s'.H b ≠ none→look s.H b ≠ none:=fun b hb=>by
  cases hq:look s'.H b with
  | none=>exact absurd hq hb
  | some k'=>obtain ⟨k,Y,_⟩:=hh b k' hq; rw [Y]; simp
 obtain ⟨c1,c2⟩:=Em (φ:=φ) (w:=w) hM hh
 have ab:∀ b,look s'.H b ≠ none→φ b ≠ φ t:=by
  intro b hb e;have:=r.hp.inj b t (J b hb) (by rw [af]; simp) e;rw [this,ah] at hb;exact hb rfl
 have aj:Zz φ (look s'.H) w (Np φ w t S n M0):=by
  refine ⟨fun b c hb hc=>r.hp.inj b c (J b hb) (J c hc),fun b k' hb=>?_,fun b hb o hm=>?_,fun x o hx=>?_,r.hp.gm.sub hM⟩
  ·obtain ⟨⟨k,Y,G⟩,O⟩:=JJ hH b k' hb;have Z:=r.hp.blk b k Y;cases k with
   | box ty cs =>
    simp only [leB] at G;obtain ⟨cs',rfl,h5⟩:=G;obtain ⟨c,h6,h7⟩:=Z;exact ⟨c,h6,c2 _ _ O (JX.2 _ _ _ h5 h7)⟩
   | arr ty S n=>simp only [leB] at G; subst G; exact Z
   | vec ty S es =>
    simp only [leB] at G;subst G;obtain ⟨c,cap,g1,g2,g3,g4,g5,g6,g7⟩:=Z;exact ⟨c,cap,g1,g2,g3,g4,g5,g6,c2 _ _ (Ej _ _) g7⟩
   | lp T nf st pd =>
    simp only [leB] at G;subst G;obtain ⟨tmps,d,g1,g2,g3⟩:=Z;exact ⟨tmps,d,g1,g2,fun t x ht=>⟨(g3 t x ht).1,c1 _ _ (Hz O ht) (g3 t x ht).2⟩⟩
   | mp es =>
    simp only [leB] at G;subst G;obtain ⟨en,cl,g1,g2,g3⟩:=Z;exact ⟨en,cl,g1,g2,c2 _ _ (RL _ _) g3⟩
   | mf es =>
    simp only [leB] at G;subst G;obtain ⟨en,cl,g1,g2,g3,g5⟩:=Z;exact ⟨en,cl,g1,g2,c2 _ _ (WS O) g3,g5⟩
   | mg en cl es =>
    simp only [leB] at G;subst G;obtain ⟨g1,g2,g3,g5⟩:=Z;exact ⟨g1,g2,c2 _ _ (WS O) g3,g5⟩
   | it m cl sn =>
    simp only [leB] at G;subst G;obtain ⟨g1,k0,g2,g3⟩:=Z;obtain ⟨km,ac⟩:=TD.1 O;obtain ⟨k1,g5,g6⟩:=hh m km ac;rw [g2] at g5;cases g5;exact ⟨g1,km,ac,X5 g6 g3⟩
  ·rcases hm with hm | ⟨hm,_⟩
   ·exact r.hp.fr b (J b hb) o hm
   ·exact ab b hb hm
  ·rcases hx with hx | ⟨rfl,_,hx⟩
   ·exact r.hp.lt x o hx
   ·exact hx
 have ad:Marks φ D (look s'.H) a w:=by
  obtain ⟨h0,ms,Y,G,O⟩:=r.dfs;exact ⟨h0,ms,Y,G,fun x hx=>⟨(O x hx).1,(O x hx).2.1,fun b hb=>(O x hx).2.2 b (J b hb)⟩⟩
 refine ⟨⟨ad,r.siz,aj,fun t x ht=>?_⟩,c1,hh,hM⟩;obtain ⟨y,Y,G,O⟩:=MH hT t x ht;exact ⟨(r.tm t y Y).1,c1 _ _ O (JX.1 _ _ _ G (r.tm t y Y).2)⟩
def kI (b k t:Nat) (x:AV) (q:Blk) (s:St):St:=⟨s.T,(t,q) :: s.H.map fun p=>if p.1=b then (p.1,lX k x p.2) else p⟩
def cellAt (b k:Nat) (s:St):Option AV:=(look s.H b).bind fun q=>match q with | .box _ cs=>cs[k]? | _=>none
def Qff (b k t:Nat) (x:AV) (q:Blk) (u:Value) (K:St→Prop):St→Prop:=fun s'=>cellAt b k s'=some (.p (.val u))∧look s'.H t=none∧K (kI b k t x q s')
theorem LM {k:Nat} {x:AV} (h:cellAt b k s=some x):∃ ty cs,look s.H b=some (.box ty cs)∧cs[k]?=some x:=by
 obtain ⟨y,J,G⟩:=Option.bind_eq_some_iff.1 h;split at G
 ·exact ⟨_,_,J,G⟩
 ·cases G
theorem uU {a':Act} {k t ty S:Nat} {u:Value} {K:Lp} (r:Q8 φ M0 N D (look s.T) (look s.H) a w) (ac:look s.H t=some (.arr ty S n)) (hok:zi t s (shr K s)=true) (hn:es.length=n) (a8:¬ b=t)
  (ao:Qe φ (look s.H) w (MM φ (look s.H) M0) (.tsl S es t) u) (hc:cellAt b k s'=some (.p (.val u))) (a7:look s'.H t=none) (r':Q8 φ' (Np φ w t S n M0) N D (look s'.T) (look s'.H) a' w') (E':QW φ (look (shr K s).H) w φ' (look s'.H) w') :
  ∃ ad,Q8 ad M0 N D (look (kI b k t (.tsl S es t) (.arr ty S n) s').T) (look (kI b k t (.tsl S es t) (.arr ty S n) s').H) a' w'∧QW φ (look s.H) w ad (look (kI b k t (.tsl S es t) (.arr ty S n) s').H) w' ∧
   ∀ x v,Qe φ' (look s'.H) w' (MM φ' (look s'.H) (Np φ w t S n M0)) x v→Qe ad (look (kI b k t (.tsl S es t) (.arr ty S n) s').H) w' (MM ad (look (kI b k t (.tsl S es t) (.arr ty S n) s').H) M0) x v:=by
 obtain ⟨rd,_,hh,ba⟩:=uT r ac hok;simp only [zi,Zf] at hok;obtain ⟨⟨⟨be,bf⟩,hK⟩,ay⟩:=hok;obtain ⟨Aj,cs,hb,bd⟩:=LM hc
 have hH:look (kI b k t (.tsl S es t) (.arr ty S n) s').H=upd (upd (look s'.H) b (.box Aj (cs.set k (.tsl S es t)))) t (.arr ty S n):=by
  funext c;simp only [kI,look];rw [MS];by_cases e:t=c
  ·simp [upd,e]
  ·by_cases Z:b=c
   ·subst Z; simp [upd,e,hb,lX]
   ·simp [upd,e,Z]
 rw [hH];show ∃ ad,Q8 ad M0 N D (look s'.T) _ a' w'∧_;obtain ⟨tf,aq⟩:∃ tf,tf=if φ t < w.heap.size then φ t else w'.heap.size+((s'.H.map (·.1)).map φ').foldr max 0+1:=⟨_,rfl⟩
 have Y:φ t < w.heap.size→tf=φ t:=fun h=>by rw [aq,if_pos h]
 have af:¬ φ t < w.heap.size→w'.heap.size≤tf:=fun h=>by rw [aq,if_neg h]; omega
 have au:¬ φ t < w.heap.size→n=0:=fun h=>by
  rcases r.hp.blk t _ ac with h0 | ⟨c,cap,h1,_⟩
  ·exact h0.1
  ·exact absurd (Ll.1 h1).1 h
 have a6:∀ c,look s'.H c ≠ none→φ' c ≠ tf:=by
  intro c hc e;by_cases hlt:φ t < w.heap.size
  ·rw [Y hlt] at e;exact r'.hp.fr c hc (n * S) (.inr ⟨e,Nat.le_refl _,by rw [e]; exact hlt⟩)
  ·have:=GX ((s'.H.map (·.1)).map φ') (φ' c) (List.mem_map_of_mem (Kb.1 hc));rw [aq,if_neg hlt] at e;omega
 have aa:φ t < w.heap.size→w'.heap[φ t]?=w.heap[φ t]?:=fun hlt=>E'.same (φ t) hlt fun c hc e=>rd.hp.fr c hc (n * S) (.inr ⟨e,Nat.le_refl _,by rw [e]; exact hlt⟩)
 have aw:∀ c,look (shr K s).H c ≠ none→look s.H c ≠ none:=fun c hb=>by
  cases hq:look (shr K s).H c with
  | none=>exact absurd hq hb
  | some k'=>obtain ⟨k,h1,_⟩:=hh c k' hq; rw [h1]; simp
 have aj:∀ x o,Cb φ (look (shr K s).H) x o→Cb φ (look s.H) x o:=by
  rintro x o ⟨c,k',h1,h2,h3⟩;obtain ⟨k,h4,h5⟩:=hh c k' h1;refine ⟨c,k,h4,h2,?_⟩;cases k with
  | arr ty S n=>simp only [leB] at h5; subst h5; exact h3
  | _=>trivial
 let h0:QH:=upd (upd (look s'.H) b (.box Aj (cs.set k (.tsl S es t)))) t (.arr ty S n)
 have am:h0 t=some (.arr ty S n):=by simp [h0,upd]
 have ar:h0 b=some (.box Aj (cs.set k (.tsl S es t))):=by simp [h0,upd,Ne.symm a8]
 have ab:∀ c,¬ t=c→¬ b=c→h0 c=look s'.H c:=fun c O Z=>by simp [h0,upd,O,Z]
 have G:∀ c,¬ t=c→Qu φ' t tf c=φ' c:=fun c e=>by simp [Qu,e]
 have J:Qu φ' t tf t=tf:=by simp [Qu]
 have ak:∀ x o,Cb (Qu φ' t tf) h0 x o→Cb φ' (look s'.H) x o∨(x=tf∧n * S≤o):=by
  rintro x o ⟨c,q,h1,h2,h3⟩;by_cases O:t=c
  ·subst O;rw [am] at h1;cases h1;rw [J] at h2;exact .inr ⟨h2.symm,h3⟩
  ·rw [G c O] at h2;by_cases Z:b=c
   ·subst Z;exact .inl ⟨b,_,hb,h2,trivial⟩
   ·rw [ab c O Z] at h1;exact .inl ⟨c,q,h1,h2,h3⟩
 have ax:∀ x o,x < w'.heap.size→MM (Qu φ' t tf) h0 M0 x o→MM φ' (look s'.H) (Np φ w t S n M0) x o:=by
  rintro x o hx (h | h)
  ·rcases ak x o h with h | ⟨h1,h2⟩
   ·exact .inl h
   ·by_cases hlt:φ t < w.heap.size
    ·rw [Y hlt] at h1;exact .inr (.inr ⟨h1,h2,by rw [h1]; exact hlt⟩)
    ·have:=af hlt;omega
  ·exact .inr (.inl h)
 have ae:∀ c q,look s'.H c=some q→¬ t=c:=fun c q hc e=>by subst e; rw [a7] at hc; cases hc
 have ah:∀ c q,look s'.H c=some q→b=c→q=.box Aj cs:=fun c q hc e=>by subst e; rw [hb] at hc; exact (Option.some.inj hc).symm
 have X:VR φ' (look s'.H) w' (Qu φ' t tf) h0 w':=by
  refine ⟨fun c t' cs' hc=>⟨?_,G c (ae c _ hc)⟩,fun c t' S n hc=>?_,fun c t' S n hc=>?_,fun c k' x hc ho=>?_⟩
  ·by_cases e:b=c
   ·subst e; exact ⟨_,_,ar⟩
   ·exact ⟨t',cs',by rw [ab c (ae c _ hc) e]; exact hc⟩
  ·have e:¬ b=c:=fun e=>by cases ah c _ hc e
   exact ⟨n,by rw [ab c (ae c _ hc) e]; exact hc,Nat.le_refl _,fun _=>Yp (G c (ae c _ hc)) rfl⟩
  ·have e:¬ b=c:=fun e=>by cases ah c _ hc e
   exact ⟨n,by rw [ab c (ae c _ hc) e]; exact hc,Nat.le_refl _,fun _=>⟨G c (ae c _ hc),fun c bc=>⟨c,bc,rfl⟩⟩⟩
  ·have e:¬ b=c:=fun e=>by rw [ah c _ hc e] at ho; cases ho
   exact ⟨⟨k',by rw [ab c (ae c _ hc) e]; exact hc,ho⟩,G c (ae c _ hc)⟩
 have ai:∀ x o v,w'.cell? ⟨x,o,none⟩=some v→¬ MM φ' (look s'.H) (Np φ w t S n M0) x o→w'.cell? ⟨x,o,none⟩=some v∧¬ MM (Qu φ' t tf) h0 M0 x o:=fun x o v h1 h2=>⟨h1,fun hm=>h2 (ax x o (BV h1) hm)⟩
 have az:Qe (Qu φ' t tf) h0 w' (MM (Qu φ' t tf) h0 M0) (.tsl S es t) u:=by
  simp only [Qe] at ao ⊢;obtain ⟨p1,Vz,n2,p2,p3,p4⟩:=ao;rw [ac] at p2;cases p2;refine ⟨(ZP (w:=w) (w':=w') (M:=MM φ (look s.H) M0) (fun x o v g1 g2=>?_)).1 _ _ p1,ty,n,am,by omega,fun _=>?_⟩;rotate_left
  ·rcases p4 hn with ⟨z1,z2,z3⟩ | ⟨cap,c2,q1,q2,q3,q4,q5⟩
   ·have hlt:¬ φ t < w.heap.size:=fun h=>by have:=OY z3; omega
    exact .inl ⟨z1,z2,by rw [J]; exact ZG (af hlt)⟩
   ·have hlt:φ t < w.heap.size:=(Ll.1 q2).1;exact .inr ⟨cap,c2,by rw [J,Y hlt]; exact q1,by rw [J,Y hlt,aa hlt]; exact q2,q3,q4,q5⟩
  obtain ⟨g3,g4⟩:=E'.keeps (Np φ w t S n M0) x o v g1 (fun hm=>g2 (ba x o hm));exact ai x o v g3 g4
 refine ⟨Qu φ' t tf,⟨?_,r'.siz,⟨?_,?_,?_,fun x o hx=>r'.hp.lt x o (.inl hx),r'.hp.gm.w,fun g hg o hm=>r'.hp.gm.m g hg o (ax g o (vS r'.hp.gm.w g hg) hm)⟩,fun c x av=>⟨(r'.tm c x av).1,(QJ ai X).1 _ _ (r'.tm c x av).2⟩⟩,?_,(QJ ai X).1⟩
 ·obtain ⟨g0,ms,g1,g2,g3⟩:=r'.dfs;refine ⟨g0,ms,g1,g2,fun x hx=>?_⟩;obtain ⟨g4,g5,g6⟩:=g3 x hx;refine ⟨g4,g5,fun c hc e=>?_⟩;by_cases O:t=c
  ·subst O;rw [J] at e;by_cases hlt:φ t < w.heap.size
   ·rw [Y hlt] at e;rcases r.hp.blk t _ ac with ⟨_,q1⟩ | ⟨c2,cap,q1,_⟩
    ·rw [← e,aa hlt,q1] at g5;cases g5
    ·rw [← e,aa hlt,q1] at g5;cases g5
   ·have h1:=af hlt;have h2:=(Ll.1 g5).1;omega
  ·rw [G c O] at e;refine g6 c ?_ e;by_cases Z:b=c
   ·subst Z; rw [hb]; simp
   ·rw [← ab c O Z]; exact hc
 ·have an:∀ c,h0 c ≠ none→¬ t=c→look s'.H c ≠ none:=fun c hc O=>by
   by_cases Z:b=c
   ·subst Z; rw [hb]; simp
   ·rw [← ab c O Z]; exact hc
  intro c d hc hd e;by_cases O:t=c <;> by_cases Z:t=d
  ·exact O.symm.trans Z
  ·subst O;rw [J,G d Z] at e;exact absurd e.symm (a6 d (an d hd Z))
  ·subst Z;rw [J,G c O] at e;exact absurd e (a6 c (an c hc O))
  ·rw [G c O,G d Z] at e;exact r'.hp.inj c d (an c hc O) (an d hd Z) e
 ·intro c q hc;by_cases O:t=c
  ·subst O;have:q=.arr ty S n:=Option.some.inj (hc.symm.trans am);subst this;rw [J];by_cases hlt:φ t < w.heap.size
   ·rw [Y hlt];rcases r.hp.blk t _ ac with ⟨q0,q1⟩ | ⟨c2,cap,q1,q2⟩
    ·exact .inl ⟨q0,by rw [aa hlt]; exact q1⟩
    ·exact .inr ⟨c2,cap,by rw [aa hlt]; exact q1,q2⟩
   ·exact .inl ⟨au hlt,ZG (af hlt)⟩
  ·rw [G c O];by_cases Z:b=c
   ·subst Z;have:q=.box Aj (cs.set k (.tsl S es t)):=Option.some.inj (hc.symm.trans ar);subst this;obtain ⟨c1,g1,g2⟩:=r'.hp.blk b _ hb;obtain ⟨u',g3,g4⟩:=R3 g2 bd;simp only [Qe,QI] at g4;subst g4;exact ⟨c1,g1,FX ((QJ ai X).2 _ _ g2) g3 az⟩
   ·have hc':look s'.H c=some q:=by rw [← ab c O Z]; exact hc
    exact ZI ai X rfl (r'.hp.blk c q hc')
 ·intro c hc o hm;by_cases O:t=c
  ·subst O;rw [J] at hm;by_cases hlt:φ t < w.heap.size
   ·rw [Y hlt] at hm;exact r.hp.fr t (by rw [ac]; simp) o hm
   ·have h1:=af hlt;have h2:=r'.hp.lt _ _ (.inl hm);omega
  ·rw [G c O] at hm;refine r'.hp.fr c ?_ o (.inl hm);by_cases Z:b=c
   ·subst Z; rw [hb]; simp
   ·rw [← ab c O Z]; exact hc
 ·have al:∀ c q,1000≤c→¬ t=c→look s.H c=some q→∃ q',look (shr K s).H c=some q'∧leB q q':=by
   intro c q hc O hq
   have hf:look (s.H.filter fun p=>p.1 != t) c=some q:=by
    rw [N9 (f:=fun x=>x != t) (by simpa using fun e=>O e.symm)];exact hq
   obtain ⟨q',h1⟩:=Kz hK c _ hc hf;obtain ⟨q2,h2,h3⟩:=hh c q' h1;rw [hq] at h2;cases h2;exact ⟨q',h1,h3⟩
  refine ⟨E'.os,E'.tape,E'.output,E'.size,fun x hx ay=>E'.same x hx (fun c hc=>ay c (aw c hc)),fun x o hx hm=>E'.cell x o hx (fun h=>hm (aj x o h)),?_,?_,?_,?_,?_⟩
  ·intro x o hx hm;rcases ak x o hm with h | ⟨h1,h⟩
   ·exact aj x o (E'.mu x o hx h)
   ·by_cases hlt:φ t < w.heap.size
    ·rw [Y hlt] at h1;exact ⟨t,_,ac,h1.symm,h⟩
    ·have:=af hlt;have:=E'.size;omega
  ·intro c t' q hc hq;have O:¬ t=c:=fun e=>by subst e; rw [ac] at hq; cases hq
   obtain ⟨q',h1,h2⟩:=al c _ hc O hq;simp only [leB] at h2;obtain ⟨cs',rfl,_⟩:=h2;obtain ⟨⟨bb,h3⟩,h4⟩:=E'.kb c t' cs' hc h1;refine ⟨?_,by rw [G c O]; exact h4⟩;by_cases Z:b=c
   ·subst Z;rw [hb] at h3;cases h3;exact ⟨_,ar⟩
   ·exact ⟨bb,(ab c O Z).trans h3⟩
  ·intro c t' S' n' hc hq;by_cases O:t=c
   ·subst O;rw [ac] at hq;cases hq;refine ⟨n,am,Nat.le_refl _,fun _=>?_⟩;by_cases hlt:φ t < w.heap.size
    ·exact Yp (J.trans (Y hlt)) (aa hlt)
    ·exact NF (ZG zo) (by rw [J]; exact ZG (af hlt))
   ·obtain ⟨q',h1,h2⟩:=al c _ hc O hq;simp only [leB] at h2;subst h2;obtain ⟨n2,h3,h4,h5⟩:=E'.kt c t' S' n' hc h1;have Z:¬ b=c:=fun e=>by cases ah c _ h3 e
    exact ⟨n2,(ab c O Z).trans h3,h4,fun e=>by rw [G c O]; exact h5 e⟩
  ·intro c t' S' es' hc hq;have O:¬ t=c:=fun e=>by subst e; rw [ac] at hq; cases hq
   obtain ⟨q',h1,h2⟩:=al c _ hc O hq;simp only [leB] at h2;subst h2;obtain ⟨n2,h3,h4,h5⟩:=E'.kv c t' S' es' hc h1;have Z:¬ b=c:=fun e=>by cases ah c _ h3 e
   exact ⟨n2,(ab c O Z).trans h3,h4,fun e=>⟨by rw [G c O]; exact (h5 e).1,(h5 e).2⟩⟩
  ·intro c q x hc hq ho;have O:¬ t=c:=fun e=>by subst e; rw [ac] at hq; cases hq; cases ho
   obtain ⟨q',h1,h2⟩:=al c _ hc O hq;obtain ⟨⟨q2,h3,h4⟩,h5⟩:=E'.ko c q' x hc h1 (X5 h2 ho);have Z:¬ b=c:=fun e=>by rw [ah c _ h3 e] at h4; cases h4
   exact ⟨⟨q2,(ab c O Z).trans h3,h4⟩,by rw [G c O]; exact h5⟩
section
variable {R:Type} {a:Option R} {P:Program} {N:Nat} {f:FuncId} {args:List AV} {dst:Option Tmp} {s:St} {K:R→St→Prop} {Q:R→AX→St→Prop}
def Qfg {R:Type} (b k t:Nat) (x:AV) (q:Blk) (u:Value) (K:R→St→Prop):R→St→Prop:=fun r=>Qff b k t x q u (K r)
def Qfh {R:Type} (b k t:Nat) (x:AV) (q:Blk) (u:Value) (Q:R→AX→St→Prop):R→AX→St→Prop:=fun r e=>Qff b k t x q u (Q r e)
theorem Wu (b k t ty S n:Nat) (es:List (List PV)) (C:Lp)   (hn:es.length=n) (hok:∀ J O G,(zi t (GY b k (.p (.val (.slice J O G))) s) (shr C (GY b k (.p (.val (.slice J O G))) s))&&Z6 (look (shr C (GY b k (.p (.val (.slice J O G))) s)).H) args)=true)
  (h:∀ J O G,NS a P N f args dst (shr C (GY b k (.p (.val (.slice J O G))) s)) (Qfg b k t (.tsl S es t) (.arr ty S n) (.slice J O G) K) (Qfh b k t (.tsl S es t) (.arr ty S n) (.slice J O G) Q))(hb:cellAt b k s=some (.tsl S es t):=by kernel_rfl)(ad:look s.H t=some (.arr ty S n):=by kernel_rfl):NS a P N f args dst s K Q:=by
 refine ⟨fun r hr=>?_⟩;intro φ M0 D G w vs r1 ha;obtain ⟨Ip,cs,hq,DD⟩:=LM hb;obtain ⟨c,g1,g2⟩:=r1.hp.blk b _ hq;obtain ⟨u,g3,g4⟩:=R3 g2 DD
 have ab:∃ J O G,u=.slice J O G:=by
  have g5:=g4;simp only [Qe] at g5;obtain ⟨p1,Vz,n2,p2,p3,p4⟩:=g5;rw [ad] at p2;cases p2;rcases p4 hn with ⟨_,q1,_⟩ | ⟨cap,c2,q1,_⟩
  ·exact ⟨_,_,_,q1⟩
  ·exact ⟨_,_,_,q1⟩
 obtain ⟨J,O,ai,ab⟩:=ab;have ah:¬ b=t:=fun e=>by subst e; rw [hq] at ad; cases ad
 have hU:look (GY b k (.p (.val u)) s).H=upd (look s.H) b (.box Ip (cs.set k (.p (.val u)))):=zh hq;have hk:∀ x o v,w.cell? ⟨x,o,none⟩=some v→¬ MM φ (look s.H) M0 x o→w.cell? ⟨x,o,none⟩=some v∧¬ MM φ (upd (look s.H) b (.box Ip (cs.set k (.p (.val u))))) M0 x o:=fun x o v g1 g2=>⟨g1,fun hm=>g2 (hm.imp (EA hq x o) id)⟩
 have r2:Q8 φ M0 N D (look (GY b k (.p (.val u)) s).T) (look (GY b k (.p (.val u)) s).H) G w:=by
  rw [hU];refine wV r1 hq fun c2 ak=>?_
  rw [g1] at ak;cases ak;exact FX g2 g3 (by simp [Qe,QI])
 have af:look (GY b k (.p (.val u)) s).H t=some (.arr ty S n):=by rw [hU]; simp [upd,ah,ad]
 have ae:Qe φ (look (GY b k (.p (.val u)) s).H) w (MM φ (look (GY b k (.p (.val u)) s).H) M0) (.tsl S es t) u:=by
  rw [hU];exact (QJ hk (Bv hq)).1 _ _ g4
 have E1:QW φ (look s.H) w φ (look (GY b k (.p (.val u)) s).H) w:=by rw [hU]; exact EB hq
 have ao:Qi φ (look (GY b k (.p (.val u)) s).H) w (MM φ (look (GY b k (.p (.val u)) s).H) M0) args vs:=by
  rw [hU];exact (QJ hk (Bv hq)).2 _ _ ha
 have Y:=hok J O ai;rw [← ab] at Y;simp only [Zf] at Y;obtain ⟨aa,aj⟩:=Y;obtain ⟨r3,c1,hh,an⟩:=uT r2 af aa;have am:=(Em (φ:=φ) (w:=w) an hh).2 _ _ aj ao;have hu:=h J O ai;rw [← ab] at hu;refine Calls.mono (hu.h r hr φ _ D G w vs r3 am) fun e w' he=>?_
 cases e with
 | returned v =>
  obtain ⟨φ',s',⟨k1,k2,k3⟩,r',E'⟩:=he;obtain ⟨Z,r4,E4,_⟩:=uU r2 af aa hn ah ae k1 k2 r' E';exact ⟨Z,_,k3,r4,E1.trans E4⟩
 | panicked chain =>
  obtain ⟨φ',x,s',⟨k1,k2,k3⟩,r',E',hx⟩:=he;obtain ⟨Z,r4,E4,hX⟩:=uU r2 af aa hn ah ae k1 k2 r' E';refine ⟨Z,x,_,k3,r4,E1.trans E4,?_⟩;cases x with
  | panic v =>
   obtain ⟨y,e1,e2⟩:=hx;exact ⟨y,e1,hX _ _ e2⟩
  | _=>exact hx
 | outgrown=>exact he
theorem Xz {k t:Nat} {x:AV} {q:Blk} {u:Value} (s0:St) (e:kI b k t x q s'=s0)   (h:DW a K s0)(hb:cellAt b k s'=some (.p (.val u)):=by kernel_rfl)(G:look s'.H t=none:=by kernel_rfl):DW a (Qfg b k t x q u K) s':=by
 subst e;exact ⟨fun r J=>⟨hb,G,h.h r J⟩⟩
theorem QgL {k t:Nat} {x:AV} {q:Blk} {u:Value} {ex:AX} (s0:St) (e:kI b k t x q s'=s0) (hb:cellAt b k s'=some (.p (.val u))) (G:look s'.H t=none) (h:Zv a Q ex s0):Zv a (Qfh b k t x q u Q) ex s':=by
 subst e;exact ⟨fun r J=>⟨hb,G,h.h r J⟩⟩
end
section
variable {P:Program} {o:Oper} {T:Nat→Option AV} {h:QH}
theorem uV (l:List UInt8) (a b:Nat):(JW l).extract a b=JW ((l.take b).drop a):=by
 apply ByteArray.ext;simp [JW,ByteArray.data_extract,List.drop_take]
theorem Qbr (l:List UInt8):(JW l).size=l.length:=by simp [JW,ByteArray.size]
theorem YF {P:Program} {s:Sem α} {a:α} (f:α→Sem β) (h:Yq P s=some a):Yq P (s >>= f)=Yq P (f a):=by
 induction s with
 | pure b=>simp only [Yq,QO] at h; subst h; rfl
 | program k G=>exact G P h
 | mark m k G=>exact G h
 | _=>simp [Yq] at h
theorem Nq {d:TypeDesc} (h:P.underlying t=some d):Yq P (underlying t)=some d:=by
 unfold underlying;rw [YF (a:=P) _ rfl,h];rfl
theorem EC {k:IntKind} {i:Int} {y:Nat} {c:BoundsCode} (h0:0≤i) (G:i≤y):Yq P (Instr.sliceBound (.int k i) y c)=some i.toNat:=by
 simp [Instr.sliceBound,asIntOf,h0,G];rfl
def aR (T:Nat→Option AV) (x:Option Operand):Option Value:=x.map fun y=>(known T y).getD undef
theorem zk {d n:Int} (h:NU T d (some x)=some n):∃ k,known T x=some (.int k n):=by
 simp only [NU] at h;split at h
 ·rename_i k m G;cases h;exact ⟨k,by simp [known,G]; rfl⟩
 ·cases h
theorem lY {hi:Option Operand} {a b:Int} (G:NU T 0 lo=some a) (J:NU T len hi=some b) (h0:0≤a) (h1:a≤b) (Z:b≤len):Yq P (Instr.sliceBounds false len len (aR T lo) (aR T hi) none)=some (a.toNat,b.toNat,len):=by
 have hb:(b.toNat:Int)=b:=by omega
 cases hi with
 | none =>
  simp only [NU,QO] at J;subst J;cases lo with
  | none =>
   simp only [NU,QO] at G;subst G;simp [Instr.sliceBounds,aR];rfl
  | some x =>
   obtain ⟨k,Y⟩:=zk G;simp only [Instr.sliceBounds,aR,Option.map_some,Option.map_none,Y,Option.getD_some,pure_bind];rw [YF _ (EC h0 h1)];rfl
 | some y =>
  obtain ⟨k',O⟩:=zk J;cases lo with
  | none =>
   simp only [NU,QO] at G;subst G;simp only [Instr.sliceBounds,aR,Option.map_some,Option.map_none,O,Option.getD_some,pure_bind];rw [YF _ (EC zo Z)];rfl
  | some x =>
   obtain ⟨k,Y⟩:=zk G;simp only [Instr.sliceBounds,aR,Option.map_some,Y,O,Option.getD_some,pure_bind];rw [YF _ (EC zo Z)];rw [YF _ (EC h0 zo)];rfl
theorem Pd {hi:Option Operand} {l:List UInt8} {a b:Int} (ho:o.op=.slice t x lo hi none) (ht:P.underlying t=some .string) (hx:Zc T x=some (.p (.val (.string (JW l))))) (O:NU T 0 lo=some a) (J:NU T l.length hi=some b)
  (hc:sliceB a b l.length=true):Jk P o T h=some (.p (.val (.string (JW ((l.take b.toNat).drop a.toNat)))),none,[]):=by
 simp only [sliceB,decide_eq_true_eq] at hc;obtain ⟨c1,c2,c3⟩:=hc;have h1:TP P T t x lo hi none=none:=by simp [TP,ht,hx]
 have G:known T x=some (.string (JW l)):=by simp [known,hx]; rfl
 have Z:(allKnown T o.op.operands.toList&&XH o.op)=true:=by
  rw [ho]
  have e1:∀ y,lo=some y→(known T y).isSome=true:=by
   rintro y rfl;obtain ⟨k,G⟩:=zk O;rw [G]; rfl
  have e2:∀ y,hi=some y→(known T y).isSome=true:=by
   rintro y rfl;obtain ⟨k,G⟩:=zk J;rw [G]; rfl
  cases lo with
  | none =>
   cases hi with
   | none=>simp [Op.operands,allKnown,XH,G]
   | some y=>simp [Op.operands,allKnown,XH,G,e2 y rfl]
  | some x =>
   cases hi with
   | none=>simp [Op.operands,allKnown,XH,G,e1 x rfl]
   | some y=>simp [Op.operands,allKnown,XH,G,e1 x rfl,e2 y rfl]
 have Y:Yq P (execOp (fun x=>(known T x).getD undef) o)=some (.value (.string (JW ((l.take b.toNat).drop a.toNat)))):=by
  unfold execOp;rw [ho];dsimp only
  have:Yq P (Instr.sliceAt t ((known T x).getD undef) (aR T lo) (aR T hi) none)=some (.string (JW ((l.take b.toNat).drop a.toNat))):=by
   rw [G];unfold Instr.sliceAt;rw [YF _ (Nq ht)];show Yq P (Instr.slice t (.string (JW l)) (aR T lo) (aR T hi) none)=_;unfold Instr.slice;rw [YF _ (Nq ht)];have hB:=lY (P:=P) (T:=T) O J c1 c2 c3;rw [← Qbr l] at hB
   have:Yq P (Instr.sliceBounds false (JW l).size (JW l).size (aR T lo) (aR T hi) none >>= fun x=>(pure (.string ((JW l).extract x.1 x.2.1)):Sem Value))=some (.string (JW ((l.take b.toNat).drop a.toNat))):=by
    rw [YF _ hB,uV];rfl
   exact this
  exact (YF _ this)
 simp only [Jk,ho,h1,TF];unfold GA;rw [if_pos Z,Y];rfl
end
def QdP:AV→Bool
 | .p (.val (.slice none 0 0))=>true
 | .vnil=>true
 | _=>false
theorem uW {x:AV} (G:QdP x=true) (J:Qe φ h w M x v):v=.slice none 0 0:=by
 unfold QdP at G;split at G
 ·simpa [Qe,QI] using J
 ·simpa [Qe] using J
 ·cases G
def pnC (S t:Nat):List (Nat × Nat)→St→St
 | [],s=>s
 | (b,k) :: l,s=>pnC S t l (GY b k (.tsl S [] t) s)
def QdQ (S t:Nat):List (Nat × Nat)→St→Bool
 | [],_=>true
 | (b,k) :: l,s=>(match cellAt b k s with | some x=>QdP x | none=>false)&&QdQ S t l (GY b k (.tsl S [] t) s)
def pnS (ty S t:Nat) (ts:List Nat) (bs:List (Nat × Nat)) (s:St):St:=pnC S t bs ⟨ts.map (fun x=>(x,AV.tsl S [] t))++s.T,(t, .arr ty S 0) :: s.H⟩
def Qir (ty S t:Nat) (ts:List Nat) (bs:List (Nat × Nat)) (s:St):Bool :=
 (look s.H t).isNone&&ts.all (fun x=>match look s.T x with | some v=>QdP v | none=>false)&&QdQ S t bs ⟨ts.map (fun x=>(x,AV.tsl S [] t))++s.T,(t, .arr ty S 0) :: s.H⟩
def QdR (φ:Nat→Nat) (h:QH) (w:World) (ty S t:Nat):Prop:=w.heap[φ t]?=none∧h t=some (.arr ty S 0)
theorem Qbs {ty S t:Nat} (p:QdR φ h w ty S t):Qe φ h w M (.tsl S [] t) (.slice none 0 0):=by
 simp only [Qe,QI];exact ⟨.inr ⟨trivial,none,0,rfl⟩,ty,0,p.2,Nat.le_refl _,fun _=>.inl (by simp [p.1])⟩
theorem Qbt {N:Nat} {D:DB} {φ:Nat→Nat} {M0:Zr} {a:Act} {w:World} {ty S t:Nat}:∀ (bs:List (Nat × Nat)) (s:St),QdQ S t bs s=true→QdR φ (look s.H) w ty S t→Q8 φ M0 N D (look s.T) (look s.H) a w →
  Q8 φ M0 N D (look (pnC S t bs s).T) (look (pnC S t bs s).H) a w∧QW φ (look s.H) w φ (look (pnC S t bs s).H) w
 | [],s,_,_,r=>⟨r,QW.refl _ _ _⟩
 | (b,k) :: bs,s,h,p,r=>by
  simp only [QdQ,Zf] at h;obtain ⟨J,h2⟩:=h;cases hc:cellAt b k s with
  | none=>rw [hc] at J; cases J
  | some x =>
   rw [hc] at J;obtain ⟨Ip,cs,hb,Z⟩:=LM hc;have O:=zh (k:=k) (x:=.tsl S [] t) hb;have Y:¬ b=t:=fun e=>by rw [e,p.2] at hb; cases hb
   have p':QdR φ (look (GY b k (.tsl S [] t) s).H) w ty S t:=⟨p.1,by rw [O]; simp [upd,Y,p.2]⟩
   have r':Q8 φ M0 N D (look (GY b k (.tsl S [] t) s).T) (look (GY b k (.tsl S [] t) s).H) a w:=by
    rw [O];refine wV r hb fun c G=>?_
    obtain ⟨c0,g1,g2⟩:=r.hp.blk b _ hb;rw [g1] at G;cases G;obtain ⟨u,g3,g4⟩:=R3 g2 Z;rw [uW J g4] at g3;exact FX g2 g3 (Qbs p)
   obtain ⟨r2,E2⟩:=Qbt bs (GY b k (.tsl S [] t) s) h2 p' r';have E1:QW φ (look s.H) w φ (look (GY b k (.tsl S [] t) s).H) w:=by rw [O]; exact EB hb
   exact ⟨r2,E1.trans E2⟩
theorem uX {S t:Nat} {T:List (Nat × AV)}:∀ (ts:List Nat) (x:Nat),look (ts.map (fun x=>(x,AV.tsl S [] t))++T) x=if x ∈ ts then some (.tsl S [] t) else look T x
 | [],x=>by simp
 | y :: ts,x=>by
  simp only [List.map_cons,List.cons_append,look,List.mem_cons];by_cases e:y=x
  ·simp [e]
  ·have G:¬ x=y:=fun h=>e h.symm
   simp only [e,G,if_false,false_or];exact uX ts x
theorem Yr (ty S t:Nat) (ts:List Nat) (bs:List (Nat × Nat)) (hok:Qir ty S t ts bs s=true:=by kernel_rfl):Weak N s (pnS ty S t ts bs s):=by
 intro φ M0 D a w r;simp only [Qir,Zf] at hok;obtain ⟨⟨h1,h2⟩,h3⟩:=hok;have hn:look s.H t=none:=by cases e:look s.H t with | none=>rfl | some x=>rw [e] at h1; cases h1
 obtain ⟨f,hf⟩:∃ f,f=w.heap.size+((s.H.map (·.1)).map φ).foldr max 0+1:=⟨_,rfl⟩
 have ac:∀ c,look s.H c ≠ none→φ c ≠ f:=by
  intro c hc e;have:=GX ((s.H.map (·.1)).map φ) (φ c) (List.mem_map_of_mem (Kb.1 hc));omega
 have aa:w.heap.size≤f:=by omega
 have hne:∀ c q,look s.H c=some q→¬ t=c:=fun c q hc e=>by rw [e] at hn; rw [hn] at hc; cases hc
 have G:Qu φ t f t=f:=by simp [Qu]
 have X:VR φ (look s.H) w (Qu φ t f) (upd (look s.H) t (.arr ty S 0)) w:=by
  refine ⟨fun c O cs' hc=>?_,fun c O S n hc=>?_,fun c O S n hc=>?_,fun c k' x hc ho=>?_⟩
  ·have:=hne c _ hc;exact ⟨⟨O,cs',by simp [upd,this,hc]⟩,by simp [Qu,this]⟩
  ·have:=hne c _ hc;exact ⟨n,by simp [upd,this,hc],Nat.le_refl _,fun _=>Yp (by simp [Qu,this]) rfl⟩
  ·have:=hne c _ hc;exact ⟨n,by simp [upd,this,hc],Nat.le_refl _,fun _=>⟨by simp [Qu,this],fun c ad=>⟨c,ad,rfl⟩⟩⟩
  ·have:=hne c _ hc;exact ⟨⟨k',by simp [upd,this,hc],ho⟩,by simp [Qu,this]⟩
 have ab:∀ x o,x < w.heap.size→Cb (Qu φ t f) (upd (look s.H) t (.arr ty S 0)) x o→Cb φ (look s.H) x o:=by
  rintro x o Y ⟨c,q,g1,g2,g3⟩;by_cases e:t=c
  ·simp only [Qu,e,if_true] at g2;omega
  ·simp only [upd,Qu,e,if_false] at g1 g2;exact ⟨c,q,g1,g2,g3⟩
 have E:QW φ (look s.H) w (Qu φ t f) (upd (look s.H) t (.arr ty S 0)) w :=
  ⟨rfl,rfl,rfl,Nat.le_refl _,fun _ _ _=>rfl,fun _ _ _ _=>rfl,fun x o Y J=>ab x o Y J,
   fun c O cs _ hc=>by have:=hne c _ hc; exact ⟨⟨cs,by simp [upd,this,hc]⟩,by simp [Qu,this]⟩,fun c O S n _ hc=>X.t c O S n hc,fun c O S n _ hc=>X.v c O S n hc,fun c k x _ hc ho=>X.o c k x hc ho⟩
 have hp:Zz (Qu φ t f) (upd (look s.H) t (.arr ty S 0)) w M0:=by
  refine ⟨fun c d hc hd e=>?_,fun c q hc=>?_,fun c hc o J=>?_,r.hp.lt,r.hp.gm.evol E⟩
  ·by_cases e1:t=c <;> by_cases Z:t=d
   ·exact e1.symm.trans Z
   ·have e3:¬ c=d:=fun x=>Z (e1.trans x)
    simp only [Qu,e1,if_true,e3,if_false] at e;simp only [upd,Z,if_false] at hd;exact absurd e.symm (ac d hd)
   ·have e3:¬ d=c:=fun x=>e1 (Z.trans x)
    simp only [Qu,Z,if_true,e3,if_false] at e;simp only [upd,e1,if_false] at hc;exact absurd e (ac c hc)
   ·simp only [Qu,e1,Z,if_false] at e;simp only [upd,e1,Z,if_false] at hc hd;exact r.hp.inj c d hc hd e
  ·by_cases e:t=c
   ·have:q=.arr ty S 0:=by simpa [upd,e] using hc.symm
    subst this;rw [← e,G];exact .inl ⟨rfl,ZG aa⟩
   ·have hc':look s.H c=some q:=by simpa [upd,e] using hc
    have h3:Qu φ t f c=φ c:=by simp [Qu,e]
    rw [h3];exact ZI (E.keeps M0) X rfl (r.hp.blk c q hc')
  ·by_cases e:t=c
   ·rw [← e,G] at J;have:=r.hp.lt _ _ J;omega
   ·have h3:Qu φ t f c=φ c:=by simp [Qu,e]
    rw [h3] at J;exact r.hp.fr c (by simpa [upd,e] using hc) o J
 have r1:=r.keep E X hp;have pa:QdR (Qu φ t f) (upd (look s.H) t (.arr ty S 0)) w ty S t:=⟨by rw [G]; exact ZG aa,by simp [upd]⟩
 let s1:St:=⟨ts.map (fun x=>(x,AV.tsl S [] t))++s.T,(t, .arr ty S 0) :: s.H⟩
 have r2:Q8 (Qu φ t f) M0 N D (look s1.T) (look s1.H) a w:=by
  refine ⟨r1.dfs,r1.siz,r1.hp,fun x v Y=>?_⟩;rw [uX] at Y;by_cases J:x ∈ ts
  ·rw [if_pos J] at Y;cases Y;have h4:=List.all_eq_true.1 h2 x J;cases hl:look s.T x with
   | none=>rw [hl] at h4; cases h4
   | some y =>
    rw [hl] at h4;obtain ⟨g1,g2⟩:=r1.tm x y hl;refine ⟨g1,?_⟩;rw [uW h4 g2];exact Qbs pa
  ·rw [if_neg J] at Y;exact r1.tm x v Y
 obtain ⟨r3,E3⟩:=Qbt (ty:=ty) bs s1 h3 pa r2;exact ⟨_,r3,E.trans E3⟩
section
variable {P:Program} {o:Oper} {T:Nat→Option AV} {h:QH}
def U3 (lo hi G:Int) (len:Nat):Bool:=decide (0≤lo∧lo≤hi∧hi≤G∧G≤len)
theorem UL {z:Operand} {S:Nat} {l:List α} {sv:AV} {a b c:Int} (ho:o.op=.slice t x lo (some y) (some z)) (ht:P.underlying t=some (.slice e)) (Z:(P.info? e).map (·.size)=some S) (hx:Zc T x=some sv) (hs:elems sv=some (S,List.map enc l))
  (G:NU T 0 lo=some a) (ab:NU T (List.map enc l).length (some y)=some b) (J:NU T (List.map enc l).length (some z)=some c) (hc:U3 a b c l.length=true):Jk P o T h=some (.p (.sl S (List.map enc ((l.take b.toNat).drop a.toNat))),none,[]):=by
 obtain ⟨i,O,Y⟩:=Fe.1 Z;simp only [U3,decide_eq_true_eq] at hc;have h1:=NV (d:=0) G hc.1;have h2:=NV ab zo;have aa:=NV J zo;have h3:a.toNat≤b.toNat:=by omega
 have h4:b.toNat≤l.length:=by omega
 have h5:S=i.size∧a.toNat≤b.toNat∧b.toNat≤(List.map enc l).length:=⟨Y.symm,h3,by simpa using h4⟩
 have h6:TP P T t x lo (some y) (some z)=some (.p (.sl S (((List.map enc l).take b.toNat).drop a.toNat)),none,[]):=by
  simp only [TP,ht,hx,hs,O,h1,h2,aa];rw [if_pos h5,if_pos (by simp; omega)]
 simp only [Jk,ho,h6,TF,List.map_drop,List.map_take]
theorem Om {w k:List UInt8} {f:Bool} {x:AV} {l:List (Bool × List UInt8 × AV)} (h:(Qr w k&&f)=true):LF w ((f,k,x) :: l)=some x:=by simp only [LF,h,if_true]
theorem U4 {w k:List UInt8} {f:Bool} {x:AV} {l:List (Bool × List UInt8 × AV)} {q:Option AV} (h:(Qr w k&&f)=false) (G:LF w l=q):LF w ((f,k,x) :: l)=q:=by simp only [LF,h,Bool.false_eq_true,if_false]; exact G
theorem QdS {w:List UInt8}:LF w []=none:=rfl
theorem Oo {w:List UInt8} {es:List (Bool × List UInt8 × AV)} {v:AV} (J:o.op=.lookup t x ix ok) (G:P.underlying t=some (.map kt e)) (Y:P.underlying kt=some .string) (O:Zc T x=some (.mv b)) (hi:Zc T ix=some (.p (.val (.string (JW w))))) (hb:h b=some (.mf es)) (hf:LF w es=some v) :
  Jk P o T h=some (C8 ok v true,none,[b]):=by
 simp [Jk,TF,J,Xi,JI,G,Y,O,hi,hb,TN,hf]
theorem QdT {w:List UInt8} {es:List (Bool × List UInt8 × AV)} (O:o.op=.lookup t x ix ok) (G:P.underlying t=some (.map kt e)) (Z:P.underlying kt=some .string) (Y:Zc T x=some (.mv b)) (hi:Zc T ix=some (.p (.val (.string (JW w))))) (hb:h b=some (.mf es)) (J:(P.info? e).bind (·.zero)=some z) (hf:LF w es=none) :
  Jk P o T h=some (C8 ok (zR z) false,none,[b]):=by
 simp [Jk,TF,O,Xi,JI,G,Z,Y,hi,hb,TN,hf,J]
end
def Qis (b:Nat) (k:Blk) (s:St):St:=⟨s.T,s.H.map fun p=>if p.1=b then (p.1,k) else p⟩
theorem yT {k O:Blk}:∀ (H:List (Nat × Blk)) (c:Nat),look H b=some O→look (H.map fun p=>if p.1=b then (p.1,k) else p) c=upd (look H) b k c
 | H,c,h0=>by
  have:∀ (H:List (Nat × Blk)) (c:Nat),look (H.map fun p=>if p.1=b then (p.1,k) else p) c=if b=c then (look H c).map (fun _=>k) else look H c:=by
   intro H
   induction H with
   | nil=>intro c; simp [look]
   | cons p H J =>
    intro c;obtain ⟨d,q⟩:=p;rw [List.map_cons];by_cases G:d=b
    ·subst G;simp only [if_true,look];by_cases e:d=c
     ·simp [e]
     ·simp only [e,if_false]; rw [J]; simp [e]
    ·simp only [G,if_false,look];by_cases e:d=c
     ·subst e; simp [Ne.symm G]
     ·simp only [e,if_false]; exact J c
  rw [this];by_cases e:b=c
  ·subst e; simp [upd,h0]
  ·simp [upd,e]
theorem dX (b:Nat) {es:List (Bool × List UInt8 × AV)} (es':List (Bool × List UInt8 × AV)) (hb:Qdm (look s.H b)=some es) (he:TE es'=TE es):Weak N s (Qis b (.mf es') s):=by
 intro φ M0 D a w r;obtain ⟨k0,G,J,en,clock,hw,Z,Y,O⟩:=QaH hb r.hp;have hH:look (Qis b (.mf es') s).H=upd (look s.H) b (.mf es'):=by funext c; exact yT s.H c G
 rw [hH];show ∃ φ',Q8 φ' M0 N D (look s.T) _ a w∧_
 have aa:∀ x o,Cb φ (upd (look s.H) b (.mf es')) x o→Cb φ (look s.H) x o:=by
  rintro x y ⟨d,q,g1,g2,g3⟩;by_cases e:b=d
  ·refine ⟨b,_,G,by rw [e]; exact g2,?_⟩;cases k0 <;> first | trivial | cases J
  ·exact ⟨d,q,by simpa [upd,e] using g1,g2,g3⟩
 have hne:∀ c k,look s.H c=some k→k.ob=none→¬ b=c:=fun c k hc hk e=>by rw [← e,G] at hc; cases hc; rw [hk] at J; cases J
 have X:VR φ (look s.H) w φ (upd (look s.H) b (.mf es')) w:=by
  refine ⟨fun c t q hc=>⟨⟨t,q,?_⟩,rfl⟩,fun c t S n hc=>⟨n,?_,Nat.le_refl _,fun _=>Yp rfl rfl⟩,fun c t S n hc=>⟨n,?_,Nat.le_refl _,fun _=>⟨rfl,fun c hc=>⟨c,hc,rfl⟩⟩⟩,fun c k x hc ho=>⟨?_,rfl⟩⟩
  ·simp [upd,hne c _ hc rfl,hc]
  ·simp [upd,hne c _ hc rfl,hc]
  ·simp [upd,hne c _ hc rfl,hc]
  ·by_cases e:b=c
   ·subst e;rw [G] at hc;cases hc;rw [J] at ho;exact ⟨.mf es',by simp [upd],ho⟩
   ·exact ⟨k,by simp [upd,e,hc],ho⟩
 have E:QW φ (look s.H) w φ (upd (look s.H) b (.mf es')) w :=
  ⟨rfl,rfl,rfl,Nat.le_refl _,fun _ _ _=>rfl,fun _ _ _ _=>rfl,fun x o _ hm=>aa x o hm,
   fun c t cs _ hc=>⟨⟨cs,by simp [upd,hne c _ hc rfl,hc]⟩,rfl⟩,fun c t S n _ hc=>X.t c t S n hc,fun c t S n _ hc=>X.v c t S n hc,fun c k x _ hc ho=>X.o c k x hc ho⟩
 have g:∀ d,upd (look s.H) b (.mf es') d ≠ none→look s.H d ≠ none:=fun d hd=>by
  by_cases e:b=d
  ·rw [← e,G]; simp
  ·simpa [upd,e] using hd
 refine ⟨φ,r.keep E X ⟨fun c d hc hd e=>r.hp.inj c d (g c hc) (g d hd) e,fun c q hc=>?_,fun c hc=>r.hp.fr c (g c hc),r.hp.lt,r.hp.gm.evol E⟩,E⟩;by_cases e:b=c
 ·subst e;have:q=.mf es':=by simpa [upd] using hc.symm
  subst this;exact ⟨en,clock,hw,by rw [he]; exact Z,by rw [he]; exact (QJ (E.keeps M0) X).2 _ _ Y,O⟩
 ·have hc':look s.H c=some q:=by simpa [upd,e] using hc
  exact ZI (E.keeps M0) X rfl (r.hp.blk c q hc')
theorem uY (G:P.underlying kt=some .string) (a b:List UInt8):eqV P 4 kt (.string (JW a)) (.string (JW b))=some (Qr a b):=by
 have:=dD G (JW a) b;rw [TN] at this;exact this
end Go.Abs
namespace Go.Abs
open Go Go.ChangeShapes Go.WideShapes
variable {b base d:Nat}{h:QH}{n off:Nat}{t:TypeId}{v:Value}
def ED (P:Program) (total:Nat):Nat→List Field→Bool
 | off,[]=>off == total
 | off,f :: r=>f.offset == off&&ED P total (off+P.cellsOf f.type) r
def HY (P:Program):Nat→TypeId→Bool
 | 0,_=>false
 | d+1,t=>match P.underlying t with
  | some .bool=>P.cellsOf t == 1
  | some (.int _)=>P.cellsOf t == 1
  | some .string=>P.cellsOf t == 1
  | some (.slice e)=>P.cellsOf t == 1&&Nat.blt 0 (P.cellsOf e)&&HY P d e
  | some (.struct G)=>ED P (P.cellsOf t) 0 G.toList&&G.toList.all (fun f=>HY P d f.type)
  | some (.array n e)=>n * P.cellsOf e == P.cellsOf t&&HY P d e
  | _=>false
def QdU (S:TypeId→List PV→Prop):List Field→List PV→Prop
 | [],cs=>cs=[]
 | f :: r,cs=>∃ a b,cs=a++b∧S f.type a∧QdU S r b
def ShN (S:List PV→Prop):Nat→List PV→Prop
 | 0,cs=>cs=[]
 | n+1,cs=>∃ a b,cs=a++b∧S a∧ShN S n b
def Sh (P:Program):Nat→TypeId→List PV→Prop
 | 0,_,_=>False
 | d+1,t,cs=>match P.underlying t with
  | some .bool=>∃ b,cs=[.val (.bool b)]
  | some (.int k)=>∃ n,cs=[.val (.int k n)]∧(Lit.int k n).wf=true
  | some .string=>∃ s:List UInt8,cs=[.val (.string (JW s))]∧s.length≤maxLen
  | some (.slice e)=>∃ es,cs=[.sl (P.cellsOf e) es]∧es.length≤maxLen∧∀ x ∈ es,Sh P d e x
  | some (.struct G)=>QdU (Sh P d) G.toList cs
  | some (.array n e)=>ShN (Sh P d e) n cs
  | _=>False
section
variable {H:Type} {enc:TypeId × Value→H} {P:Program} {w:World} {held:Bool} {φ:Nat→Nat} {M:Zr}
theorem zl {a:Addr} {G:List Value} (h:w.cells? base a n=some G):G.length=n∧∀ i,i < n→w.cell? (a.add i)=G[i]?:=by
 unfold World.cells? at h;split at h
 ·have J:=mapM_some_length h;refine ⟨by simpa using J,fun i hi=>?_⟩;exact mapM_some_get h i i (by simp [hi])
 ·cases h
def Got (P:Program) (w:World) (φ:Nat→Nat) (M:Zr) (d:Nat) (t:TypeId) (G:List Value):Prop :=
 ∃ cs:List PV,Sh P d t cs∧Qi φ Ff w M (cs.map .p) G∧(∀ v ∈ G,v.oneCell'=true)
theorem EE {c:PV} (G:Sh P d t [c]) (O:QI w M c v) (J:v.oneCell'=true):Got P w φ M d t [v] :=
 ⟨[c],G,by simp only [List.map_cons,List.map_nil,Qi,Qe]; exact ⟨v,[],rfl,O,rfl⟩,by simpa using J⟩
theorem yU {φ:Nat→Nat} {w:World} {M:Zr} {a b:List AV} {l m:List Value} (G:Qi φ h w M a l) (J:Qi φ h w M b m):Qi φ h w M (a++b) (l++m):=Zl G J
theorem add_zero (a:Addr):a.add 0=a:=rfl
theorem uZ:(⟨b,off,none⟩:Addr).add n=⟨b,off+n,none⟩:=by
 unfold Addr.add;split
 ·rename_i h; subst h; rfl
 ·rfl
theorem cell?_spot {a:Addr} (h:w.cell? a=some v):a.spot=none:=by
 unfold World.cell? at h;split at h
 ·split at h
  ·cases h
  ·rename_i G; cases hs:a.spot with
   | none=>rfl
   | some s=>simp [hs] at G
 ·cases h
theorem yV {Q:Nat→List PV→Prop}:∀ (n:Nat),(∀ i,i < n→∃ c,Q i c)→∃ es:List (List PV),es.length=n∧∀ i c,es[i]?=some c→Q i c
 | 0,_=>⟨[],rfl,by simp⟩
 | n+1,h=>by
  obtain ⟨es,G,O⟩:=yV n (fun i hi=>h i zo);obtain ⟨c,hc⟩:=h n zo;refine ⟨es++[c],by simp [G],fun i c' hi=>?_⟩;rcases Nat.lt_or_ge i n with hlt | J
  ·rw [List.getElem?_append_left zo] at hi;exact O i c' hi
  ·have:i < n+1:=by have:=(List.getElem?_eq_some_iff.1 hi).1; simp [G] at this; omega
   obtain rfl:i=n:=by omega
   rw [List.getElem?_append_right zo] at hi;simp [G] at hi;subst hi;exact hc
theorem u6 {S r:Nat}:∀ (es:List (List PV)) (o:Nat),(∀ i e,es[i]?=some e→e.length=S∧VM w M r (o+i * S) e)→VN w M S r o es
 | [],o,_=>by simp [VN]
 | e :: es,o,h=>by
  simp only [VN];refine ⟨by have:=h 0 e zq; simpa using this,u6 es (o+S) fun i J G=>?_⟩;have:=h (i+1) J (by simpa using G)
  rwa [show o+(i+1) * S=o+S+i * S from by rw [Nat.add_mul]; omega] at this
theorem Qbu (hM:∀ r o,¬ M r o):∀ (d Z:Nat) (t:TypeId) (G:List Value) (x:DataW H × List MemPlace),HY P d t=true→DataW.trod enc P w 0 (fun _=>true) held Z t G=some x→Got P w φ M d t G∧G.length=P.cellsOf t:=by
 intro d
 induction d with
 | zero=>intro Z t G x hp; cases hp
 | succ d ih =>
  intro Z t G x hp h
  have ar:∀ (Y:List Field) (off total:Nat) (G:List Value),G.length=total→ED P total off Y=true→Y.all (fun f=>HY P d f.type)=true →
    (∀ f ∈ Y,∃ n y,DataW.trod enc P w 0 (fun _=>true) held n f.type ((G.drop f.offset).take (P.cellsOf f.type))=some y)→∃ cs,QdU (Sh P d) Y cs∧Qi φ Ff w M (cs.map .p) (G.drop off)∧(∀ v ∈ G.drop off,v.oneCell'=true):=by
   intro Y
   induction Y with
   | nil =>
    intro off total G J ht _ _;simp only [ED,beq_iff_eq] at ht;have:G.drop off=[]:=List.drop_eq_nil_of_le zo;exact ⟨[],rfl,by rw [this]; simp [Qi],by rw [this]; simp⟩
   | cons f Y an =>
    intro off total G J ht ha hm;simp only [ED,Zf,beq_iff_eq] at ht;simp only [List.all_cons,Zf] at ha;obtain ⟨n,y,hy⟩:=hm f zq;rw [ht.1] at hy;obtain ⟨⟨c1,g1,g2,g3⟩,_⟩:=ih n f.type _ y ha.1 hy;obtain ⟨c2,k1,k2,k3⟩:=an (off+P.cellsOf f.type) total G J ht.2 ha.2 (fun f hf=>hm f (by simp [hf]))
    have e:G.drop off=(G.drop off).take (P.cellsOf f.type)++G.drop (off+P.cellsOf f.type):=by
     rw [← List.drop_drop]; exact (List.take_append_drop _ _).symm
    refine ⟨c1++c2,⟨c1,c2,rfl,g1,k1⟩,?_,?_⟩
    ·rw [e,List.map_append]; exact yU g2 k2
    ·rw [e]; intro v hv;rcases List.mem_append.1 hv with hv | hv
     ·exact g3 v hv
     ·exact k3 v hv
  have am:∀ (e:TypeId) (n k:Nat) (G:List Value),G.length=(k+n) * P.cellsOf e→HY P d e=true →
    (∀ i,k≤i→i < k+n→∃ m y,DataW.trod enc P w 0 (fun _=>true) held m e ((G.drop (i * P.cellsOf e)).take (P.cellsOf e))=some y)→∃ cs,ShN (Sh P d e) n cs∧Qi φ Ff w M (cs.map .p) (G.drop (k * P.cellsOf e))∧(∀ v ∈ G.drop (k * P.cellsOf e),v.oneCell'=true):=by
   intro e n
   induction n with
   | zero =>
    intro k G J _ _;have:G.drop (k * P.cellsOf e)=[]:=List.drop_eq_nil_of_le (by simp at J; omega);exact ⟨[],rfl,by rw [this]; simp [Qi],by rw [this]; simp⟩
   | succ n ak =>
    intro k G J ae hm;obtain ⟨m,y,hy⟩:=hm k zo zo;obtain ⟨⟨c1,g1,g2,g3⟩,_⟩:=ih m e _ y ae hy;obtain ⟨c2,k1,k2,k3⟩:=ak (k+1) G (by rw [J]; congr 1; omega) ae (fun i h1 h2=>hm i zo zo)
    have e':G.drop (k * P.cellsOf e)=(G.drop (k * P.cellsOf e)).take (P.cellsOf e)++G.drop ((k+1) * P.cellsOf e):=by
     rw [Nat.add_mul,Nat.one_mul,← List.drop_drop]; exact (List.take_append_drop _ _).symm
    refine ⟨c1++c2,⟨c1,c2,rfl,g1,k1⟩,?_,?_⟩
    ·rw [e',List.map_append]; exact yU g2 k2
    ·rw [e']; intro v hv;rcases List.mem_append.1 hv with hv | hv
     ·exact g3 v hv
     ·exact k3 v hv
  unfold HY at hp;cases hu:P.underlying t with
  | none=>rw [hu] at hp; cases hp
  | some td =>
   rw [hu] at hp;cases td with
   | bool =>
    obtain ⟨b,rfl,_⟩:=DataW.trod_bool hu h;simp only [beq_iff_eq] at hp;exact ⟨EE (c:=.val (.bool b)) (by simp only [Sh,hu]; exact ⟨b,rfl⟩) (by simp [QI]) rfl,by simp [hp]⟩
   | int k =>
    obtain ⟨n,rfl,_,hw⟩:=DataW.trod_int hu h;simp only [beq_iff_eq] at hp;exact ⟨EE (c:=.val (.int k n)) (by simp only [Sh,hu]; exact ⟨n,rfl,hw⟩) (by simp [QI]) rfl,by simp [hp]⟩
   | string =>
    obtain ⟨b,rfl,_,hw⟩:=DataW.trod_string hu h;simp only [beq_iff_eq] at hp;refine ⟨EE (c:=.val (.string b)) ?_ (by simp [QI]) rfl,by simp [hp]⟩;simp only [Sh,hu];exact ⟨b.data.toList,by simp [JW],by simpa using hw⟩
   | slice e =>
    simp only [Zf,beq_iff_eq,Nat.blt_eq] at hp;rcases DataW.trod_slice hu h with ⟨rfl,_⟩ | ⟨a,len,cap,elems,rest,n,_,rfl,_,_,au,av,aw,ad⟩
    ·refine ⟨EE (c:=.sl (P.cellsOf e) []) ?_ (by simp only [QI]; exact .inr ⟨trivial,none,0,rfl⟩) rfl,by simp [hp.1.1]⟩;simp only [Sh,hu];exact ⟨[],rfl,by simp,by simp⟩
    ·have af:=ad.1
     have ah:∀ i,i < len→∃ (G:List Value) (cs:List PV),w.cells? 0 (a.add (i * P.cellsOf e)) (P.cellsOf e)=some G∧Sh P d e cs∧Qi φ Ff w M (cs.map .p) G∧(∀ v ∈ G,v.oneCell'=true):=by
      intro i hi;have h1:elems[i]?=some elems[i]:=List.getElem?_eq_getElem zo;have h2:=af i hi;rw [h1] at h2;obtain ⟨G,O,h4⟩:=Option.bind_eq_some_iff.1 h2;obtain ⟨⟨cs,g1,g2,g3⟩,_⟩:=ih _ e G _ hp.2 h4;exact ⟨G,cs,O,g1,g2,g3⟩
     obtain ⟨es,ai,hq⟩:=yV (Q:=fun i cs=>∃ G,w.cells? 0 (a.add (i * P.cellsOf e)) (P.cellsOf e)=some G∧Sh P d e cs∧Qi φ Ff w M (cs.map .p) G∧(∀ v ∈ G,v.oneCell'=true)) len (fun i hi=>by
      obtain ⟨G,cs,h1,h2⟩:=ah i hi;exact ⟨cs,G,h1,h2⟩)
     refine ⟨EE (c:=.sl (P.cellsOf e) es) ?_ ?_ rfl,by simp [hp.1.1]⟩
     ·simp only [Sh,hu];refine ⟨es,rfl,by omega,fun x hx=>?_⟩;obtain ⟨i,hi,rfl⟩:=List.getElem_of_mem hx;obtain ⟨G,_,h2,_⟩:=hq i es[i] (List.getElem?_eq_getElem hi);exact h2
     ·simp only [QI];by_cases h0:len=0
      ·subst h0;exact .inr ⟨List.eq_nil_of_length_eq_zero ai,some a,cap,rfl⟩
      ·have ac:a.spot=none:=by
        obtain ⟨G,h1,_⟩:=hq 0 es[0] (List.getElem?_eq_getElem zo);obtain ⟨g1,g2⟩:=zl h1;have O:=g2 0 hp.1.2;simp only [Nat.zero_mul,add_zero] at O;rw [List.getElem?_eq_getElem zo] at O;exact cell?_spot O
       obtain ⟨ab,ao,ax⟩:=a;simp only at ac;subst ac;refine .inl ⟨ab,ao,cap,by rw [ai],by omega,u6 es ao fun i c hi=>?_⟩;obtain ⟨G,h1,h2,O,h4⟩:=hq i c hi;obtain ⟨g1,g2⟩:=zl h1;have aj:=Zt O;refine ⟨by simp at aj; omega,?_⟩;rw [RD];intro j q hj;obtain ⟨v,k1,k2⟩:=NR O j q hj;have al:j < P.cellsOf e:=by have:=(List.getElem?_eq_some_iff.1 k1).1; omega
       have k3:=g2 j al;rw [uZ,uZ,k1] at k3;exact ⟨v,k3,hM _ _,h4 v (List.mem_of_getElem? k1),k2⟩
   | struct Y =>
    simp only [Zf] at hp;obtain ⟨xs,n,_,_,J,hx,aa⟩:=DataW.trod_struct hu h
    obtain ⟨cs,g1,g2,g3⟩:=ar Y.toList 0 (P.cellsOf t) G J hp.1 hp.2 (by
     intro f hf;obtain ⟨i,hi,rfl⟩:=List.getElem_of_mem hf;have h1:Y[i]?=some Y.toList[i]:=by simp
     have h2:=aa i _ h1;have O:i < xs.length:=by rw [hx]; simpa using hi
     exact ⟨n,xs[i],by rw [h2]; exact List.getElem?_eq_getElem O⟩)
    simp only [List.drop_zero] at g2 g3;exact ⟨⟨cs,by simp only [Sh,hu]; exact g1,g2,g3⟩,J⟩
   | array n e =>
    simp only [Zf,beq_iff_eq] at hp;obtain ⟨xs,m,_,_,J,hx,aa⟩:=DataW.trod_array hu h
    obtain ⟨cs,g1,g2,g3⟩:=am e n 0 G (by rw [J,Nat.zero_add,hp.1]) hp.2 (by
     intro i _ hi;have aq:i < n:=by omega
     have O:i < xs.length:=by omega
     exact ⟨m,xs[i],by rw [aa i aq]; exact List.getElem?_eq_getElem O⟩)
    simp only [Nat.zero_mul,List.drop_zero] at g2 g3;exact ⟨⟨cs,by simp only [Sh,hu]; exact g1,g2,g3⟩,J⟩
   | _=>cases hp
end
end Go.Abs
namespace Go.Abs
open Go Go.ChangeShapes Go.WideShapes Go.ChangeAt Go.RowKit
variable {base d:Nat}{e:TypeId}{f:FuncId}{fn:Func}{h':QH}{t:TypeId}{v:Value}{w':World}{α:Type}{φ':Nat→Nat}
def QgM:List PV→AV
 | [c]=>.p c
 | cs=>ag cs
def nY (P:Program) (t:TypeId) (cs:List PV):AV :=
 match P.underlying t with
 | some (.struct _)=>ag cs
 | some (.array _ _)=>ag cs
 | _=>QgM cs
def zm (P:Program) (d:Nat):List TypeId→List AV→Prop
 | [],G=>G=[]
 | t :: ts,G=>∃ cs r,G=nY P t cs :: r∧Sh P d t cs∧zm P d ts r
section
variable {H:Type} {enc:TypeId × Value→H} {P:Program} {w:World} {φ:Nat→Nat} {M:Zr}
theorem QdV (hM:∀ r o,¬ M r o) {x:DataW H} {ps:List MemPlace} (hp:HY P d t=true) (J:Value.okWide P w .any base t v)
  (h:DataW.Trod enc P w 0 (fun _=>true) true t v x ps):∃ cs,Sh P d t cs∧Qe φ Ff w M (nY P t cs) v:=by
 obtain ⟨O,h⟩:=h;obtain ⟨⟨cs,h1,G,h3⟩,hl⟩:=Qbu (φ:=φ) hM d O t _ _ hp h;refine ⟨cs,h1,?_⟩;cases d with
 | zero=>cases hp
 | succ d =>
  unfold Value.okWide at J;unfold nY;cases hu:P.underlying t with
  | none=>simp [HY,hu] at hp
  | some td =>
   rw [hu] at J
   have one:(∀ c,v ≠ .agg c)→P.cellsOf t=1→Qe φ Ff w M (QgM cs) v:=by
    intro ha hc;have e:v.cells=#[v]:=by cases v <;> first | rfl | exact absurd rfl (ha _)
    rw [e] at G
    match cs,G with
    | [c],G =>
     simp only [List.map_cons,List.map_nil,Qi] at G;obtain ⟨y,ys,Y,Z,e3⟩:=G;simp at Y;obtain ⟨rfl,rfl⟩:=Y;exact Z
    | [],G=>simp [Qi] at G
    | _ :: _ :: _,G =>
     simp only [List.map_cons,Qi] at G;obtain ⟨y,ys,Y,_,z,zs,Z,_⟩:=G;subst Z;simp at Y
   have agg:(∃ c,v=.agg c)→Qe φ Ff w M (ag cs) v:=by
    rintro ⟨c,rfl⟩;exact ⟨c.toList,by simp,G⟩
   cases td with
   | bool =>
    simp only [HY,hu,beq_iff_eq] at hp;exact one (fun c hc=>by subst hc; simp [Cell.okWide,Cell.ok,hu] at J) hp
   | int k =>
    simp only [HY,hu,beq_iff_eq] at hp;exact one (fun c hc=>by subst hc; simp [Cell.okWide,Cell.ok,hu] at J) hp
   | string =>
    simp only [HY,hu,beq_iff_eq] at hp;exact one (fun c hc=>by subst hc; simp [Cell.okWide,Cell.ok,hu] at J) hp
   | slice e =>
    simp only [HY,hu,Zf,beq_iff_eq] at hp;exact one (fun c hc=>by subst hc; simp [Cell.okWide,Cell.ok,hu] at J) hp.1.1
   | struct fs =>
    obtain ⟨c,rfl,_⟩:=J;exact agg ⟨c,rfl⟩
   | array n e =>
    obtain ⟨c,rfl,_⟩:=J;exact agg ⟨c,rfl⟩
   | _=>simp [HY,hu] at hp
theorem u7 (Y:∀ r o,¬ M r o) {d base:Nat}:∀ {ts:List TypeId} {J:List Value} {ds:List (DataW H)} {ps:List MemPlace},ts.all (HY P d)=true →
  (∀ (j:Nat) t v,ts[j]?=some t→J[j]?=some v→Value.okWide P w .any base t v)→DataW.TrodAll enc P w 0 (fun _=>true) true ts J ds ps→∃ G,zm P d ts G∧Qi φ Ff w M G J
 | [],J,ds,ps,_,_,h=>by
  obtain ⟨rfl,_,_⟩:=trodAll_nil h;exact ⟨[],rfl,rfl⟩
 | t :: ts,J,ds,ps,hp,Z,h=>by
  obtain ⟨v,O,d',aa,p,q,rfl,rfl,rfl,h1,h2⟩:=trodAll_cons h;simp only [List.all_cons,Zf] at hp;obtain ⟨cs,g1,g2⟩:=QdV (φ:=φ) Y hp.1 (Z 0 t v rfl rfl) h1;obtain ⟨G,g3,g4⟩:=u7 Y hp.2 (fun j t v a b=>Z (j+1) t v (by simpa using a) (by simpa using b)) h2;exact ⟨_,⟨cs,G,rfl,g1,g3⟩,v,O,rfl,g2,g4⟩
structure Over (w w':World):Prop where
 os:w'.os=w.os
 output:w'.output=w.output
 same:∀ r,r < w.heap.size→w'.heap[r]?=w.heap[r]?
theorem wW {φ:Nat→Nat} {w:World} (E:QW φ Ff w φ' h' w'):Over w w' :=
 ⟨E.os,E.output,fun r G=>E.same r G (fun b hb=>absurd rfl hb)⟩
theorem Over.kept {w:World} (o:Over w w') (G:MemPlace→Prop):w.keptBut w' G:=by
 refine ⟨o.os,o.output,fun i hi=>?_⟩;rw [o.same i hi];cases h:w.heap[i]? with
 | none=>rfl
 | some x=>cases x <;> simp
theorem Over.at {w:World} (o:Over w w') {p:MemPlace} (h:p.block < w.heap.size):w.sameAt w' p:=by
 cases p with
 | cell b off=>simp only [World.sameAt,World.cell?]; rw [o.same b h]
 | map b=>exact o.same b h
theorem Over.frozen {w:World} (o:Over w w') {a:Addr} (h:a.block < w.heap.size):w'.frozen? a=w.frozen? a:=by
 simp only [World.frozen?]; rw [o.same _ h]
theorem Da {w w':World} (Y:laidOutB P=true) {O:Nat→Bool} (G:∀ b,b < w.heap.size→O b=true) (o:Over w w'):∀ {ts:List TypeId} {J:List Value} {ds:List (DataW H)} {ps:List MemPlace},ts.all (fun t=>P.readableRec t&&Nat.blt t P.types.size)=true→(∀ p ∈ ps,p.block < w.heap.size) →
  DataW.TrodAll enc P w 0 (fun _=>true) true ts J ds ps→DataW.TrodAll enc P w' 0 O true ts J ds ps
 | [],J,ds,ps,_,_,h=>by
  obtain ⟨rfl,rfl,rfl⟩:=trodAll_nil h;exact rfl
 | t :: ts,J,ds,ps,hp,hb,h=>by
  obtain ⟨v,aa,d',Z,p,q,rfl,rfl,rfl,h1,h2⟩:=trodAll_cons h;simp only [List.all_cons,Zf,Nat.blt_eq] at hp;refine ⟨p,q,Go.WideElems.Trod_stays Y hp.1.1 hp.1.2 h1 (fun p hp=>o.at (hb p (by simp [hp]))) (fun p hp=>G _ (hb p (by simp [hp]))),Da Y G o (by simpa using hp.2) (fun p hp=>hb p (by simp [hp])) h2,rfl⟩
theorem kJ {s:ChangeSpec} {tb:TypeId} {apart fresh handsOn again:Bool}
  (hl:laidOutB P=true) (Z:fn.params.toList.all (HY P d)=true) (J:fn.params.toList.all (fun t=>P.readableRec t&&Nat.blt t P.types.size)=true)
  (hres:fn.resultTypes=#[tb]) (af:P.underlying tb=some .bool) (G:s.vars=[])
  (aa:∀ ds:List (DataW H),ds.length=fn.params.size→s.fn H ds={ results:=[.lit (.bool true)],args:=ds })
  {W:World} {args:Array Value} {ds gs:List (DataW H)} {before:List MemPlace}
  (ad:∀ (j:Nat) t v,fn.params[j]?=some t→args[j]?=some v→Value.okWide P W .any base t v)
  (hW:DataW.Whole enc P fn.params.toList s.vars apart W args.toList ds gs before)
  (ab:∀ O,zm P d fn.params.toList O→Qi (fun x=>x) Ff W (MM (fun x=>x) Ff (fun _ _=>False)) O args.toList→QC P f O (.ret (.p (.val (.bool true))))) (hg:mX W:=by exact trivial) :
  Calls P f args W fun e W'=>∃ v,e=.returned v∧s.post enc P fn apart fresh handsOn again W args v W':=by
 have ac:=hW;obtain ⟨p,q,hA,hV,rfl,ai,ah⟩:=hW;rw [G] at hV;obtain ⟨rfl,rfl⟩:=trodVars_none hV
 have ae:ds.length=fn.params.size:=by
  have:∀ {ts:List TypeId} {vs:List Value} {ds:List (DataW H)} {ps:List MemPlace},DataW.TrodAll enc P W 0 (fun _=>true) true ts vs ds ps→ds.length=ts.length:=by
   intro ts
   induction ts with
   | nil=>intro vs ds ps h; obtain ⟨_,rfl,_⟩:=trodAll_nil h; rfl
   | cons t ts ih=>intro vs ds ps h; obtain ⟨v,ak,d',aj,p,q,rfl,rfl,rfl,h1,h2⟩:=trodAll_cons h; simp [ih h2]
  simpa using this hA
 obtain ⟨O,g1,g2⟩:=u7 (φ:=fun x=>x) (M:=MM (fun x=>x) Ff (fun _ _=>False)) (base:=base) (fun r o h=>h.elim We id) Z
  (fun j t v a b=>ad j t v (by simpa using a) (by simpa using b)) hA
 have hc:=ab O g1 g2 (fun x=>x) (fun _ _=>False) W args.toList (Hw (fun _ _ h=>h.elim) hg (fun _ _ _ h=>h)) g2;simp only [Array.toArray_toList] at hc;refine hc.mono ?_;rintro e w' ⟨φ',r',h',⟨rfl,rfl⟩,al,E,hv⟩;obtain ⟨v,rfl,hv⟩:=hv;simp only [Qe,QI] at hv;subst hv;have o:=wW E;have hlt:∀ x ∈ p,x.block < W.heap.size:=fun x hx=>ac.lt x (by simpa using hx)
 refine ⟨_,rfl,?_⟩;have Y:s.fn H (ds++[])={ results:=[.lit (.bool true)],args:=ds }:=by rw [List.append_nil]; exact aa ds ae
 have hr:∀ (b:Nat) (sp:Nat→Bool) (hd:Bool),DataW.TrodAll enc P w' b sp hd fn.resultTypes.toList ((Value.bool true).resultList fn.resultTypes.size) [.lit (.bool true)] []:=fun b sp hd=>by
  rw [hres]; exact trodAll_cons_mk (shut_bool af _) trodAll_mk0
 refine ⟨ds,[],p++[],[],p,[],ac,by rw [Y]; exact hr _ _ _,by rw [Y]; exact Da hl (fun b hb=>by simpa using hb) o J hlt hA,by rw [Y,G]; rfl,o.kept _,fun _=>?_⟩;refine ⟨ok_one hres rfl (okWide_bool_mk af _),[.lit (.bool true)]++ds,[],([]++p)++[],⟨[]++p,[],?_,?_,rfl,?_,?_⟩,?_⟩
 ·exact trodAll_append (Da hl (fun b hb=>rfl) o J hlt hA) (hr _ _ _)
 ·rw [G]; rfl
 ·intro b off hp;rw [o.frozen (by exact hlt (.cell b off) (by simpa using hp))];exact ai b off (by simpa using hp)
 ·intro ha; simpa using ah ha
 ·intro x hx _; simpa using hx
theorem wX {s:ChangeSpec} {tb:TypeId} {apart fresh handsOn again:Bool}
  (hl:laidOutB P=true) (Z:fn.params.toList.all (HY P d)=true) (Y:fn.params.toList.all (fun t=>P.readableRec t&&Nat.blt t P.types.size)=true)
  (hres:fn.resultTypes=#[tb]) (ac:P.underlying tb=some .bool) (aa:s.vars=[])
  (J:∀ ds:List (DataW H),ds.length=fn.params.size→s.fn H ds={ results:=[.lit (.bool true)],args:=ds })
  (O:∀ G,zm P d fn.params.toList G→QC P f G (.ret (.p (.val (.bool true)))))
  {W:World} {args:Array Value} {ds gs:List (DataW H)} {before:List MemPlace}
  (ab:∀ (j:Nat) t v,fn.params[j]?=some t→args[j]?=some v→Value.okWide P W .any base t v)
  (hW:DataW.Whole enc P fn.params.toList s.vars apart W args.toList ds gs before) (hg:mX W:=by exact trivial) :
  Calls P f args W fun e W'=>∃ v,e=.returned v∧s.post enc P fn apart fresh handsOn again W args v W' :=
 kJ hl Z Y hres ac aa J ab hW (fun G h _=>O G h) hg
end
def R4 (x:Int):Prop:=-9223372036854775808≤x∧x≤9223372036854775807
def Qit (l:List UInt8):Prop:=l.length≤maxLen
def dY {α:Type} (W:α→Prop) (l:List α):Prop:=l.length≤maxLen∧∀ x ∈ l,W x
section
variable {P:Program} {d:Nat} {t:TypeId} {cs:List PV}
theorem Db (hu:P.underlying t=some (.int .i64)) (h:Sh P (d+1) t cs):∃ n,cs=[.val (.int .i64 n)]∧R4 n:=by
 simp only [Sh,hu] at h;obtain ⟨n,rfl,G⟩:=h;exact ⟨n,rfl,by simpa [Lit.wf,IntKind.min,IntKind.max,IntKind.signed,IntKind.bits,R4] using G⟩
theorem QgN (hu:P.underlying t=some .string) (h:Sh P (d+1) t cs):∃ s:List UInt8,cs=[.val (.string (JW s))]∧Qit s:=by
 simp only [Sh,hu] at h;exact h
theorem MV {G:Array Field} (hu:P.underlying t=some (.struct G)) (h:Sh P (d+1) t cs):QdU (Sh P d) G.toList cs:=by
 simpa only [Sh,hu] using h
theorem wY {S:Nat} {f:α→List PV} {W:α→Prop} (hu:P.underlying t=some (.slice e)) (hS:P.cellsOf e=S) (Y:∀ c,Sh P d e c→∃ r,c=f r∧W r) (h:Sh P (d+1) t cs) :
  ∃ l:List α,cs=[.sl S (List.map f l)]∧dY W l:=by
 simp only [Sh,hu] at h;obtain ⟨es,rfl,G,J⟩:=h
 have:∃ l:List α,es=List.map f l∧∀ x ∈ l,W x:=by
  clear G
  induction es with
  | nil=>exact ⟨[],rfl,by simp⟩
  | cons e es ih =>
   obtain ⟨r,rfl,Z⟩:=Y e (J e zq);obtain ⟨l,rfl,G⟩:=ih (fun x h=>J x (by simp [h]));exact ⟨r :: l,rfl,by simpa using ⟨Z,G⟩⟩
 obtain ⟨l,rfl,O⟩:=this;exact ⟨l,by rw [hS],by simpa using G,O⟩
theorem Ij {G:Array Field} (hu:P.underlying t=some (.struct G)):nY P t cs=ag cs:=by simp only [nY,hu]
theorem Qbv {c:PV} (hu:P.underlying t=some .string):nY P t [c]=.p c:=by simp only [nY,hu,QgM]
end
end Go.Abs
namespace Go.Abs
open Go
variable {D:DB}{K:St→Prop}{M0:Zr}{N:Nat}{P:Program}{Q:AX→St→Prop}{T:Nat→Option AV}{a:Act}{b:Nat}{dst:Option Tmp}{e:TypeId}{es es':List (List PV)}{f:FuncId}{h:QH}{id:Nat}{ix:Operand}{len:Nat}{o:Oper}{ops:Array Oper}{ro:Option Nat}{s s':St}{t:TypeId}{tk:Nat}{tx ty:TypeId}{v:Value}{w w':World}{x y:Operand}{z:Value}{φ:Nat→Nat}
section
variable {R:Type} {a:Option R} {P:Program} {N:Nat} {ops:Array Oper} {o:Oper} {l:List Oper} {acc:List Yn} {s:St} {Q:R→AX→St→Prop}
theorem QgO (hw:ZC ops o (look s.T)=some true) (hp:(plain o.op&&KE N o.dst)=true) (Y:∀ c,o.op ≠ .defer c)
  (h:∀ φ M0 D O w,Q8 φ M0 N D (look (mk ops o s true).T) (look s.H) O w→∃ x s',look s'.T=look (mk ops o s true).T∧Yf a P N ops Q false ((none,[]) :: acc) l (St.put s' o.dst x)∧Yield P o φ M0 (look s.H) O w x (look s'.H)):Yf a P N ops Q false acc (o :: l) s:=by
 simp only [Zf] at hp;refine ⟨fun r hr=>?_⟩;show K3 P N ops (Q r) (o :: l) s;simp only [K3,hw,ZE,Nl hp.1];show X3 P N o _ _ _;unfold X3
 have key:dE P N o (mk ops o s true) (K3 P N ops (Q r) l):=by
  refine ⟨Y,hp.2,fun φ M0 D O w J=>?_⟩
  ·obtain ⟨x,s',Z,h2,h3⟩:=h φ M0 D O w J;exact ⟨x,s',Z,h2.h r hr,h3⟩
 have hp:=hp.1;split
 ·rename_i G; rw [G] at hp; cases hp
 ·rename_i G; rw [G] at hp; cases hp
 ·rename_i G; rw [G] at hp; cases hp
 ·exact .inr key
theorem GZ:Yf (none:Option R) P N ops Q false acc l s:=⟨fun r G=>by cases G⟩
end
def IE (a b:List UInt8):Bool:=decide (a.length+b.length≤9223372036854775807)
theorem EF {a b:List UInt8} (O:o.op=.binOp .add tx x y ty) (J:Zc T x=some (.p (.val (.string (JW a))))) (G:Zc T y=some (.p (.val (.string (JW b))))) (hc:IE a b=true) :
  Jk P o T h=some (.p (.val (.string (JW (a++b)))),none,[]):=by
 unfold IE at hc;have hc:=of_decide_eq_true hc;simp [Jk,TF,O,SN,J,G,ww,TN,hc]
section
variable {P:Program} {ops:Array Oper} {Q:Exit→Act→World→Prop} {k:Nat} {ok:Oper}
theorem lZ (h:Oi k ops=true) (hq:¬ LetsOut Q) (hp:∀ c a w v,Q (.panic c) (a.put ((ops[k]?).bind (·.dst)) v) w→Q (.panic c) a w) (hh:wpAny P .any (Xb k ops) Q (Xb k ops).size (Array.replicate (Xb k ops).size false) a w) :
  wpAny P .any ops Q ops.size (Array.replicate ops.size false) a w:=by
 unfold Oi at h;cases hk:ops[k]? with
 | none=>rw [hk] at h; cases h
 | some ok =>
  rw [hk] at h;simp only [Zf] at h;obtain ⟨⟨⟨O,af⟩,ac⟩,aa⟩:=h;have aj:k < ops.size:=(Ll.1 hk).1;rw [nR hk] at hh;obtain ⟨n,hn⟩:∃ n,ops.size=n+1:=⟨ops.size - 1,by omega⟩
  have Y:∃ x,ok.op=.move x∧ok.guard=none:=by
   unfold nP at O;split at O
   ·exact ⟨_,by assumption,by assumption⟩
   ·cases O
  obtain ⟨x,ad,Z⟩:=Y
  have J:∀ w,(execOp a.eval ok).run P w=.ok (.value (a.eval x)) w:=by
   intro w;simp [execOp,ad]
  have hy:Yields P ops ok (a.eval x) a:=.inl ⟨by simp [Region.wanted,Z],J⟩
  have ai:(0:Nat) ∈ Region.ready .any (Xb k ops) (Array.replicate (n+1) false):=by
   rw [mem_ready];exact ⟨by simp,_,NY hk,fun e he=>by simp at he⟩
  have ab:k ∈ Region.ready .any ops (Array.replicate (n+1) false):=by
   rw [mem_ready];refine ⟨by simp [show k < n+1 by omega],ok,hk,fun e he hb=>?_⟩;have:=List.all_eq_true.1 af e (by simpa using he);rw [hb] at this;cases this
  rw [hn] at hh ⊢;have G:=hh.2 0 ai;unfold wpOp at G;rw [NY hk] at G;simp only [Region.wanted,Z,if_true] at G
  have h3:wpAny P .any (Xb k ops) Q n ((Array.replicate (n+1) false).setIfInBounds 0 true) (a.put ok.dst (a.eval x)) w:=by
   rcases G with G | ⟨_,G⟩
   ·unfold Oper.wp at G;rw [show ∀ g,execOp a.eval { dst:=ok.dst,op:=ok.op,type:=ok.type,pos:=ok.pos,after:=#[],guard:=g }=execOp a.eval ok from fun _=>rfl,J w] at G;exact G
   ·exact absurd G hq
  have h4:wpAny P .any ops Q n ((Array.replicate (n+1) false).setIfInBounds k true) (a.put ok.dst (a.eval x)) w:=by
   refine nS hk n _ _ _ w (by simp [hn]) (by simp [hn]) zq ?_ ?_ h3
   ·have:k < n+1:=by omega
    simp [this]
   ·intro i hi;rw [getD_set_ne false (Qbe hi).symm,getD_set_ne false (Ne.symm hi)];simp [Array.getElem?_replicate];split <;> split <;> rfl
  exact wpAny_first hk (Region.noSelect_spec ac) (fun c a w h=>hp c a w _ (by rw [hk]; exact h)) n _ a w (fun j oj hj hne ah ae=>Region.free_spec hk (by rw [hn] at aa; exact aa) j oj hj hne ah ae) ab hy h4
end
def R5 (d:Option Tmp) (s:St):St:=⟨s.T.filter fun p=>some p.1 != d,s.H⟩
theorem R6 {d:Option Tmp} {t:Nat} {x:AV}:∀ {T:List (Nat × AV)},look (T.filter fun p=>some p.1 != d) t=some x→look T t=some x∧d ≠ some t
 | [],h=>by cases h
 | (c,y) :: T,h=>by
  by_cases e:some c=d
  ·have hf:((c,y) :: T).filter (fun p=>some p.1 != d)=T.filter fun p=>some p.1 != d:=by simp [e]
   rw [hf] at h;have O:=R6 h;refine ⟨?_,O.2⟩;have G:c ≠ t:=fun J=>O.2 (by rw [← e,J])
   simp [look,G,O.1]
  ·have hf:((c,y) :: T).filter (fun p=>some p.1 != d)=(c,y) :: T.filter fun p=>some p.1 != d:=by simp [e]
   rw [hf] at h;simp only [look] at h ⊢;by_cases G:c=t
   ·subst G;simp only [if_true] at h ⊢;exact ⟨h,fun J=>e J.symm⟩
   ·simp only [G,if_false] at h ⊢;exact R6 h
def qd {R:Type} (d:Option Tmp) (Q:R→AX→St→Prop):R→AX→St→Prop:=fun r x s=>match x with | .normal=>Q r .normal s | .panic v=>Q r (.panic v) (R5 d s) | _=>False
theorem Qbw {d:Option Tmp} (r:Q8 φ M0 N D (look s.T) (look s.H) (a.put d v) w):Q8 φ M0 N D (look (R5 d s).T) (look (R5 d s).H) a w:=by
 cases d with
 | none =>
  refine ⟨r.dfs,r.siz,r.hp,fun t x G=>r.tm t x (R6 G).1⟩
 | some d =>
  refine ⟨r.dfs,by have:=r.siz; simpa [Act.put] using this,r.hp,fun t x G=>?_⟩;obtain ⟨O,Y⟩:=R6 G;have J:=r.tm t x O;have:d ≠ t:=fun e=>Y (by rw [e])
  have e:(a.put (some d) v).tmps.getD t undef=a.tmps.getD t undef:=by simp [Act.put,Array.getElem?_setIfInBounds_ne this]
  rw [e] at J;exact J
theorem eu {d:Option Tmp} (r:Q8 φ M0 N D (look s.T) (look s.H) a w):Q8 φ M0 N D (look (R5 d s).T) (look (R5 d s).H) a w :=
 ⟨r.dfs,r.siz,r.hp,fun t x G=>r.tm t x (R6 G).1⟩
theorem drop_drop (d:Option Tmp) (s:St):R5 d (R5 d s)=R5 d s:=by simp [R5,List.filter_filter]
theorem Qbx {R:Type} {J:R} {Q:R→AX→St→Prop} (k:Nat) (Y:P.follows .mixedOrders=true) (G:UY ops=true) (hf:Oi k ops=true) (h:Km P N (Xb k ops) (qd ((ops[k]?).bind (·.dst)) Q J) (Xb k ops).toList [] s):Ex P N ro (.region id ops true) s (Q J):=by
 intro φ M0 D a w r;refine wpIn_region_any Y (NN G Ws _ _ _ _ ?_);have O:=qD h r
 have h2:=lZ hf Ws (fun c Z w' v hc=>by
  obtain ⟨φ',x,s',g1,g2,g3,g4⟩:=hc;cases x with
  | normal=>cases g4
  | exit i=>cases g4
  | ret=>cases g4
  | panic u =>
   refine ⟨φ', .panic u,R5 ((ops[k]?).bind (·.dst)) s',?_,Qbw g2,g3,g4⟩;show Q J (.panic u) (R5 _ (R5 _ s'));rw [drop_drop];exact g1) O
 refine XL ?_ _ _ _ _ h2;rintro e Z w' ⟨φ',x,s',g1,g2,g3,g4⟩;cases x with
 | normal=>exact ⟨φ', .normal,s',g1,g2,g3,g4⟩
 | exit i=>exact g1.elim
 | ret=>exact g1.elim
 | panic v=>exact ⟨φ', .panic v,R5 ((ops[k]?).bind (·.dst)) s',g1,eu g2,g3,g4⟩
section
variable {R:Type} {a:Option R} {P:Program} {N:Nat} {ro:Option Nat} {id:Nat} {ops:Array Oper} {s s':St} {Q:R→AX→St→Prop} {d:Option Tmp} {v:AV}
theorem Qby (k:Nat) (O:P.follows .mixedOrders=true) (J:UY ops=true) (hf:Oi k ops=true) (h:Yf a P N (Xb k ops) (qd ((ops[k]?).bind (·.dst)) Q) true [] (Xb k ops).toList s):QP a P N ro (.region id ops true) s Q:=⟨fun r G=>Qbx k O J hf (h.h r G)⟩
theorem Qkq (h:Zv a Q .normal s):Zv a (qd d Q) .normal s:=⟨fun r G=>h.h r G⟩
end
abbrev FV:=Fn × Array Value × Array Value
def fv (x:FV):Value:=.func x.1 x.2.1 x.2.2
def kOf (s:St):Lp:=⟨s.T.map (·.1),s.H.map (·.1),[],[]⟩
section
variable {R V:Type} {o:Option R} {P:Program} {N:Nat} {ro:Option Nat} {c y:Code} {s:St} {Q:R→AX→St→Prop} {ops:Array Oper} {draw:Bool} {id:Nat}
theorem Qf (J:P.follows .mixedOrders=true) (s':St)  (h:QP o P N ro y s' Q)(G:(T9 P N ops draw s).bind (L8 (kOf s'))=some s':=by kernel_rfl):QP o P N ro (.seq (.region id ops draw) y) s Q:=sR J _ s' G h
theorem Ql (s':St)  (h:QP o P N ro y s' Q)(G:L8 (kOf s') s=some s':=by kernel_rfl):Zv o (lw P N ro y Q) .normal s:=sN _ s' G h
theorem Pe (s':St)  (h:QP o P N ro c s' Q)(G:L8 (kOf s') s=some s':=by kernel_rfl):QP o P N ro c s Q:=sP _ s' G h
theorem QS {S:V→St} (v:V) (G:L8 (kOf (S v)) s=some (S v):=by kernel_rfl):Zv (some v) (Qa1 N S) .normal s:=Qa2 v _ G
theorem KW {k:V→Option R} {S:V→St} (v:V) (G:L8 (kOf (S v)) s=some (S v):=by kernel_rfl):Zv (k v) (kQ N k S Q) .normal s:=Qkg v _ G
theorem Gm (h:L8 (kOf s') s=some s':=by kernel_rfl):Weak N s s':=HV h
end
def c8b (c:UInt8):List PV:=[.val (.int .u8 c.toNat)]
section
variable {P:Program} {N:Nat} {D:DB} {o:Oper} {φ:Nat→Nat} {M0:Zr} {T:Nat→Option AV} {h:QH} {a:Act} {w:World}
theorem WL (b:List UInt8):(JW b).size=b.length:=by simp [JW,ByteArray.size]
theorem Bw {u:TypeId} {s:Operand} (G:o.op=.call ⟨.builtin .append,#[s,x],#[t,u]⟩) (J:(Builtin.append_ #[t,u] o.type #[a.eval s,a.eval x]).run P w=.ok v w') :
  (execOp a.eval o).run P w=.ok (.value v) w':=by
 simp [execOp,G,resolve,invoke,builtin,J]
theorem zn:∀ b:List UInt8,(b.map c8b).flatten=b.map fun c=>PV.val (.int .u8 c.toNat)
 | []=>rfl
 | c :: b=>by
  simp only [List.map_cons,List.flatten_cons,zn b];rfl
set_option maxHeartbeats 1000000 in
theorem eB (r:Q8 φ M0 N D T h a w) {u:TypeId} {i:TypeInfo} {s:Operand} {b:List UInt8} (ho:o.op=.call ⟨.builtin .append,#[s,x],#[t,u]⟩)
  (ht:P.underlying t=some (.slice ty)) (hu:P.underlying u=some .string) (hi:P.info? ty=some i) (an:i.size=1) (az:i.bytes=1) (hz:i.zero=some z) (a6:z.cells.size=i.size∧0 < i.size)
  (hs:Zc T s=some (.tsl i.size es tk)) (hx:Zc T x=some (.p (.val (.string (JW b))))) (aa:h tk=some (.arr ty i.size es.length)) (bf:es.length+es'.length≤140737488355328) (ak:es'=b.map c8b) (be:b ≠ []) :
  Yield P o φ M0 h a w (.tsl i.size (es++es') tk) (upd h tk (.arr ty i.size (es.length+es'.length))):=by
 have am:es'.length=b.length:=by rw [ak]; simp
 have bg:(es.length+es'.length) * i.bytes≤140737488355328:=by rw [az]; omega
 obtain ⟨l,hl⟩:∃ l:List Value,l=b.map fun c=>Value.int .u8 c.toNat:=⟨_,rfl⟩
 have h3:∀ e ∈ es',e.length=i.size:=by
  intro e he;rw [ak] at he;obtain ⟨c,_,rfl⟩:=List.mem_map.1 he;rw [an]; rfl
 have h5:l.length=es'.length * i.size:=by rw [am,an,hl]; simp
 have h7:∀ v ∈ l,v.oneCell'=true:=by
  intro v hv;rw [hl] at hv;obtain ⟨c,_,rfl⟩:=List.mem_map.1 hv;rfl
 have bj:0 < es'.length:=by rw [am]; exact List.length_pos_iff.2 be
 refine Yield.of_lift r 1 fun φ r E0 X0 hC=>?_
 have h8:∀ (j:Nat) (c:PV) (v:Value),es'.flatten[j]?=some c→l[j]?=some v→QI w (MM φ h M0) c v:=by
  intro j c v O hv;have hf:es'.flatten=b.map fun c=>PV.val (.int .u8 c.toNat):=by rw [ak,zn]
  rw [hf,List.getElem?_map] at O;rw [hl,List.getElem?_map] at hv;cases hb:b[j]? with
  | none=>rw [hb] at O; cases O
  | some q =>
   rw [hb] at O hv;simp only [Option.map_some,QO] at O hv;subst O; subst hv;simp [QI]
 have aw:a.eval x=.string (JW b):=by
  have:=r.ev hx;simpa [Qe,QI] using this
 have a7:=r.ev hs;simp only [Qe] at a7;obtain ⟨ba,Vz,n2,au,bh,ar⟩:=a7;rw [aa] at au;cases au;rcases ar rfl with ⟨bd,al,_⟩ | ⟨J,c0,al,ay,af,bc,ao⟩
 ·have a8:es=[]:=List.length_eq_zero_iff.1 bd;subst a8;simp only [List.length_nil,Nat.zero_add] at bg bf aa ⊢
  have ad:(Builtin.append_ #[t,u] o.type #[.slice none 0 0, .string (JW b)]).run P w=.ok (.slice (some ⟨w.heap.size,0,none⟩) es'.length (grownCap w es'.length 0 ty)) (w.drew.alloc (.cells (l.toArray++Builtin.zeroCells z.cells (grownCap w es'.length 0 ty - es'.length)) ty)):=by
   have:=run_append_nil_string (P:=P) w t u o.type ty i z ht hu hi hz (JW b) (by rw [WL]; omega) (by rw [WL]; omega) (by rw [WL,az]; omega);rw [WL] at this;rw [am];refine this.trans ?_;rw [hl];simp [JW]
  have ae:=grownCap_ge w es'.length 0 ty;have ah:grownCap w es'.length 0 ty≤maxLen:=grownCap_le_maxLen w es'.length 0 ty (by unfold maxLen; omega);generalize grownCap w es'.length 0 ty=gc at *
  let C:Array Value:=l.toArray++Builtin.zeroCells z.cells (gc - es'.length)
  let w':World:=w.drew.alloc (.cells C ty)
  obtain ⟨E,X⟩:=GU (w:=w) (w':=w') (ob:=.cells C ty) (φ:=φ) (h:=h) (M0:=M0) (n':=es'.length) aa zo rfl rfl rfl rfl r.hp hC
  have ac:C.size=gc * i.size:=by
   simp only [C,Array.size_append,List.size_toArray,size_zeroCells,a6.1,h5];rw [← Nat.add_mul]; congr 1; omega
  have G:w'.heap[w.heap.size]?=some (.cells C ty (0,0)):=by show (w.heap.push _)[w.heap.size]?=_; simp
  have Y:Qu φ tk w.heap.size tk=w.heap.size:=by simp [Qu]
  have hH:Zz (Qu φ tk w.heap.size) (upd h tk (.arr ty i.size es'.length)) w' M0 :=
   RG aa r.hp E X (fun b hb=>by simp [Qu,Ne.symm hb]) (.inr ⟨Y,hC⟩) (fun d hd _=>hC.lt r.hp (w':=w') (by show (w.heap.push _).size≤_; simp) (fun x hx=>by show (w.heap.push _)[x]?=_; rw [Array.getElem?_push,if_neg zo]) hd) (by rw [Y]; exact G) ac ae ah
  refine ⟨_, .slice (some ⟨w.heap.size,0,none⟩) es'.length gc,w',Qu φ tk w.heap.size,Bw ho (by rw [al,aw]; exact ad), .inl rfl,?_,hH,E,X⟩
  have Z:∀ x,x < es'.length * i.size→¬ MM (Qu φ tk w.heap.size) (upd h tk (.arr ty i.size es'.length)) M0 w.heap.size x:=fun x hx =>
   RH (φ:=φ) (h:=h) r.hp hC (d:=tk) (ty:=ty) (S:=i.size) (n:=es'.length) (by simp [upd]) Y (fun b k hb hk=>⟨by simpa [upd,Ne.symm hb] using hk,by simp [Qu,Ne.symm hb]⟩) hx
  simp only [Qe,QI,List.nil_append];refine ⟨.inl ⟨w.heap.size,0,gc,rfl,ae,?_⟩,ty,es'.length,by simp [upd],Nat.le_refl _,fun _=>.inr ⟨gc,C,by rw [Y],by rw [Y]; exact G,ac,ae,ah⟩⟩;rw [Ko];refine ⟨h3,J8 (l:=l) (by rw [h5,Zm h3]) ?_ ?_ h7 ?_⟩
  ·intro j v O;rw [ZU G];have hlt:j < l.length:=(List.getElem?_eq_some_iff.1 O).1;simp only [Nat.zero_add,C];rw [Array.getElem?_append_left (by simpa using hlt)];simpa using O
  ·intro j O;simp only [Nat.zero_add];exact Z j (by rw [← h5]; exact O)
  ·intro j c v O hv;exact (ZP (E.keeps M0)).1 _ _ (h8 j c v O hv)
 have ai:VN w (MM φ h M0) i.size (φ tk) 0 es:=by
  by_cases av:es=[]
  ·subst av; simp [VN]
  ·obtain ⟨r2,o2,bi,l2,g1,_,_,g4,_⟩:=Xu ba av;rw [al] at g1;simp only [Value.slice.injEq,QO,Addr.mk.injEq] at g1;obtain ⟨⟨rfl,rfl,_⟩,_⟩:=g1;exact g4
 have aj:∀ e ∈ es,e.length=i.size:=((Ko es 0).1 ai).1;by_cases ab:es.length+es'.length≤J
 ·have bk:es.length * i.size+l.length≤c0.size:=by rw [h5,af,← Nat.add_mul]; exact Nat.mul_le_mul_right _ ab
  have ad:(Builtin.append_ #[t,u] o.type #[.slice (some ⟨φ tk,0,none⟩) es.length J, .string (JW b)]).run P w=.ok (.slice (some ⟨φ tk,0,none⟩) (es.length+es'.length) J) (w.setRow (φ tk) (c0.toList.take (es.length * i.size)++l++c0.toList.drop (es.length * i.size+l.length)).toArray):=by
   have:=Lib.run_append_room_string (P:=P) w t u o.type ty i ht hu hi an (φ tk) es.length J c0 ay (JW b) (by rw [WL]; omega) (by rw [WL,af,an]; omega);rw [WL] at this;rw [h5,am,an,Nat.mul_one,Nat.mul_one,hl];refine this.trans ?_;simp [Lib.strCells,JW]
  let C:Array Value:=(c0.toList.take (es.length * i.size)++l++c0.toList.drop (es.length * i.size+l.length)).toArray
  have ax:(c0.toList.take (es.length * i.size)).length=es.length * i.size:=by simp; omega
  have ac:C.size=c0.size:=by simp [C]; omega
  obtain ⟨E,X⟩:=AQ (φ:=φ) (h:=h) (w:=w) (M0:=M0) (n':=es.length+es'.length) (c':=C) aa ay zo ac (fun x hx=>by
   simp only [C,List.getElem?_toArray];rw [List.append_assoc,List.getElem?_append_left (by rw [ax]; exact hx),List.getElem?_take,if_pos hx];simp) r.hp
  have G:(w.setRow (φ tk) C).heap[φ tk]?=some (.cells C ty (0,0)):=setRow_heap w _ c0 C ty _ ay
  have hH:Zz φ (upd h tk (.arr ty i.size (es.length+es'.length))) (w.setRow (φ tk) C) M0 :=
   RG aa r.hp E X (fun _ _=>rfl) (.inl rfl) (fun d hd bb=>setRow_other w _ _ C (fun e=>bb (r.hp.inj d tk hd (by rw [aa]; simp) e))) G (by rw [ac,af]) ab ao
  refine ⟨_, .slice (some ⟨φ tk,0,none⟩) (es.length+es'.length) J,_,φ,Bw ho (by rw [al,aw]; exact ad), .inl rfl,?_,hH,E,X⟩
  have Z:∀ x,x < (es.length+es'.length) * i.size→¬ MM φ (upd h tk (.arr ty i.size (es.length+es'.length))) M0 (φ tk) x:=by
   rintro x hx (⟨b,k,q1,q2,q3⟩ | q1)
   ·by_cases e:tk=b
    ·subst e;have:k=.arr ty i.size (es.length+es'.length):=by simpa [upd] using q1.symm
     subst this;simp only at q3;omega
    ·have q4:h b=some k:=by simpa [upd,e] using q1
     exact e (r.hp.inj b tk (by rw [q4]; simp) (by rw [aa]; simp) q2).symm
   ·exact r.hp.fr tk (by rw [aa]; simp) x q1
  simp only [Qe,QI];refine ⟨.inl ⟨φ tk,0,J,by simp,by simpa using ab,?_⟩,ty,es.length+es'.length,by simp [upd],by simp,fun _=>.inr ⟨J,C,rfl,G,by rw [ac,af],ab,ao⟩⟩;rw [Vh];refine ⟨(ZP (E.keeps M0)).2.1 _ _ _ _ ai,?_⟩;rw [Ko];refine ⟨h3,J8 (l:=l) (by rw [h5,Zm h3]) ?_ ?_ h7 ?_⟩
  ·intro j v O;rw [ZU G];have hlt:j < l.length:=(List.getElem?_eq_some_iff.1 O).1;simp only [Nat.zero_add,C,List.getElem?_toArray];rw [List.append_assoc,List.getElem?_append_right (by rw [ax]; omega),ax,List.getElem?_append_left zo];rw [show es.length * i.size+j - es.length * i.size=j from by omega];exact O
  ·intro j O;simp only [Nat.zero_add];refine Z _ ?_;rw [h5] at O;rw [Nat.add_mul]; omega
  ·intro j c v O hv;exact (ZP (E.keeps M0)).1 _ _ (h8 j c v O hv)
 ·obtain ⟨ol,g1,g2,g3,g4⟩:=FJ _ _ ((Ko es 0).1 ai).2;have aq:ol.length=es.length * i.size:=by rw [g1,Zm aj]
  have ad:(Builtin.append_ #[t,u] o.type #[.slice (some ⟨φ tk,0,none⟩) es.length J, .string (JW b)]).run P w=.ok (.slice (some ⟨w.heap.size,0,none⟩) (es.length+es'.length) (grownCap w (es.length+es'.length) J ty)) (w.drew.alloc (.cells (ol.toArray++l.toArray++Builtin.zeroCells z.cells (grownCap w (es.length+es'.length) J ty - (es.length+es'.length))) ty)):=by
   have:=Lib.run_append_grow_string (P:=P) w t u o.type ty i z ht hu hi hz ⟨φ tk,0,none⟩ es.length J ol aq (fun j v O=>by rw [Addr.add_lit]; exact g2 j v O) (JW b) (by rw [WL]; omega) (by rw [WL]; omega) (growslice_fits (by rw [WL]; omega) (by rw [WL,az]; omega));rw [WL] at this;rw [am];refine this.trans ?_;rw [hl];simp [Lib.strCells,JW]
  have ae:=grownCap_ge w (es.length+es'.length) J ty;have ah:grownCap w (es.length+es'.length) J ty≤maxLen:=grownCap_le_maxLen w _ J ty (by unfold maxLen; omega);generalize grownCap w (es.length+es'.length) J ty=gc at *
  let C:Array Value:=ol.toArray++l.toArray++Builtin.zeroCells z.cells (gc - (es.length+es'.length))
  let w':World:=w.drew.alloc (.cells C ty)
  obtain ⟨E,X⟩:=GU (w:=w) (w':=w') (ob:=.cells C ty) (φ:=φ) (h:=h) (M0:=M0) (n':=es.length+es'.length) aa zo rfl rfl rfl rfl r.hp hC
  have ac:C.size=gc * i.size:=by
   simp only [C,Array.size_append,List.size_toArray,size_zeroCells,a6.1,h5,aq];rw [← Nat.add_mul,← Nat.add_mul]; congr 1; omega
  have G:w'.heap[w.heap.size]?=some (.cells C ty (0,0)):=by show (w.heap.push _)[w.heap.size]?=_; simp
  have Y:Qu φ tk w.heap.size tk=w.heap.size:=by simp [Qu]
  have hH:Zz (Qu φ tk w.heap.size) (upd h tk (.arr ty i.size (es.length+es'.length))) w' M0 :=
   RG aa r.hp E X (fun b hb=>by simp [Qu,Ne.symm hb]) (.inr ⟨Y,hC⟩) (fun d hd _=>hC.lt r.hp (w':=w') (by show (w.heap.push _).size≤_; simp) (fun x hx=>by show (w.heap.push _)[x]?=_; rw [Array.getElem?_push,if_neg zo]) hd) (by rw [Y]; exact G) ac ae ah
  refine ⟨_, .slice (some ⟨w.heap.size,0,none⟩) (es.length+es'.length) gc,w',Qu φ tk w.heap.size,Bw ho (by rw [al,aw]; exact ad), .inl rfl,?_,hH,E,X⟩
  have Z:∀ x,x < (es.length+es'.length) * i.size→¬ MM (Qu φ tk w.heap.size) (upd h tk (.arr ty i.size (es.length+es'.length))) M0 w.heap.size x:=fun x hx =>
   RH (φ:=φ) (h:=h) r.hp hC (d:=tk) (ty:=ty) (S:=i.size) (n:=es.length+es'.length) (by simp [upd]) Y (fun b k hb hk=>⟨by simpa [upd,Ne.symm hb] using hk,by simp [Qu,Ne.symm hb]⟩) hx
  simp only [Qe,QI];refine ⟨.inl ⟨w.heap.size,0,gc,by simp,by simpa using ae,?_⟩,ty,es.length+es'.length,by simp [upd],by simp,fun _=>.inr ⟨gc,C,by rw [Y],by rw [Y]; exact G,ac,ae,ah⟩⟩;rw [Vh];constructor
  ·rw [Ko];refine ⟨aj,J8 (l:=ol) g1 ?_ ?_ g3 ?_⟩
   ·intro j v O;rw [ZU G];have hlt:j < ol.length:=(List.getElem?_eq_some_iff.1 O).1;simp only [Nat.zero_add,C];rw [Array.append_assoc,Array.getElem?_append_left (by simpa using hlt)];simpa using O
   ·intro j O;simp only [Nat.zero_add];refine Z _ ?_;rw [aq] at O;rw [Nat.add_mul]; omega
   ·intro j c v O hv;exact (ZP (E.keeps M0)).1 _ _ (g4 j c v O hv)
  ·rw [Ko];refine ⟨h3,J8 (l:=l) (by rw [h5,Zm h3]) ?_ ?_ h7 ?_⟩
   ·intro j v O;rw [ZU G];have hlt:j < l.length:=(List.getElem?_eq_some_iff.1 O).1;simp only [Nat.zero_add,C];rw [Array.append_assoc,Array.getElem?_append_right (by simp; omega),Array.getElem?_append_left (by simp; omega)];simp only [List.size_toArray,aq,List.getElem?_toArray];rw [show es.length * i.size+j - es.length * i.size=j from by omega];exact O
   ·intro j O;simp only [Nat.zero_add];refine Z _ ?_;rw [h5] at O;rw [Nat.add_mul]; omega
   ·intro j c v O hv;exact (ZP (E.keeps M0)).1 _ _ (h8 j c v O hv)
end
section
variable {R:Type} {a:Option R} {P:Program} {N:Nat} {ops:Array Oper} {o:Oper} {l:List Oper} {acc:List Yn} {s:St} {Q:R→AX→St→Prop}
theorem G5 {u:TypeId} {bs b:List UInt8}  (Z:o.op=.call ⟨.builtin .append,#[x,y],#[t,u]⟩) 
  (ht:P.underlying t=some (.slice ty)) (hu:P.underlying u=some .string) 
    
  (hc:(QK (List.length (bs++b)) 1&&!List.isEmpty b)=true)
  (h:Yf a P N ops Q false ((none,[]) :: acc) l (St.put ⟨(mk ops o s true).T,s.H.map fun p=>if p.1=tk then (p.1, .arr ty 1 (List.map c8b (bs++b)).length) else p⟩ o.dst (.tsl 1 (List.map c8b (bs++b)) tk)))(hw:ZC ops o (look s.T)=some true:=by kernel_rfl)(hd:KE N o.dst=true:=by kernel_rfl)(hi:(P.info? ty).map (fun i=>(i.size,i.bytes,i.zero))=some (1,1,some (.int .u8 0)):=by kernel_rfl)(hx:Zc (look (mk ops o s true).T) x=some (.tsl 1 (List.map c8b bs) tk):=by kernel_rfl)(hy:Zc (look (mk ops o s true).T) y=some (.p (.val (.string (JW b)))):=by kernel_rfl)(hb:look s.H tk=some (.arr ty 1 (List.map c8b bs).length):=by kernel_rfl):Yf a P N ops Q false acc (o :: l) s:=by
 refine QgO hw (by rw [Z,hd]; rfl) (fun c hc=>by rw [Z] at hc; cases hc) fun φ M0 D ac w r=>⟨_,⟨(mk ops o s true).T,s.H.map fun p=>if p.1=tk then (p.1, .arr ty 1 (List.map c8b (bs++b)).length) else p⟩,rfl,h,?_⟩
 obtain ⟨i,aa,O⟩:=Fe.1 hi;simp only [Prod.mk.injEq] at O;obtain ⟨J,e2,e3⟩:=O;simp only [Zf,Bool.not_eq_true'] at hc;have G:=hc.1;simp only [QK,Y0,decide_eq_true_eq] at G
 have Y:b ≠ []:=by
  intro e;rw [e] at hc;exact absurd hc.2 zq
 have hH:look (s.H.map fun p=>if p.1=tk then (p.1, .arr ty 1 (List.map c8b (bs++b)).length) else p)=upd (look s.H) tk (.arr ty 1 (List.map c8b (bs++b)).length):=by
  funext c;exact yT s.H c hb
 show Yield P o φ M0 (look s.H) ac w _ (look (s.H.map fun p=>if p.1=tk then (p.1, .arr ty 1 (List.map c8b (bs++b)).length) else p));rw [hH];have key:=eB (es:=List.map c8b bs) (es':=b.map c8b) (tk:=tk) (b:=b) (i:=i) (z:=.int .u8 0) r Z ht hu aa J e2 e3 (by rw [J]; exact ⟨rfl,by omega⟩) (by rw [J]; exact hx) hy (by rw [J]; exact hb) (by simp only [List.length_map]; omega) rfl Y;rw [J] at key;have hl:(List.map c8b (bs++b)).length=(List.map c8b bs).length+(List.map c8b b).length:=by simp
 rw [hl,List.map_append];exact key
theorem nZ {ac:Act} {g:Nat} {k:IntKind} {n:Int} {G:List (List UInt8)} {x:List UInt8} (r:Q8 φ M0 N D T h ac w) (ho:o.op=.indexAddr t (.global g) ix)
  (ht:P.underlying t=some (.array len e)) (hi:(P.info? e).map (·.size)=some 1) (hn:Zc T ix=some (.p (.val (.int k n)))) (hg:gfix.contains g=true) (ah:G.length=len)
  (Y:∀ w,mX w→∀ (j:Nat) (y:List UInt8),G[j]?=some y→w.cell? ⟨g,j,none⟩=some (.string (JW y))) (Z:QU G n=some x):Yield P o φ M0 h ac w (.eptr [.val (.string (JW x))]) h:=by
 have ab:ac.eval ix=.int k n:=by
  have:=r.ev hn;simpa [Qe,QI] using this
 have J:0≤n∧n < (len:Int)∧G[n.toNat]?=some x:=by
  unfold QU at Z;split at Z
  ·cases Z
  ·rename_i af;have:=(List.getElem?_eq_some_iff.1 Z).1;exact ⟨by omega,by omega,Z⟩
 obtain ⟨j,rfl⟩:=Int.eq_ofNat_of_zero_le J.1;have O:=Y w r.hp.gm.w j x (by simpa using J.2.2);obtain ⟨inf,ae,ad⟩:=Fe.1 hi;refine Qm r (v:=.pointer (some ⟨g,j,none⟩)) ?_ ?_
 ·have hlt:(j:Int) < (len:Int):=J.2.1;have aa:ac.eval (.global g)=.pointer (some ⟨g,0,none⟩):=rfl;simp [execOp,ho,Instr.indexAt,ab,asIntOf,run_underlying ht,aa,Instr.sureAddr,QX ae,ad,Addr.add_lit];intro hh;omega
 ·simp only [Qe,VM,QI];exact ⟨g,j,rfl,⟨_,O,r.hp.gm.m g (by simpa using hg) j,rfl,rfl⟩,trivial⟩
theorem QgP {L:List Nat} {c:Nat} {Ch:List (Nat × List Nat)} {k0:List UInt8→Option R} {g:Nat} {k:IntKind} {n:Int} {J:List (List UInt8)} (L':List Nat) (hc:ops[c]?=some o) (O:o.op=.indexAddr t (.global g) ix) (hd:KE N o.dst=true)
  (ht:P.underlying t=some (.array len e)) (hi:(P.info? e).map (·.size)=some 1) (hn:Zc (look s.T) ix=some (.p (.val (.int k n)))) (hg:gfix.contains g=true) (G:(J.length == len&&X8 ops L c == L')=true)
  (Z:∀ w,mX w→∀ (j:Nat) (y:List UInt8),J[j]?=some y→w.cell? ⟨g,j,none⟩=some (.string (JW y)))
  (hl:∀ x,QU J n=some x→Jg P ops L' (St.put s o.dst (.eptr [.val (.string (JW x))])))
  (h:∀ x,kH (k0 x) P N ops Q L Ch (St.put s o.dst (.eptr [.val (.string (JW x))]))):kH ((QU J n).bind k0) P N ops Q L ((c,[]) :: Ch) s:=by
 simp only [Zf,beq_iff_eq] at G;obtain ⟨G,hL⟩:=G;cases hx:QU J n with
 | none=>exact ⟨fun r hr=>by cases hr⟩
 | some x =>
  refine ⟨fun r hr=>?_⟩;simp only [fO,hc];unfold X3
  have key:dE P N o s (fun s'=>Jg P ops (X8 ops L c) s'∧∃ Y,RX P N ops [] s'=some Y∧fO P N ops (qh ops Q r) L Ch Y):=by
   refine ⟨fun c hc=>(by rw [O] at hc; cases hc),hd,fun φ M0 D ac w r1=>⟨_,s,rfl,⟨hL ▸ hl x hx,_,rfl,(h x).h r hr⟩,nZ r1 O ht hi hn hg G Z hx⟩⟩
  split
  ·rename_i he; rw [he] at O; cases O
  ·rename_i he; rw [he] at O; cases O
  ·rename_i he; rw [he] at O; cases O
  ·exact .inr key
theorem U5 {dr:Bool} (h:Yf ((some ()).bind fun _=>a) P N ops Q dr acc l s):Yf a P N ops Q dr acc l s:=h
end
theorem Qbz (b k:Nat) (hb:cellAt b k s=some (.p (.val (.pointer none)))):Weak N s (GY b k (.sfp b) s):=by
 intro φ M0 D a w r;obtain ⟨ty,cs,G,DD⟩:=LM hb;have J:look (GY b k (.sfp b) s).H=upd (look s.H) b (.box ty (cs.set k (.sfp b))):=zh G;refine ⟨φ,?_,?_⟩
 ·show Q8 φ M0 N D (look s.T) (look (GY b k (.sfp b) s).H) a w;rw [J];refine wV r G fun c hc=>?_
  obtain ⟨c',g1,g2⟩:=r.hp.blk b _ G;rw [hc] at g1;cases g1;obtain ⟨u,g3,g4⟩:=R3 g2 DD;refine FX g2 g3 ?_;simp only [Qe];exact ⟨.inl (by simpa [Qe,QI] using g4),ty,cs,G⟩
 ·rw [J];exact EB G
def EG (g:Nat) (w w':World):Prop :=
 w'.os=w.os∧w'.tape=w.tape∧w'.output=w.output∧w.heap.size≤w'.heap.size∧w'.heap.size≤w.heap.size+1∧(∀ x,x < w.heap.size→x ≠ g→w'.heap[x]?=w.heap[x]?)∧(∀ x o,x < w.heap.size→w'.cell? ⟨x,o,none⟩=w.cell? ⟨x,o,none⟩)
structure QgQ (P:Program) (f:FuncId) (ty te:TypeId):Prop where
 nil:∀ (b g:Nat) (p:Value) (w:World),w.heap[b]?=some (.cells #[p, .slice none 0 0] ty (0,0))→Calls P f #[.pointer (some ⟨b,0,none⟩)] w fun e w'=>e=.returned (.string ⟨#[]⟩)∧EG g w w'
 full:∀ (b g cap:Nat) (p:Value) (cur:Array Value) (l:List UInt8) (w:World),l ≠ []→w.heap[b]?=some (.cells #[p, .slice (some ⟨g,0,none⟩) l.length cap] ty (0,0))→w.heap[g]?=some (.cells cur te (0,0))→l.length≤cap→cap≤maxLen→cur.size=cap →
  (∀ (j:Nat) (x:UInt8),l[j]?=some x→w.cell? ⟨g,j,none⟩=some (.int .u8 x.toNat))→Calls P f #[.pointer (some ⟨b,0,none⟩)] w fun e w'=>e=.returned (.string ⟨l.toArray⟩)∧EG g w w'
 noroom:∀ (b g:Nat) (p:Value) (cur:Array Value) (w:World),w.heap[b]?=some (.cells #[p, .slice (some ⟨g,0,none⟩) 0 0] ty (0,0))→w.heap[g]?=some (.cells cur te (0,0))→Calls P f #[.pointer (some ⟨b,0,none⟩)] w fun e w'=>e=.returned (.string ⟨#[]⟩)∧EG g w w'
 room:∀ (b g cap:Nat) (p:Value) (w:World),cap ≠ 0→w.heap[b]?=some (.cells #[p, .slice (some ⟨g,0,none⟩) 0 cap] ty (0,0))→Calls P f #[.pointer (some ⟨b,0,none⟩)] w fun e w'=>e=.returned (.string ⟨#[]⟩)∧EG g w w'
theorem upd_same {k:Blk} (hb:h b=some k):upd h b k=h:=by
 funext c;simp only [upd];split
 ·rename_i e; rw [← e,hb]
 ·rfl
theorem pg
  (hU:∀ (b:Nat) (w:World),w.cell? ⟨b,0,none⟩=some (.pointer (some ⟨b,0,none⟩))→Calls P f #[.pointer (some ⟨b,0,none⟩)] w fun e w'=>e=.returned (.tuple #[])∧w'=w)
  (hF:∀ (b:Nat) (w:World),w.cell? ⟨b,0,none⟩=some (.pointer none)→w.shape? b=some (ty,2)→w.frozen? ⟨b,0,none⟩=false→Calls P f #[.pointer (some ⟨b,0,none⟩)] w fun e w'=>e=.returned (.tuple #[])∧w'=w.setCell ⟨b,0,none⟩ (.pointer (some ⟨b,0,none⟩)))
  (J:Option Addr) (G hc:Nat) :
  KD P f [.ptr 1000 0] (look [(1000, .box ty [.sfp 1000, .p (.val (.slice J G hc))])]) fun r h'=>r=.ret (.tup [])∧h'=look [(1000, .box ty [.sfp 1000, .p (.val (.slice J G hc))])]:=by
 intro φ M0 w vs r ha;simp only [Qi] at ha;obtain ⟨y,ys,rfl,hy,rfl⟩:=ha;simp only [Qe] at hy;obtain ⟨rfl,_⟩:=hy;have hb:look [(1000,Blk.box ty [.sfp 1000, .p (.val (.slice J G hc))])] 1000=some (.box ty [.sfp 1000, .p (.val (.slice J G hc))]):=rfl;obtain ⟨c,O,Y⟩:=r.blk 1000 _ hb;have ab:=Y;simp only [Qi] at Y;obtain ⟨v0,l0,e0,h0,Z,l1,e1,h1,rfl⟩:=Y;subst e1
 have ec:c=#[v0,Z]:=by
  apply Array.ext';exact e0
 subst ec;simp only [Qe] at h0;rcases h0.1 with rfl | rfl
 ·refine (hF (φ 1000) w (by simp [World.cell?,O]) (by simp [World.shape?,O]) (by simp [World.frozen?,O])).mono ?_;rintro e w' ⟨rfl,rfl⟩;rw [setCell_eq_setRow w (φ 1000) 0 _ ty (0,0) _ O]
  have aa:Qi φ (look [(1000,Blk.box ty [.sfp 1000, .p (.val (.slice J G hc))])]) w (MM φ (look [(1000,Blk.box ty [.sfp 1000, .p (.val (.slice J G hc))])]) M0) [.sfp 1000, .p (.val (.slice J G hc))] ((#[.pointer none,Z]:Array Value).setIfInBounds 0 (.pointer (some ⟨φ 1000,0,none⟩))).toList:=by
   simp only [Qi,Qe];exact ⟨.pointer (some ⟨φ 1000,0,none⟩),[Z],by simp,⟨.inr rfl,h0.2⟩,Z,[],rfl,h1,rfl⟩
  obtain ⟨E,X⟩:=OZ (cs':=[.sfp 1000, .p (.val (.slice J G hc))]) (c':=(#[.pointer none,Z]:Array Value).setIfInBounds 0 (.pointer (some ⟨φ 1000,0,none⟩))) hb O r;have R:=xH hb O r aa;rw [upd_same hb] at E R;exact ⟨φ,_,_,⟨rfl,rfl⟩,R,E,_,rfl,by simp [Qe,Qi]⟩
 ·refine (hU (φ 1000) w (by simp [World.cell?,O])).mono ?_;rintro e w' ⟨rfl,rfl⟩;exact ⟨φ,_,_,⟨rfl,rfl⟩,r,QW.refl _ _ _,_,rfl,by simp [Qe,Qi]⟩
theorem pq {te:TypeId} {t:Nat} {l:List UInt8} (C:QgQ P f ty te) (K0:Lp)
  (hb:look s.H b=some (.box ty [.sfp b, .tsl 1 (List.map c8b l) t])) (ht:look s.H t=some (.arr te 1 (List.map c8b l).length)) (hs:L8 K0 s=some s') (av:look s'.H t=none)
  (am:∀ c,look s'.H c ≠ none→look s.H c ≠ none) (hd:∀ x,dst=some x→x < N) (hk:K (s'.put dst (.p (.val (.string (JW l)))))):Xy P N f [.ptr b 0] dst s K Q:=by
 intro φ M0 D a w vs r ha;simp only [Qi] at ha;obtain ⟨y,ys,rfl,hy,rfl⟩:=ha;simp only [Qe] at hy;obtain ⟨rfl,_⟩:=hy;obtain ⟨r1,E1⟩:=Qdx hs r;obtain ⟨r2,E2,X2,hC⟩:=r1.lift 1
 have fin:∀ w',EG (φ t) w w'→∃ φ' G,K G∧Q8 φ' M0 N D (look G.T) (look G.H) (a.put dst (.string (JW l))) w'∧QW φ (look s.H) w φ' (look G.H) w':=by
  rintro w' ⟨h1,h2,h3,h4,h5,h6,h7⟩;generalize az:KC φ w.heap.size 1=O at r2 E2 X2 hC
  have hne:∀ c,look s'.H c ≠ none→φ c ≠ φ t:=fun c hc e=>by
   have:=r.hp.inj c t (am c hc) (by rw [ht]; simp) e;rw [this] at hc;exact hc av
  have hh:∀ c k,look s'.H c=some k→w'.heap[O c]?=w.heap[O c]?:=by
   intro c k hc;rcases hC c (by rw [hc]; simp) with hlt | a6
   ·have ar:O c=φ c:=by
     rw [← az] at hlt ⊢;unfold KC at hlt ⊢;split
     ·rfl
     ·rename_i h; rw [if_neg h] at hlt; omega
    rw [ar] at hlt ⊢;exact h6 _ hlt (hne c (by rw [hc]; simp))
   ·rw [ZG zo,ZG zo]
  have ah:∀ x o v,w.cell? ⟨x,o,none⟩=some v→¬ MM O (look s'.H) M0 x o→w'.cell? ⟨x,o,none⟩=some v∧¬ MM O (look s'.H) M0 x o:=fun x o v g1 g2=>⟨by rw [h7 x o (BV g1)]; exact g1,g2⟩
  have X:VR O (look s'.H) w O (look s'.H) w':=⟨fun _ _ _ x=>⟨⟨_,_,x⟩,rfl⟩,fun c ty S n x=>⟨_,x,Nat.le_refl _,fun _=>Yp rfl (by rw [hh _ _ x])⟩,
   fun c ty S n x=>⟨_,x,Nat.le_refl _,fun _=>⟨rfl,fun q hq=>⟨q,by rw [hh _ _ x]; exact hq,rfl⟩⟩⟩,fun _ _ _ g1 g2=>⟨⟨_,g1,g2⟩,rfl⟩⟩
  have E3:=E1.trans E2;have ao:w.heap.size≤w.heap.size:=Nat.le_refl _
  have E:QW φ (look s.H) w O (look s'.H) w':=by
   refine ⟨h1,h2,h3,h4,fun x hx ay=>?_,fun x o hx _=>h7 x o hx,E3.mu,E3.kb,fun c ty S n hc ad=>?_,fun c ty S es hc ad=>?_,E3.ko⟩
   ·exact h6 x hx (fun e=>ay t (by rw [ht]; simp) e.symm)
   ·obtain ⟨n',g1,g2,g3⟩:=E3.kt c ty S n hc ad;exact ⟨n',g1,g2,fun e=>(g3 e).trans ao (Yp rfl (hh _ _ g1))⟩
   ·obtain ⟨es',g1,g2,g3⟩:=E3.kv c ty S es hc ad;refine ⟨es',g1,g2,fun e=>?_⟩;obtain ⟨g4,g5⟩:=g3 e;refine ⟨g4,fun q hq=>?_⟩;obtain ⟨q',g6,g7⟩:=g5 q hq;refine ⟨q',?_,g7⟩;have:=hh _ _ g1;rw [g4] at this;rw [this];exact g6
  have R:Zz O (look s'.H) w' M0:=⟨r2.hp.inj,fun c k hc=>ZI ah X (hh c k hc) (r2.hp.blk c k hc),r2.hp.fr,fun x o hx=>Nat.lt_of_lt_of_le (r2.hp.lt x o hx) h4,r.hp.gm.evol E⟩;have rr:Q8 O M0 N D (look s'.T) (look s'.H) a w':=⟨r.dfs.keep E,r.siz,R,fun q x hq=>⟨(r2.tm q x hq).1,(QJ ah X).1 _ _ (r2.tm q x hq).2⟩⟩;refine ⟨O,s'.put dst (.p (.val (.string (JW l)))),hk,rr.put hd (by simp [Qe,QI]),?_⟩;cases dst <;> exact E
 have J:∀ (e:Ending) (w':World),(e=.returned (.string (JW l))∧EG (φ t) w w')→(match e with
  | .returned v=>∃ φ' G,K G∧Q8 φ' M0 N D (look G.T) (look G.H) (a.put dst v) w'∧QW φ (look s.H) w φ' (look G.H) w'
  | .panicked chain=>Post N D Q φ M0 (look s.H) w (.panic chain) a w'
  | .outgrown=>False):=by
  rintro e w' ⟨rfl,ax⟩;exact fin w' ax
 obtain ⟨c,hw,ae⟩:=r.hp.blk b _ hb;simp only [Qi] at ae;obtain ⟨v0,l0,e0,h0,v1,l1,e1,h1,rfl⟩:=ae;subst e1
 have ec:c=#[v0,v1]:=by
  apply Array.ext';exact e0
 subst ec;simp only [Qe] at h1;obtain ⟨af,Vz,n2,aj,a7,Z⟩:=h1;rw [ht] at aj;cases aj;rcases Z rfl with ⟨au,rfl,an⟩ | ⟨cap,c0,rfl,ak,aw,ab,al⟩
 ·have Y:l=[]:=List.eq_nil_of_length_eq_zero (by simpa using au);subst Y;exact (C.nil (φ b) (φ t) v0 w hw).mono J
 ·rw [List.length_map] at hw ab;by_cases Y:l=[]
  ·subst Y;by_cases ai:cap=0
   ·subst ai;exact (C.noroom (φ b) (φ t) v0 c0 w hw ak).mono J
   ·exact (C.room (φ b) (φ t) cap v0 w ai hw).mono J
  ·refine (C.full (φ b) (φ t) cap v0 c0 l w Y hw ak ab al (by rw [aw,Nat.mul_one]) ?_).mono J;intro j x hx;simp only [QI] at af;rcases af with ⟨rr,oo,cp,g1,g2,g3⟩ | ⟨g1,_⟩
   ·simp only [Value.slice.injEq,QO,Addr.mk.injEq] at g1;obtain ⟨⟨rfl,rfl,_⟩,_⟩:=g1;obtain ⟨ol,k1,k2,k3,k4⟩:=FJ _ _ ((Ko _ 0).1 g3).2;rw [zn] at k1 k4;have hj:j < l.length:=(List.getElem?_eq_some_iff.1 hx).1
    have aq:∃ v,ol[j]?=some v:=by
     have:j < ol.length:=by rw [k1]; simpa using hj
     exact ⟨_,List.getElem?_eq_getElem this⟩
    obtain ⟨v,hv⟩:=aq;have ac:=k2 j v hv;have aa:=k4 j (.val (.int .u8 x.toNat)) v (by rw [List.getElem?_map,hx]; rfl) hv;simp only [QI] at aa;subst aa;simpa [Addr.add_lit] using ac
   ·exact absurd (by simpa using g1) Y
section
variable {R:Type} {a:Option R} {P:Program} {N:Nat} {ops:Array Oper} {o:Oper} {l:List Oper} {acc:List Yn} {s s':St} {Q:R→AX→St→Prop}
theorem QdW {Y:TypeId} {t:Nat} {bs:List UInt8} (C:QgQ P f ty Y) (Z:Lp) (hw:ZC ops o (look s.T)=some true) (G:ZO (look (Zd ops o s.T true)) o.op=some (f,[.ptr b 0])) (hok:(Ye P f&&KE N o.dst)=true)
  (hb:look s.H b=some (.box ty [.sfp b, .tsl 1 (List.map c8b bs) t])) (ht:look s.H t=some (.arr Y 1 (List.map c8b bs).length)) (hs:L8 Z (mk ops o s true)=some s') (O:(look s'.H t).isNone=true)
  (J:(s'.H.all fun p=>(look s.H p.1).isSome)=true) (h:Yf a P N ops Q false ((none,[]) :: acc) l (St.put s' o.dst (.p (.val (.string (JW bs)))))):Yf a P N ops Q false acc (o :: l) s:=by
 simp only [Zf] at hok;refine ⟨fun r hr=>?_⟩;show K3 P N ops (Q r) (o :: l) s;simp only [K3,hw,ZE,Jp G];refine XJ G hok.1 (pq C Z hb ht hs (by simpa using O) (fun c hc=>?_) (ZL hok.2) (h.h r hr));obtain ⟨k,hk⟩:=AP.1 hc;have hm:c ∈ s'.H.map (·.1):=Kb.1 (by rw [hk]; simp);obtain ⟨p,hp,rfl⟩:=List.mem_map.1 hm;have:=List.all_eq_true.1 J p hp;obtain ⟨q,hq⟩:=TD.1 this;show look s.H p.1 ≠ none;rw [hq]; simp
end
end Go.Abs
namespace Go.Proofs
open Go Go.RowKit
set_option maxHeartbeats 1000000 in
set_option maxRecDepth 100000 in
theorem eD (b:Nat) (w:World) (h0:w.cell? ⟨b,0,none⟩=some (.pointer (some ⟨b,0,none⟩))) :
  Calls Tryz.prog 131 #[.pointer (some ⟨b,0,none⟩)] w fun e w'=>e=.returned (.tuple #[])∧w'=w:=by
 obtain ⟨j,G,J⟩:∃ j,Tryz.prog.info? 95=some j∧j.size=2:=Fe.1 (show (Tryz.prog.info? 95).map (·.size)=some 2 by kernel_rfl)
 go_enter Tryz.func131,Tryz.ntmps131
 go_wp2
 rw [Lib.run_neq_ptr_same w _ Tryz.underlying92 G]
 go_wp2
 go_end0
 exact ⟨rfl,rfl⟩
set_option maxHeartbeats 1000000 in
set_option maxRecDepth 100000 in
theorem pu (b:Nat) (w:World) (h0:w.cell? ⟨b,0,none⟩=some (.pointer none)) (G:w.shape? b=some (97,2)) (Y:w.frozen? ⟨b,0,none⟩=false) :
  Calls Tryz.prog 131 #[.pointer (some ⟨b,0,none⟩)] w fun e w'=>e=.returned (.tuple #[])∧w'=w.setCell ⟨b,0,none⟩ (.pointer (some ⟨b,0,none⟩)):=by
 obtain ⟨j,O,J⟩:∃ j,Tryz.prog.info? 95=some j∧j.size=2:=Fe.1 (show (Tryz.prog.info? 95).map (·.size)=some 2 by kernel_rfl)
 go_enter Tryz.func131,Tryz.ntmps131
 go_wp2
 rw [Lib.run_to_unsafe w ⟨b,0,none⟩ Tryz.underlying92 Tryz.underlying274 O (by rw [J]; decide) G (Nat.zero_lt_succ 1)];simp only [Result.andThen];rw [Oper.upon_value]
 go_wp2
 rw [run_callFunc_extern Tryz.func194 (by kernel_rfl) (by kernel_rfl) (by kernel_rfl) (e:=Extern.AbiNoEscape.same) (by kernel_rfl)];rw [Lib.run_noEscape];simp only [Result.andThen];rw [Oper.upon_value]
 go_wp2
 rw [Lib.run_from_unsafe w ⟨b,0,none⟩ Tryz.underlying274 Tryz.underlying92 O G (by kernel_rfl)];simp only [Result.andThen];rw [Oper.upon_value]
 go_wp2
 go_end0
 exact ⟨rfl,rfl⟩
end Go.Proofs
namespace Go.Proofs
open Go Go.RowKit Go.Abs
variable {n:Nat}
theorem Ai (g:Nat) (w:World):EG g w w:=⟨rfl,rfl,rfl,Nat.le_refl _,Nat.le_succ _,fun _ _ _=>rfl,fun _ _ _=>rfl⟩
theorem eF {g:Nat} {w w':World} (o:Obj) (O:w'=w.drew.alloc o∨w'=(w.alloc o).drew∨w'=w.alloc o):EG g w w':=by
 have key:EG g w (w.alloc o):=by
  have G:∀ x,x < w.heap.size→(w.alloc o).heap[x]?=w.heap[x]?:=fun x J=>by show (w.heap.push o)[x]?=_; rw [Array.getElem?_push,if_neg zo]
  exact ⟨rfl,rfl,rfl,by show _≤(w.heap.push o).size; simp,by show (w.heap.push o).size≤_; simp,fun x J _=>G x J,fun x y J=>by simp [World.cell?,G x J]⟩
 rcases O with rfl | rfl | rfl
 ·exact key
 ·exact key
 ·exact key
theorem gp {g:Nat} {w:World}:EG g w (w.freeze ⟨g,0,none⟩ n):=by
 unfold World.freeze;split
 ·exact Ai g w
 ·refine ⟨rfl,rfl,rfl,by simp,by simp,fun x G hne=>?_,fun x o G=>?_⟩
  ·simp only [Array.getElem?_modify];rw [if_neg (fun e=>hne e.symm)]
  ·simp only [World.cell?,Array.getElem?_modify];by_cases e:g=x
   ·subst e;simp only [if_true];cases hc:w.heap[g]? with
    | none=>rfl
    | some ob=>cases ob <;> rfl
   ·rw [if_neg e]
set_option maxHeartbeats 2000000 in
set_option maxRecDepth 100000 in
theorem QdX (b g:Nat) (p:Value) (w:World) (G:w.heap[b]?=some (.cells #[p, .slice none 0 0] 97 (0,0))) :
  Calls Tryz.prog 32 #[.pointer (some ⟨b,0,none⟩)] w fun e w'=>e=.returned (.string ⟨#[]⟩)∧EG g w w':=by
 have O:∀ (W:World) (q:Option Addr),(Builtin.unsafeString_ #[163,3] 9 #[.pointer q, .int .i64 0]).run Tryz.prog W=.ok (.string .empty) W:=fun W q=>Lib.run_unsafeString_none W _ _ _ q
 have Y:w.drew.cell? ⟨b,1,none⟩=some (.slice none 0 0):=by
  have:w.drew.heap[b]?=some (.cells #[p, .slice none 0 0] 97 (0,0)):=G;rw [Lib.cell_of_heap this]; rfl
 have J:(Builtin.unsafeSliceData_ #[93] 163 #[.slice none 0 0]).run Tryz.prog w.drew=.ok (.pointer none) w.drew:=rfl;have mixed:Tryz.prog.follows .mixedOrders=true:=by kernel_rfl
 go_enter Tryz.func32,Tryz.ntmps32
 go_wp2
 go_region_o
 all_goals (go_wp2; go_ret; exact ⟨rfl,Ai g w⟩)
set_option maxHeartbeats 2000000 in
set_option maxRecDepth 100000 in
theorem QbA (b g cap:Nat) (p:Value) (G:Array Value) (l:List UInt8) (w:World) (h0:l ≠ []) (Y:w.heap[b]?=some (.cells #[p, .slice (some ⟨g,0,none⟩) l.length cap] 97 (0,0))) (hg:w.heap[g]?=some (.cells G 5 (0,0))) (ad:l.length≤cap) (O:cap≤maxLen) (ab:G.size=cap)
  (J:∀ j x,l[j]?=some x→w.cell? ⟨g,j,none⟩=some (.int .u8 x.toNat)) :
  Calls Tryz.prog 32 #[.pointer (some ⟨b,0,none⟩)] w fun e w'=>e=.returned (.string ⟨l.toArray⟩)∧EG g w w':=by
 have ae:l.length ≠ 0:=by simpa using h0
 have c1:w.drew.cell? ⟨b,1,none⟩=some (.slice (some ⟨g,0,none⟩) l.length cap):=by
  have:w.drew.heap[b]?=some (.cells #[p, .slice (some ⟨g,0,none⟩) l.length cap] 97 (0,0)):=Y;rw [Lib.cell_of_heap this]; rfl
 have aa:(Builtin.unsafeSliceData_ #[93] 163 #[.slice (some ⟨g,0,none⟩) l.length cap]).run Tryz.prog w.drew=.ok (.pointer (some ⟨g,0,none⟩)) w.drew :=
  Lib.run_unsafeSliceData_row _ _ _ _ _ _ zo
 have ac:(Builtin.unsafeString_ #[163,3] 9 #[.pointer (some ⟨g,0,none⟩), .int .i64 l.length]).run Tryz.prog w.drew=.ok (.string ⟨l.toArray⟩) (w.drew.freeze ⟨g,0,none⟩ l.length):=by
  refine Lib.run_unsafeString_row w.drew 163 3 9 5 Tryz.underlying163 (by kernel_rfl) g G.size (by have Z:w.drew.heap[g]?=some (.cells G 5 (0,0)):=hg; simp [World.shape?,Z]) l h0 zo (by unfold maxLen at O; omega) ?_;intro j x hx;have:=J j x hx;simpa [Addr.add_lit] using this
 have mixed:Tryz.prog.follows .mixedOrders=true:=by kernel_rfl
 go_enter Tryz.func32,Tryz.ntmps32
 go_wp2
 go_region_o
 all_goals (go_wp2; go_ret; exact ⟨rfl,gp (w:=w.drew)⟩)
set_option maxHeartbeats 2000000 in
set_option maxRecDepth 100000 in
theorem pz (b g:Nat) (p:Value) (G:Array Value) (w:World) (J:w.heap[b]?=some (.cells #[p, .slice (some ⟨g,0,none⟩) 0 0] 97 (0,0))) (hg:w.heap[g]?=some (.cells G 5 (0,0))) :
  Calls Tryz.prog 32 #[.pointer (some ⟨b,0,none⟩)] w fun e w'=>e=.returned (.string ⟨#[]⟩)∧EG g w w':=by
 have aa:∀ (W:World) (q:Option Addr),(Builtin.unsafeString_ #[163,3] 9 #[.pointer q, .int .i64 0]).run Tryz.prog W=.ok (.string .empty) W:=fun W q=>Lib.run_unsafeString_none W _ _ _ q
 have hlt:b < w.heap.size:=by
  rcases Nat.lt_or_ge b w.heap.size with h' | h'
  ·exact h'
  ·simp [Array.getElem?_eq_none h'] at J
 have Y:w.drew.cell? ⟨b,1,none⟩=some (.slice (some ⟨g,0,none⟩) 0 0):=by
  have:w.drew.heap[b]?=some (.cells #[p, .slice (some ⟨g,0,none⟩) 0 0] 97 (0,0)):=J;rw [Lib.cell_of_heap this]; rfl
 have Z:(Builtin.unsafeSliceData_ #[93] 163 #[.slice (some ⟨g,0,none⟩) 0 0]).run Tryz.prog w.drew=.ok (.pointer (some ⟨w.drew.heap.size,0,none⟩)) (w.drew.alloc (.view ⟨g,0,none⟩ 5)) :=
  Lib.run_unsafeSliceData_zero w.drew _ _ 5 Tryz.underlying163 ⟨g,0,none⟩ 0 (5,G.size) (by have O:w.drew.heap[g]?=some (.cells G 5 (0,0)):=hg; simp [World.shape?,O])
 have c2:(w.drew.alloc (.view ⟨g,0,none⟩ 5)).cell? ⟨b,1,none⟩=some (.slice (some ⟨g,0,none⟩) 0 0):=by
  have:(w.drew.alloc (.view ⟨g,0,none⟩ 5)).heap[b]?=_:=(Lib.alloc_old w.drew _ b hlt).trans J;rw [Lib.cell_of_heap this]; rfl
 have c3:(w.alloc (.view ⟨g,0,none⟩ 5)).drew.cell? ⟨b,1,none⟩=some (.slice (some ⟨g,0,none⟩) 0 0):=c2;have c0:w.cell? ⟨b,1,none⟩=some (.slice (some ⟨g,0,none⟩) 0 0):=Y;have mixed:Tryz.prog.follows .mixedOrders=true:=by kernel_rfl
 go_enter Tryz.func32,Tryz.ntmps32
 go_wp2
 go_region_o
 all_goals (go_wp2; go_ret; exact ⟨rfl,eF _ (.inl rfl)⟩)
set_option maxHeartbeats 2000000 in
set_option maxRecDepth 100000 in
theorem QbB (b g cap:Nat) (p:Value) (w:World) (G:cap ≠ 0) (J:w.heap[b]?=some (.cells #[p, .slice (some ⟨g,0,none⟩) 0 cap] 97 (0,0))) :
  Calls Tryz.prog 32 #[.pointer (some ⟨b,0,none⟩)] w fun e w'=>e=.returned (.string ⟨#[]⟩)∧EG g w w':=by
 have Y:∀ (W:World) (q:Option Addr),(Builtin.unsafeString_ #[163,3] 9 #[.pointer q, .int .i64 0]).run Tryz.prog W=.ok (.string .empty) W:=fun W q=>Lib.run_unsafeString_none W _ _ _ q
 have Z:w.drew.cell? ⟨b,1,none⟩=some (.slice (some ⟨g,0,none⟩) 0 cap):=by
  have:w.drew.heap[b]?=some (.cells #[p, .slice (some ⟨g,0,none⟩) 0 cap] 97 (0,0)):=J;rw [Lib.cell_of_heap this]; rfl
 have O:(Builtin.unsafeSliceData_ #[93] 163 #[.slice (some ⟨g,0,none⟩) 0 cap]).run Tryz.prog w.drew=.ok (.pointer (some ⟨g,0,none⟩)) w.drew :=
  Lib.run_unsafeSliceData_row _ _ _ _ _ _ G
 clear G;have mixed:Tryz.prog.follows .mixedOrders=true:=by kernel_rfl
 go_enter Tryz.func32,Tryz.ntmps32
 go_wp2
 go_region_o
 all_goals (go_wp2; go_ret; exact ⟨rfl,Ai g w⟩)
theorem Qkr:QgQ Tryz.prog 32 97 5:=⟨QdX,fun b g cap p G l w h0 J h2 O Y Z h6=>QbA b g cap p G l w h0 J h2 O Y Z h6,pz,QbB⟩
theorem QdY (G:Option Addr) (J hc:Nat):KD Tryz.prog 131 [.ptr 1000 0] (Go.Abs.look [(1000, .box 97 [.sfp 1000, .p (.val (.slice G J hc))])]) fun r h'=>r=.ret (.tup [])∧h'=Go.Abs.look [(1000, .box 97 [.sfp 1000, .p (.val (.slice G J hc))])] :=
 pg eD pu G J hc
theorem U6 (G:Option Addr) (J hc:Nat):∀ v:Unit,some ()=some v→KD Tryz.prog 131 [.ptr 1000 0] (Go.Abs.look [(1000, .box 97 [.sfp 1000, .p (.val (.slice G J hc))])]) (Yh (fun _:Unit=>((.ret (.tup []),[(1000, .box 97 [.sfp 1000, .p (.val (.slice G J hc))])]):ZB × List (Nat × Blk))) v):=fun _ _=>QdY G J hc
theorem gq:∀ w,mX w→∀ (j:Nat) (y:List UInt8),kindsTab[j]?=some y→w.cell? ⟨0,j,none⟩=some (.string (JW y)):=by
 intro w O j y G;obtain ⟨⟨ty,Y,h0⟩,_⟩:=O;have J:(kindsTab.map fun k=>Value.string ⟨k.toArray⟩).toArray[j]?=some (.string ⟨y.toArray⟩):=by simp [G]
 simp only [World.cell?,h0];simpa [JW] using J
end Go.Proofs
namespace Go.Abs
open Go
variable {P:Program}
theorem pE {ρ:Go.Shelf.Ren} (L:Go.Proofs.LaysM.n171 P ρ) (Y:∀ w,mX w→Lib.TabIs P w "internal/strconv.uint64pow10" .u64 Lib.pow10Tab) {n:Int} (h0:-9223372036854775808≤n) (O:n≤9223372036854775807) :
  QC P (ρ.f 171) [.p (.val (.int .i64 n))] (.ret (.p (.val (.string (JW (Lib.itoa n)))))):=by
 intro φ M0 w vs r J;simp only [Qi] at J;obtain ⟨y,ys,rfl,G,rfl⟩:=J;simp only [Qe,QI] at G;subst G;refine (Go.Proofs.Any.strconv_Itoa L n h0 O w (Y w r.gm.w)).mono ?_;rintro e w' ⟨rfl,k,os,rfl⟩;have hs:w.heap.size≤(Sort.grow (w.drewN k) os).heap.size:=by simp [Sort.grow,World.drewN]
 obtain ⟨E,X,R⟩:=UG (φ:=φ) (h:=Ff) (M0:=M0) (w:=w) (w':=Sort.grow (w.drewN k) os) rfl rfl rfl hs
  (fun x Z=>by simp only [Sort.grow,World.drewN]; rw [Array.getElem?_append,if_pos Z]) r (fun c hc=>absurd rfl hc)
 refine ⟨φ,_,Ff,⟨rfl,rfl⟩,R,E,_,rfl,?_⟩;simp only [Qe,QI,JW]
end Go.Abs
namespace Go.Proofs
open Go.Shelf
def Tryz.laysM171_ren:Go.Shelf.Ren:=⟨fun | 171=>196 | 243=>221 | 246=>229 | 283=>236 | 284=>237 | 285=>238 | 286=>239 | 129=>241 | 317=>240 | 318=>242 | 319=>243 | 320=>244 | 337=>245 | 338=>246 | n=>n,fun | 3=>3 | 9=>9 | 2=>2 | 4=>4 | 171=>301 | 0=>0 | 53=>302 | 37=>93 | 5=>5 | 173=>305 | 212=>308 | 51=>309 | 20=>20 | 213=>310 | 46=>294 | 232=>313 | 233=>314 | n=>n,fun | 17=>1 | 18=>2 | 19=>3 | n=>n⟩
theorem Tryz.laysM171:Go.Proofs.LaysM.n171 Tryz.prog Tryz.laysM171_ren:={
 mixed:=by kernel_rfl
 f129:=Tryz.func241.trans (congrArg some (by kernel_rfl))
 f171:=Tryz.func196.trans (congrArg some (by kernel_rfl))
 f243:=Tryz.func221.trans (congrArg some (by kernel_rfl))
 f246:=Tryz.func229.trans (congrArg some (by kernel_rfl))
 f283:=Tryz.func236.trans (congrArg some (by kernel_rfl))
 f284:=Tryz.func237.trans (congrArg some (by kernel_rfl))
 f285:=Tryz.func238.trans (congrArg some (by kernel_rfl))
 f286:=Tryz.func239.trans (congrArg some (by kernel_rfl))
 f317:=Tryz.func240.trans (congrArg some (by kernel_rfl))
 f318:=Tryz.func242.trans (congrArg some (by kernel_rfl))
 f319:=Tryz.func243.trans (congrArg some (by kernel_rfl))
 f320:=Tryz.func244.trans (congrArg some (by kernel_rfl))
 f337:=Tryz.func245.trans (congrArg some (by kernel_rfl))
 f338:=Tryz.func246.trans (congrArg some (by kernel_rfl))
 t0:=Tryz.underlying0
 a0:=Tryz.isAgg0
 z0:=Tryz.sizeOf0
 v0:=Tryz.zeroValue0
 t2:=Tryz.underlying2
 a2:=Tryz.isAgg2
 z2:=Tryz.sizeOf2
 v2:=Tryz.zeroValue2
 t3:=Tryz.underlying3
 a3:=Tryz.isAgg3
 z3:=Tryz.sizeOf3
 v3:=Tryz.zeroValue3
 t4:=Tryz.underlying4
 a4:=Tryz.isAgg4
 z4:=Tryz.sizeOf4
 v4:=Tryz.zeroValue4
 t5:=Tryz.underlying5
 a5:=Tryz.isAgg5
 z5:=Tryz.sizeOf5
 v5:=Tryz.zeroValue5
 t9:=Tryz.underlying9
 a9:=Tryz.isAgg9
 z9:=Tryz.sizeOf9
 v9:=Tryz.zeroValue9
 t20:=Tryz.underlying20
 a20:=Tryz.isAgg20
 z20:=Tryz.sizeOf20
 v20:=Tryz.zeroValue20
 t37:=Tryz.underlying93
 a37:=Tryz.isAgg93
 z37:=Tryz.sizeOf93
 v37:=Tryz.zeroValue93
 t46:=Tryz.underlying294
 a46:=Tryz.isAgg294
 z46:=Tryz.sizeOf294
 v46:=Tryz.zeroValue294
 t51:=Tryz.underlying309
 a51:=Tryz.isAgg309
 z51:=Tryz.sizeOf309
 v51:=Tryz.zeroValue309
 t53:=Tryz.underlying302
 a53:=Tryz.isAgg302
 z53:=Tryz.sizeOf302
 v53:=Tryz.zeroValue302
 t171:=Tryz.underlying301
 a171:=Tryz.isAgg301
 z171:=Tryz.sizeOf301
 v171:=Tryz.zeroValue301
 t173:=Tryz.underlying305
 a173:=Tryz.isAgg305
 z173:=Tryz.sizeOf305
 v173:=Tryz.zeroValue305
 t212:=Tryz.underlying308
 a212:=Tryz.isAgg308
 z212:=Tryz.sizeOf308
 v212:=Tryz.zeroValue308
 t213:=Tryz.underlying310
 a213:=Tryz.isAgg310
 z213:=Tryz.sizeOf310
 t232:=Tryz.underlying313
 a232:=Tryz.isAgg313
 z232:=Tryz.sizeOf313
 v232:=Tryz.zeroValue313
 t233:=Tryz.underlying314
 a233:=Tryz.isAgg314
 z233:=Tryz.sizeOf314
 v233:=Tryz.zeroValue314
 g17:=by kernel_rfl
 g18:=by kernel_rfl
 g19:=by kernel_rfl
 i0:=by kernel_rfl
 i2:=by kernel_rfl
 i3:=by kernel_rfl
 i4:=by kernel_rfl
 i5:=by kernel_rfl
 i9:=by kernel_rfl
 i20:=by kernel_rfl
 i37:=by kernel_rfl
 i46:=by kernel_rfl
 i51:=by kernel_rfl
 i53:=by kernel_rfl
 i171:=by kernel_rfl
 i173:=by kernel_rfl
 i212:=by kernel_rfl
 i232:=by kernel_rfl
 i233:=by kernel_rfl
 m17:=by kernel_rfl
 m18:=by kernel_rfl
 m19:=by kernel_rfl }
open Go Go.Abs
theorem QdZ:∀ w,mX w→Lib.TabIs Tryz.prog w "internal/strconv.uint64pow10" .u64 Lib.pow10Tab:=by
 rintro w ⟨_,ty,J,G⟩;unfold Lib.TabIs World.var?;rw [show Tryz.prog.globalNamed "internal/strconv.uint64pow10"=some 1 by kernel_rfl];simp only [QE,G]
theorem QgR {w:World} (h0:∃ ty G,w.heap[0]?=some (.cells (kindsTab.map fun k=>Value.string ⟨k.toArray⟩).toArray ty G)) (h:Lib.TabIs Tryz.prog w "internal/strconv.uint64pow10" .u64 Lib.pow10Tab):mX w:=by
 unfold Lib.TabIs World.var? at h;rw [show Tryz.prog.globalNamed "internal/strconv.uint64pow10"=some 1 by kernel_rfl] at h;simp only [QE] at h;split at h
 ·rename_i cs ty G hc;simp only [QO] at h;subst h;exact ⟨h0,ty,G,hc⟩
 ·cases h
theorem Qd0 {n:Int} (h0:-9223372036854775808≤n) (G:n≤9223372036854775807):QC Tryz.prog 196 [.p (.val (.int .i64 n))] (.ret (.p (.val (.string (JW (Lib.itoa n)))))) :=
 pE Tryz.laysM171 QdZ h0 G
end Go.Proofs
namespace Go.Lib
theorem cells_of_stab {H:Type} {enc:TypeId × Value→H} {P:Program} {w:World} {base:Nat} {sp:Nat→Bool} {held:Bool} {G:Nat} {t e:TypeId} {n:Nat} {cs:List Value} {O:List (List UInt8)} {p:List MemPlace}
  (ht:P.underlying t=some (.array n e)) (he:P.underlying e=some .string) (Z:P.cellsOf e=1) (Y:P.cellsOf t=n)
  (h:DataW.trod enc P w base sp held G t cs=some (.agg (O.map fun z=>.lit (.string z)),p)):cs=O.map fun z=>Value.string ⟨z.toArray⟩:=by
 cases G with
 | zero=>simp [DataW.trod] at h
 | succ G =>
  simp only [DataW.trod,ht,Z,Y,Nat.mul_one] at h;split at h
  ·rename_i hl;obtain ⟨xs,hm,hx⟩:=Fe.1 h
   have J:xs.map (·.1)=O.map fun z=>(DataW.lit (.string z):DataW H):=by
    have:=congrArg Prod.fst hx;simpa using this
   have ab:xs.length=n:=by simpa using mapM_length hm
   have ac:O.length=n:=by
    have:=congrArg List.length J;simp at this;omega
   apply List.ext_getElem?;intro i;by_cases hi:i < n
   ·obtain ⟨b,hb,hf⟩:=mapM_at hm i i (by simp [hi]);obtain ⟨z,hc,rfl,_⟩:=DataW.trod_string he hf
    have h1:cs[i]?=some (.string z):=by
     have:=congrArg (·[0]?) hc;simpa [List.getElem?_take,List.getElem?_drop] using this
    have h2:(xs.map (·.1))[i]?=some (DataW.lit (.string z.data.toList):DataW H):=by simp [hb]
    rw [J] at h2;simp only [List.getElem?_map,Fe,DataW.lit.injEq,Lit.string.injEq] at h2;obtain ⟨z',aa,e1⟩:=h2;subst e1;simp [h1,aa]
   ·rw [List.getElem?_eq_none zo,List.getElem?_eq_none (by simp; omega)]
  ·cases h
end Go.Lib
namespace Go.Proofs
open Go Go.Abs
set_option maxRecDepth 100000
abbrev VI (n:Int):PV:=.val (.int .i64 n)
abbrev VU (n:Int):PV:=.val (.int .u64 n)
abbrev V8 (n:Int):PV:=.val (.int .u8 n)
abbrev VB (b:Bool):PV:=.val (.bool b)
abbrev VS (s:List UInt8):PV:=.val (.string (JW s))
abbrev I (n:Int):AV:=.p (.val (.int .i64 n))
abbrev U (n:Int):AV:=.p (.val (.int .u64 n))
abbrev B8 (n:Int):AV:=.p (.val (.int .u8 n))
abbrev B (b:Bool):AV:=.p (.val (.bool b))
abbrev S (s:List UInt8):AV:=.p (.val (.string (JW s)))
def ci (n:Int):List PV:=[VI n]
abbrev zS:AV:=.p (.val (.slice none 0 0))
abbrev mI:List (List PV)→List (List PV):=List.map Zq
abbrev hS (w:Option Addr) (l c:Nat):Go.Abs.AV:=.p (.val (.slice w l c))
abbrev mb:List UInt8→List (List Go.Abs.PV):=List.map Go.Abs.c8b
abbrev Zj:Go.Abs.AV:=.ptr 1000 0
abbrev Rw:Go.Abs.AV:=.ptr 1001 0
abbrev IG:Go.Abs.AV:=.ptr 1002 0
abbrev dZ:Go.Abs.AV:=.ptr 1003 0
abbrev qq (n:Nat):Nat × Go.Abs.AV:=(n, .ptr n 0)
def c8 (n:Int):List PV:=[V8 n]
def cb (n:Bool):List PV:=[VB n]
def Qks (n:List UInt8):List PV:=[VS n]
theorem Qd:Tryz.prog.follows .mixedOrders=true:=by kernel_rfl
structure XN where
 At:Int
 Offset:Int
deriving DecidableEq
def XN.cs (x:XN):List PV:=[VI x.At,VI x.Offset]
abbrev Bz:List XN→List (List PV):=List.map XN.cs
structure Kn where
 Offset:Int
 Changes:List XN
 Holidays:List Int
deriving DecidableEq
def Kn.cs (x:Kn):List PV:=[VI x.Offset, .sl 2 (List.map XN.cs x.Changes), .sl 1 (List.map ci x.Holidays)]
structure HZ where
 Minute:Int
 Energy:Int
deriving DecidableEq
def HZ.cs (x:HZ):List PV:=[VI x.Minute,VI x.Energy]
abbrev Nr:List HZ→List (List PV):=List.map HZ.cs
structure YN where
 From:Int
 To:Int
 End:Int
 Slices:List HZ
deriving DecidableEq
def YN.cs (x:YN):List PV:=[VI x.From,VI x.To,VI x.End, .sl 2 (List.map HZ.cs x.Slices)]
structure Q0 where
 Kind:Int
 Text:List UInt8
 N:Int
 At:Int
deriving DecidableEq
def Q0.cs (x:Q0):List PV:=[VI x.Kind,VS x.Text,VI x.N,VI x.At]
abbrev Lu:List Q0→List (List PV):=List.map Q0.cs
structure Zw where
 Err:Int
 At:Int
deriving DecidableEq
def Zw.cs (x:Zw):List PV:=[VI x.Err,VI x.At]
abbrev Um:List Zw→List (List PV):=List.map Zw.cs
structure GN where
 Kind:Int
 Name:List UInt8
 N:Int
 At:Int
 Kids:List (List PV)
def GN.cs (x:GN):List PV:=[VI x.Kind,VS x.Name,VI x.N,VI x.At, .sl 5 (List.map Zq x.Kids)]
def GN.of:List PV→Option GN
 | [.val (.int .i64 v0), .val (.string J), .val (.int .i64 v2), .val (.int .i64 v3), .sl G v4]=>if G=5 then some ⟨v0,J4 J,v2,v3,v4⟩ else none
 | _=>none
theorem GN.of_cs (r:List PV) (x:GN) (h:GN.of r=some x):GN.cs x=r:=by
 unfold GN.of at h;split at h
 ·split at h
  ·rename_i hs;cases h;simp [GN.cs,wo,Wt,hs]
  ·cases h
 ·cases h
structure ZK where
 tks:List Q0
 pos:Int
 length:Int
 dg:List Zw
deriving DecidableEq
def ZK.cs (x:ZK):List PV:=[.sl 4 (List.map Q0.cs x.tks),VI x.pos,VI x.length, .sl 2 (List.map Zw.cs x.dg)]
def Dc (x:List UInt8):Value:=.string (JW x)
def Df (x:Bool):PV:=VB x
def Y4 (x y:List UInt8):Bool:=Qr x y
structure QT where
 Kind:Int
 Days:Int
 From:Int
 To:Int
 Price:Int
 Unit:Int
 Free:Int
deriving DecidableEq
def QT.cs (x:QT):List PV:=[VI x.Kind,VI x.Days,VI x.From,VI x.To,VI x.Price,VI x.Unit,VI x.Free]
abbrev Y3:List QT→List (List PV):=List.map QT.cs
structure GH where
 article:QT
 values:List (List PV)
 good:Bool
def GH.cs (x:GH):List PV:=[VI x.article.Kind,VI x.article.Days,VI x.article.From,VI x.article.To,VI x.article.Price,VI x.article.Unit,VI x.article.Free, .sl 5 (List.map Zq x.values),VB x.good]
structure Ky where
 Name:List UInt8
 Articles:List QT
deriving DecidableEq
def Ky.cs (x:Ky):List PV:=[VS x.Name, .sl 7 (List.map QT.cs x.Articles)]
abbrev XX:List Ky→List (List PV):=List.map Ky.cs
structure Ka where
 Article:Int
 Amount:Int
deriving DecidableEq
def Ka.cs (x:Ka):List PV:=[VI x.Article,VI x.Amount]
abbrev EH:List Ka→List (List PV):=List.map Ka.cs
structure Ke where
 Lines:List Ka
 Net:Int
 Tax:Int
 Total:Int
deriving DecidableEq
def Ke.cs (x:Ke):List PV:=[.sl 2 (List.map Ka.cs x.Lines),VI x.Net,VI x.Tax,VI x.Total]
structure Gv where
 article:QT
 calendar:Kn
 session:YN
deriving DecidableEq
end Go.Proofs
