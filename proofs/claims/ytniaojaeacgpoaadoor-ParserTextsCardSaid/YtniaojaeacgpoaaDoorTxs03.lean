/-
  A part of the proof of a statement of the seat YtniaojaeacgpoaaDoor.
-/
import Derived.Test.YtniaojaeacgpoaaDoorTxs02
set_option linter.unusedVariables false
namespace Go.Abs
open Go
def fKr {R:Type} (P:Program) (N:Nat) (ops:Array Oper) (Q:R→AX→St→Prop) (l:List Oper):R→St→Prop:=fun r s=>XR P N ops (Q r) none l s
section
variable {R V E:Type} {a a1 a2:Option R} {P:Program} {N:Nat} {ro:Option Nat} {ops:Array Oper} {o:Oper} {l:List Oper} {dr:Bool} {acc:List Foot} {s s':St} {Q:R→AX→St→Prop} {K:R→St→Prop} {f:FuncId} {args args':List AV} {dst:Option Tmp}
theorem kr (h:SimR a P N ops Q false acc l s):SimK a (fKr P N ops Q l) s:=⟨fun r hr=>h.h r hr⟩
theorem kr0 (h:SimR a P N ops Q false [] l s):SimK a (fKr P N ops Q l) s:=⟨fun r hr=>h.h r hr⟩
def isCall:Op→Bool
 | .call ⟨.value _,_,_⟩=>true
 | _=>false
theorem callOf_isCall {T:Nat→Option AV} {op:Op} {p:FuncId × List AV} (h:callOf T op=some p):isCall op=true:=by
 unfold callOf at h
 split at h
 ·rfl
 ·rfl
 ·cases h
theorem yieldOf_callOf {T:Nat→Option AV} {op:Op} {p:FuncId × List AV} (h:callOf T op=some p):yieldOf T op=none:=by
 unfold yieldOf
 split
 ·rename_i t aas ts
  split
  ·rename_i b hb; simp [callOf,hb] at h
  ·rfl
 ·rfl
theorem exOp_call {P:Program} {N:Nat} {o:Oper} {s:St} {K:St→Prop} {Q:AX→St→Prop} {f:FuncId} {args:List AV} (hf:callOf (look s.T) o.op=some (f,args)) (hb:bodyOk P f=true) (h:CallEx P N f args o.dst s K Q):ExOp P N o s K Q:=by
 unfold ExOp
 split
 ·rename_i ho; rw [ho] at hf; simp [callOf] at hf
 ·rename_i ho; rw [ho] at hf; simp [callOf] at hf
 ·rename_i g aas ts ho
  rw [ho] at hf
  rw [hf]
  exact ⟨hb,h⟩
 ·rename_i h1 h2 h3
  have:=callOf_isCall hf
  unfold isCall at this
  split at this
  ·rename_i ho; exact absurd ho (h3 _ _ _)
  ·cases this
theorem xs_enter (hw:wantA ops o (look s.T)=some true) (hf:callOf (look (gMark ops o s.T true)) o.op=some (f,args)) (hb:bodyOk P f=true) (h:SimC a P N f args o.dst (mk ops o s true) (fKr P N ops Q l) Q):SimR a P N ops Q false acc (o :: l) s:=by
 refine ⟨fun r hr=>?_⟩
 show ExOps P N ops (Q r) (o :: l) s
 simp only [ExOps,hw,splitB_true,yieldOf_callOf hf]
 exact exOp_call hf hb (h.h r hr)
theorem xs_seqL (hi:isCall o.op=true) (hw:wantA ops o (look s.T)=some true) (hb:(tailAll ops acc.length&&commutes ops acc.reverse&&tailSeq ops acc.length&&noTC ops s (o :: l))=true) (h:SimR a P N ops Q false [] (o :: l) s):SimR a P N ops Q true acc (o :: l) s:=by
 refine ⟨fun r hr=>?_⟩
 simp only [bae] at hb
 have h1:ExOps P N ops (Q r) (o :: l) s:=h.h r hr
 show ExDraw P N ops (Q r) (o :: l) acc s
 simp only [ExDraw,hw,splitB_true]
 split
 ·rename_i ho; rw [ho] at hi; simp [isCall] at hi
 ·exact .inr (.inr (.inl ⟨hb.1.1.1,hb.1.1.2,hb.1.2,hb.2,h1⟩))
 ·rename_i ho; rw [ho] at hi; simp [isCall] at hi
 ·rename_i h1 h2 h3
  unfold isCall at hi
  split at hi
  ·rename_i ho; exact absurd ho (h2 _ _ _)
  ·cases hi
theorem xC {m:Option V} {k:V→Option R} {X:V→AV} (C:List Conv) (hw:wantA ops o (look s.T)=some true) (hc:∀ v,m=some v→PCall P f args' (.ret (X v)))
  (hf:(callOf (look (gMark ops o s.T true)) o.op).map (fun p=>(p.1,cvs C p.2))=some (f,args')) (hb:(bodyOk P f&&dstLt N o.dst&&noRefs args')=true) (hx:∀ v,noRef (X v)=true)
  (h:∀ v,SimR (k v) P N ops Q dr ((none,[]) :: acc) l (St.put (mk ops o s true) o.dst (X v))):SimR (m.bind k) P N ops Q dr acc (o :: l) s:=by
 refine ⟨fun r hr=>?_⟩
 obtain ⟨v,hv,hk⟩:=zBS.1 hr
 obtain ⟨⟨f0,args⟩,hcall,hp⟩:=zMS.1 hf
 simp only [zPJ] at hp
 obtain ⟨rfl,rfl⟩:=hp
 simp only [bae] at hb
 cases dr with
 | false =>
  show ExOps P N ops (Q r) (o :: l) s
  simp only [ExOps,hw,splitB_true,yieldOf_callOf hcall]
  exact exOp_call hcall hb.1.1 (call_pure (hc v hv) (cvs_les C args) hb.2 (hx v) (dstLt_spec hb.1.2) ((h v).h r hk))
 | true =>
  show ExDraw P N ops (Q r) (o :: l) acc s
  simp only [ExDraw,hw,splitB_true]
  split
  ·rename_i ho; rw [ho] at hcall; simp [callOf] at hcall
  ·rename_i g aas ts ho
   rw [ho] at hcall
   exact dr_call (hc v hv) hcall hb.1.1 hb.1.2 (cvs_les C args) hb.2 (hx v) ((h v).h r hk)
  ·rename_i ho; rw [ho] at hcall; simp [callOf] at hcall
  ·rename_i h1 h2 h3
   have:=callOf_isCall hcall
   unfold isCall at this
   split at this
   ·rename_i ho; exact absurd ho (h2 _ _ _)
   ·cases this
def excE (X:V→AV) (Y:E→AV):Except E V→AEnd
 | .ok v=>.ret (X v)
 | .error e=>.panic (Y e)
def exc {E V R:Type} (k:V→Option R) (e:E→Option R):Except E V→Option R
 | .ok v=>k v
 | .error x=>e x
theorem xPa {x:Operand} (t:TypeId) (v:AV) (hw:wantA ops o (look s.T)=some true) (ho:o.op=.panic x) (hv:evO (look (gMark ops o s.T true)) x=some (.ifc t v)) (h:SimQ a Q (.panic (.ifc t v)) (mk ops o s true)):SimR a P N ops Q false acc (o :: l) s:=by
 refine ⟨fun r hr=>?_⟩
 show ExOps P N ops (Q r) (o :: l) s
 have hy:yieldOf (look (gMark ops o s.T true)) o.op=none:=by simp [yieldOf,ho]
 simp only [ExOps,hw,splitB_true,hy]
 show ExOp P N o _ _ _
 unfold ExOp
 simp only [ho,hv]
 exact h.h r hr
def retQ (P:Program) (fn:Func) (X:R→AEnd):R→AX→St→Prop:=fun r=>pureQ P fn (·=X r)
def retOf:AEnd→AV
 | .ret y=>y
 | .panic y=>y
theorem qR {X:V→AEnd} {v:V} {fn:Func} (C:Conv) (h:(resA P fn (look s.T) (look s.H)).map (cv C)=some (retOf (X v))) (hX:X v=.ret (retOf (X v))) (hn:noRef (retOf (X v))=true):SimQ (some v) (retQ P fn X) .ret s:=by
 refine ⟨fun r hr=>?_⟩
 cases hr
 obtain ⟨x,h1,h2⟩:=zMS.1 h
 exact ⟨x,retOf (X v),h1,h2 ▸ cv_le C x,hn,hX.symm⟩
theorem rq_p {X:V→AEnd} {v:V} {fn:Func} {p:AV} (hX:X v=.panic p) (hn:noRef p=true):SimQ (some v) (retQ P fn X) (.panic p) s:=by
 refine ⟨fun r hr=>?_⟩
 cases hr
 exact ⟨hn,hX.symm⟩
theorem pcall_sim {fn:Func} {c:Code} {X:R→AEnd} {n:Nat} (hf:P.funcs[f]?=some fn) (hb:fn.body=some c) (hn:fn.ntmps=n) (hl:Nat.ble args.length n=true) (h:SimE a P n none c ⟨argsT 0 args,[]⟩ (retQ P fn X)) (r:R) (hr:a=some r):PCall P f args (X r):=by
 subst hn
 exact pcall_of_ex hf hb (Nat.le_of_ble_eq_true hl) (h.h r hr)
end
def getI {α:Type} (l:List α) (i:Int):Option α:=if i < 0 then none else l[i.toNat]?
section
variable {P:Program} {o:Oper} {T:Nat→Option AV} {h:Heap}
abbrev wi (x:Int):Int:=IntKind.i64.wrap x
abbrev wu (x:Int):Int:=IntKind.u64.wrap x
abbrev w8 (x:Int):Int:=IntKind.u8.wrap x
abbrev lenI {α:Type} (l:List α):Int:=(l.length:Int)
abbrev b2i (x:UInt8):Int:=(x.toNat:Int)
theorem aop_idx {α:Type} {t e:TypeId} {x ix:Operand} {S:Nat} {enc:α→List PV} {l:List α} {k:IntKind} {n:Int} {sv:AV} (ho:o.op=.indexAddr t x ix) (hn:evO T ix=some (.p (.val (.int k n)))) (hx:evO T x=some sv) (hs:elemsS sv=some (S,List.map enc l))
  (ht:P.underlying t=some (.slice e)) (hi:(P.info? e).map (·.size)=some S) (v:α) (hv:getI l n=some v):aop P o T h=some (.eptr (enc v),none,[]):=by
 unfold getI at hv
 split at hv
 ·cases hv
 ·rename_i hneg
  obtain ⟨i,hi1,hi2⟩:=zMS.1 hi
  have hsv:isV (some sv)=false:=by
   cases sv with
   | p x=>rfl
   | tsl S es t=>rfl
   | _=>cases hs
  have h0:0≤n:=by omega
  obtain ⟨hs',hu⟩:=elemsS_uV hs
  simp [aop,ho,orE,hx,hsv,aIndexAddr,hn,ht,hs',hu,hi1,hi2,h0,hv]
def idc (x:List PV):List PV:=x
theorem map_idc (l:List (List PV)):List.map idc l=l:=List.map_id l
theorem aop_idxR {α:Type} {t e:TypeId} {x ix:Operand} {S:Nat} {enc:α→List PV} {dec:List PV→Option α} {l:List (List PV)} {k:IntKind} {n:Int} {sv:AV} (hd:∀ r v,dec r=some v→enc v=r) (ho:o.op=.indexAddr t x ix) (hn:evO T ix=some (.p (.val (.int k n)))) (hx:evO T x=some sv) (hs:elemsS sv=some (S,List.map idc l))
  (ht:P.underlying t=some (.slice e)) (hi:(P.info? e).map (·.size)=some S) (v:α) (hv:(getI l n).bind dec=some v):aop P o T h=some (.eptr (enc v),none,[]):=by
 obtain ⟨r,h1,h2⟩:=zBS.1 hv
 rw [hd r v h2]
 exact aop_idx ho hn hx hs ht hi r h1
def elemsU:AV→Option (Nat × List (List PV))
 | .p (.slu S es)=>some (S,es)
 | _=>none
theorem aop_idxU {α:Type} {t e:TypeId} {x ix:Operand} {S:Nat} {enc:α→List PV} {dec:List PV→Option α} {l:List (List PV)} {k:IntKind} {n:Int} {sv:AV} (hd:∀ r v,dec r=some v→enc v=uC r) (ho:o.op=.indexAddr t x ix) (hn:evO T ix=some (.p (.val (.int k n)))) (hx:evO T x=some sv) (hs:elemsU sv=some (S,List.map idc l))
  (ht:P.underlying t=some (.slice e)) (hi:(P.info? e).map (·.size)=some S) (v:α) (hv:(getI l n).bind dec=some v):aop P o T h=some (.eptr (enc v),none,[]):=by
 obtain ⟨r,h1,h2⟩:=zBS.1 hv
 rw [hd r v h2]
 obtain rfl:sv=.p (.slu S (List.map idc l)):=by
  cases sv with
  | p q=>cases q with
   | slu S' es'=>simp only [elemsU,sie,zPJ] at hs; obtain ⟨rfl,rfl⟩:=hs; rfl
   | _=>simp [elemsU] at hs
  | _=>simp [elemsU] at hs
 rw [map_idc] at hx
 unfold getI at h1
 split at h1
 ·cases h1
 ·rename_i hneg
  obtain ⟨i,hi1,hi2⟩:=zMS.1 hi
  have h0:0≤n:=by omega
  simp [aop,ho,orE,isV,hx,aIndexAddr,hn,ht,elems,uV,hi1,hi2,h0,h1]
theorem aop_sidx {t:TypeId} {x ix:Operand} {l:List UInt8} {k:IntKind} {n:Int} (ho:o.op=.index t x ix) (hn:evO T ix=some (.p (.val (.int k n)))) (hx:evO T x=some (.p (.val (.string (mkS l)))))
  (ht:P.underlying t=some .string) (v:UInt8) (hv:getI l n=some v):aop P o T h=some (.p (.val (.int .u8 v.toNat)),none,[]):=by
 unfold getI at hv
 split at hv
 ·cases hv
 ·rename_i hneg
  have h0:0≤n:=by omega
  simp [aop,ho,orE,aIndex,aIndexS,hx,hn,ht,h0,byt_mkS,hv]
def eqV2 (P:Program):Nat→TypeId→Value→Value→Option Bool
 | 0,_,_,_=>none
 | d+1,t,x,y =>
  match P.underlying t with
  | some .bool=>match x,y with | .bool a, .bool b=>some (a == b) | _,_=>none
  | some (.int _)=>match x,y with | .int k a, .int k' b=>if k=k' then some (eqI a b) else none | _,_=>none
  | some .string=>match x,y with | .string a, .string b=>some (eqS (byt a) (byt b)) | _,_=>none
  | some (.struct fields)=>match x,y with
   | .agg xs, .agg ys=>if P.stoodInHeld t then none else fields.toList.foldr (fun f r=>if f.name="_" then r else
     match partV P f.type xs.toList f.offset,partV P f.type ys.toList f.offset with
     | some a,some b=>match eqV2 P d f.type a b,r with | some p,some q=>some (p&&q) | _,_=>none
     | _,_=>none) (some true)
   | _,_=>none
  | some (.array len e)=>match x,y with
   | .agg xs, .agg ys=>if (P.info? e).isNone then none else (List.range len).foldr (fun i r =>
     match partV P e xs.toList (i * P.cellsOf e),partV P e ys.toList (i * P.cellsOf e) with
     | some a,some b=>match eqV2 P d e a b,r with | some p,some q=>some (p&&q) | _,_=>none
     | _,_=>none) (some true)
   | _,_=>none
  | _=>none
theorem eqV2_eq (P:Program):∀ (d:Nat) (t:TypeId) (x y:Value),eqV2 P d t x y=eqV P d t x y
  | 0,t,x,y=>by simp [eqV2,eqV]
  | d+1,t,x,y=>by
    have hf:∀ (xs ys:List Value) (fs:List Field),fs.foldr (fun f r=>if f.name="_" then r else
          match partV P f.type xs f.offset,partV P f.type ys f.offset with
          | some a,some b=>match eqV2 P d f.type a b,r with | some p,some q=>some (p&&q) | _,_=>none
          | _,_=>none) (some true)=eqV.eqFs P d xs ys fs:=by
      intro xs ys fs
      induction fs with
      | nil=>simp [eqV.eqFs]
      | cons f fs ih =>
        simp only [List.foldr_cons,eqV.eqFs,ih]
        split
        · rfl
        · split
          · rename_i a b h1 h2; simp only [h1,h2,eqV2_eq P d f.type a b]; cases eqV P d f.type a b <;> cases eqV.eqFs P d xs ys fs <;> rfl
          · rename_i h1
            split
            · rename_i h2 h3; exact absurd h3 (by intro h4; exact h1 _ _ h2 h4)
            · rfl
    have ha:∀ (e:TypeId) (xs ys:List Value) (is:List Nat),is.foldr (fun i r =>
          match partV P e xs (i * P.cellsOf e),partV P e ys (i * P.cellsOf e) with
          | some a,some b=>match eqV2 P d e a b,r with | some p,some q=>some (p&&q) | _,_=>none
          | _,_=>none) (some true)=eqV.eqAs P d e (P.cellsOf e) xs ys is:=by
      intro e xs ys is
      induction is with
      | nil=>simp [eqV.eqAs]
      | cons i is ih =>
        simp only [List.foldr_cons,eqV.eqAs,ih]
        split
        · rename_i a b h1 h2; simp only [h1,h2,eqV2_eq P d e a b]; cases eqV P d e a b <;> cases eqV.eqAs P d e (P.cellsOf e) xs ys is <;> rfl
        · rename_i h1
          split
          · rename_i h2 h3; exact absurd h3 (by intro h4; exact h1 _ _ h2 h4)
          · rfl
    unfold eqV2 eqV
    cases hu:P.underlying t with
    | none=>rfl
    | some td =>
      cases td with
      | bool=>cases x <;> cases y <;> rfl
      | int k=>cases x <;> cases y <;> rfl
      | string=>cases x <;> cases y <;> rfl
      | struct fields =>
        cases x <;> cases y <;> try rfl
        rename_i xs ys
        simp only
        split
        · rfl
        · exact hf _ _ _
      | array len e =>
        cases x <;> cases y <;> try rfl
        rename_i xs ys
        simp only
        split
        · rfl
        · exact ha _ _ _ _
      | _=>rfl
theorem aop_neq {tx ty:TypeId} {x y:Operand} {xs ys:List AV} {vx vy:List Value} {b:Bool} (ho:o.op=.binOp .neq tx x y ty) (hx:evO T x=some (.agg xs)) (hy:evO T y=some (.agg ys)) (hg:P.eqGuardType P.depth tx=false)
  (hvx:toVs xs=some vx) (hvy:toVs ys=some vy) (hb:eqV2 P 4 tx (.agg vx.toArray) (.agg vy.toArray)=some b):aop P o T h=some (.p (.val (.bool (!opq b))),none,[]):=by
 rw [eqV2_eq] at hb
 simp [aop,ho,aBin,hx,hy,orE,aEq,aEqT,hg,hvx,hvy,hb]
end
def heapR {V:Type} (X:V→AEnd × List (Nat × Blk)) (v:V):AEnd→Heap→Prop:=fun r h'=>r=(X v).1∧h'=look (X v).2
def hQ {V:Type} (P:Program) (fn:Func) (hc:List (Nat × Blk)) (X:V→AEnd × List (Nat × Blk)):V→AX→St→Prop:=fun v=>bodyR P fn hc (heapR X v)
section
variable {R V E:Type} {a a1 a2:Option R} {P:Program} {N:Nat} {ro:Option Nat} {ops:Array Oper} {o:Oper} {l:List Oper} {dr:Bool} {acc:List Foot} {s s':St} {Q:R→AX→St→Prop} {K:R→St→Prop} {f:FuncId} {args args':List AV} {dst:Option Tmp}
theorem acall_sim {fn:Func} {c:Code} {X:R→AEnd × List (Nat × Blk)} {n:Nat} (hc:List (Nat × Blk)) (hf:P.funcs[f]?=some fn) (hb:fn.body=some c) (hn:fn.ntmps=n) (hl:Nat.ble args.length n=true) (h:SimE a P n none c ⟨argsT 0 args,hc⟩ (hQ P fn hc X)) (r:R) (hr:a=some r) :
  ACall P f args (look hc) (heapR X r):=by
 subst hn
 exact acall_of_ex hf hb (Nat.le_of_ble_eq_true hl) (h.h r hr)
def okOut (hc hc':List (Nat × Blk)) (y:AV):Bool:=okRef (look hc') y&&okH (look hc') hc'&&keepsAll (look hc') hc
theorem hq_end {X:V→AEnd × List (Nat × Blk)} {v:V} {fn:Func} {hc:List (Nat × Blk)} (C:Conv) (bs:List Nat) (cb:List (Nat × List Conv)) (h:(resA P fn (look s.T) (look s.H)).map (cv C)=some (retOf (X v).1)) (hX:(X v).1=.ret (retOf (X v).1))
  (hH:pickH cb s.H bs=(X v).2) (hok:okOut hc (X v).2 (retOf (X v).1)=true):endR P fn hc (heapR X v) s:=by
 obtain ⟨x,h1,h2⟩:=zMS.1 h
 simp only [okOut,bae] at hok
 refine ⟨x,retOf (X v).1,(X v).2,h1,h2 ▸ cv_le C x,hok.1.1,?_,hok.2,hX.symm,rfl⟩
 have h3:=hok.1.2
 rw [← hH] at h3 ⊢
 exact subH_pick h3
theorem hq_ret {X:V→AEnd × List (Nat × Blk)} {v:V} {fn:Func} {hc:List (Nat × Blk)} (C:Conv) (bs:List Nat) (cb:List (Nat × List Conv)) (h:(resA P fn (look s.T) (look s.H)).map (cv C)=some (retOf (X v).1)) (hX:(X v).1=.ret (retOf (X v).1))
  (hH:pickH cb s.H bs=(X v).2) (hok:okOut hc (X v).2 (retOf (X v).1)=true):SimQ (some v) (hQ P fn hc X) .ret s:=⟨fun r hr=>by cases hr; exact hq_end C bs cb h hX hH hok⟩
theorem hq_p {X:V→AEnd × List (Nat × Blk)} {v:V} {fn:Func} {hc:List (Nat × Blk)} {p:AV} (bs:List Nat) (cb:List (Nat × List Conv)) (hX:(X v).1=.panic p)
  (hH:pickH cb s.H bs=(X v).2) (hok:okOut hc (X v).2 p=true):SimQ (some v) (hQ P fn hc X) (.panic p) s:=by
 refine ⟨fun r hr=>?_⟩
 cases hr
 simp only [okOut,bae] at hok
 refine ⟨p,(X v).2,le_refl p,hok.1.1,?_,hok.2,hX.symm,rfl⟩
 have h3:=hok.1.2
 rw [← hH] at h3 ⊢
 exact subH_pick h3
def rho (L:List (Nat × Nat)) (c:Nat):Nat:=(look L c).getD c
def injB (ρ:Nat→Nat):List Nat→Bool
 | []=>true
 | c :: l=>l.all (fun d=>ρ c != ρ d||c == d)&&injB ρ l
theorem injB_spec {ρ:Nat→Nat}:∀ {l:List Nat},injB ρ l=true→∀ c ∈ l,∀ d ∈ l,ρ c=ρ d→c=d
 | [],_,c,hc,_,_,_=>by cases hc
 | x :: l,h,c,hc,d,hd,he=>by
  simp only [injB,bae,zAT] at h
  rcases List.mem_cons.1 hc with rfl | hc' <;> rcases List.mem_cons.1 hd with rfl | hd'
  ·rfl
  ·have:=h.1 d hd'; simp [he] at this; exact this
  ·have:=h.1 c hc'; simp [he] at this; exact this.symm
  ·exact injB_spec h.2 c hc' d hd' he
def frameOk (ρ:Nat→Nat) (hc hc' H:List (Nat × Blk)):Bool :=
 (hc.map (·.1)).all (fun c=>(hc'.map (·.1)).contains c)&&(hc'.map (·.1)).all (fun c=>(hc.map (·.1)).contains c||(look H (ρ c)).isNone)&&injB ρ (hc'.map (·.1))
theorem frameOk_spec {ρ:Nat→Nat} {hc hc' H:List (Nat × Blk)} (h:frameOk ρ hc hc' H=true):outDom ρ hc hc' H:=by
 simp only [frameOk,bae] at h
 refine ⟨fun c hc=>?_,fun c hc=>?_,injB_spec h.2⟩
 ·have:=zAT.1 h.1.1 c hc; simpa using this
 ·have:=zAT.1 h.1.2 c hc
  simp only [Bool.or_eq_true,Option.isNone_iff_eq_none] at this
  rcases this with h1 | h1
  ·exact .inl (by simpa using h1)
  ·exact .inr h1
theorem okH_look {h:Heap}:∀ {l:List (Nat × Blk)},okH h l=true→∀ c k,look l c=some k→okRefB h k=true
 | [],_,c,k,hk=>by simp [look] at hk
 | (b,x) :: l,h1,c,k,hk=>by
  simp only [okH,bae] at h1
  simp only [look] at hk
  by_cases e:b=c
  ·simp only [e,if_true,sie] at hk; subst hk; exact h1.1
  ·simp only [e,if_false] at hk; exact okH_look h1.2 c k hk
def handB (H:List (Nat × Blk)) (ρ:Nat→Nat) (cb:List (Nat × List Conv)) (hc:List (Nat × Blk)):List (Option Blk):=hc.map fun p=>(look H (ρ p.1)).map (cvB ((look cb p.1).getD []))
theorem handB_spec {H:List (Nat × Blk)} {ρ:Nat→Nat} {cb:List (Nat × List Conv)}:∀ {hc:List (Nat × Blk)},handB H ρ cb hc=hc.map (fun p=>some (renB ρ p.2))→∀ c k,look hc c=some k→∃ k0,look H (ρ c)=some k0∧leB k0 (renB ρ k)
 | [],_,c,k,hk=>by simp [look] at hk
 | (b,x) :: l,h1,c,k,hk=>by
  simp only [handB,zMC,List.cons.injEq] at h1
  simp only [look] at hk
  by_cases e:b=c
  ·simp only [e,if_true,sie] at hk
   subst hk e
   obtain ⟨k0,h2,h3⟩:=zMS.1 h1.1
   exact ⟨k0,h2,h3 ▸ leB_cv _ _⟩
  ·simp only [e,if_false] at hk; exact handB_spec (hc:=l) h1.2 c k hk
def handOk (N:Nat) (dst:Option Tmp) (ρ:Nat→Nat) (hc:List (Nat × Blk)) (args':List AV):Bool :=
 dstLt N dst&&okRefs (look hc) args'&&(hc.map (·.1)).all (fun c=>decide (1000≤c))&&okH (look hc) hc&&injB ρ (hc.map (·.1))
def outK (K:St→Prop) (Q:AX→St→Prop) (s:St) (dst:Option Tmp) (ρ:Nat→Nat) (hc':List (Nat × Blk)):AEnd→Prop
 | .ret x=>K (St.put ⟨s.T,backH ρ hc' s.H⟩ dst (ren ρ x))
 | .panic x=>Q (.panic (ren ρ x)) ⟨s.T,backH ρ hc' s.H⟩
theorem call_heap {P:Program} {N:Nat} {s:St} {K:St→Prop} {Q:AX→St→Prop} {hc:List (Nat × Blk)} {x:AEnd} {hc':List (Nat × Blk)} (L:List (Nat × Nat)) (C:List Conv) (cb:List (Nat × List Conv))
  (hcall:ACall P f args' (look hc) (fun r h'=>r=x∧h'=look hc')) (hargs:cvs C args=rens (rho L) args') (hok:handOk N dst (rho L) hc args'=true) (hsub:handB s.H (rho L) cb hc=hc.map (fun p=>some (renB (rho L) p.2)))
  (hfr:frameOk (rho L) hc hc' s.H=true) (hk:outK K Q s dst (rho L) hc' x):CallEx P N f args dst s K Q:=by
 simp only [handOk,bae] at hok
 obtain ⟨⟨⟨⟨h1,h2⟩,h3⟩,h4⟩,h5⟩:=hok
 refine call_frame (rho L) hcall (hargs ▸ cvs_les C args) h2 (fun c hc=>by simpa using zAT.1 h3 c hc) (okH_look h4) (handB_spec hsub) (injB_spec h5) (dstLt_spec h1) ?_
 rintro r h' ⟨rfl,rfl⟩
 refine ⟨hc',backH (rho L) hc' s.H,rfl,frameOk_spec hfr,fun _=>rfl,?_⟩
 cases r with
 | ret x=>exact hk
 | panic x=>exact hk
theorem sc_heap {m:Option V} {k:V→Option R} {X:V→AEnd × List (Nat × Blk)} {hc:List (Nat × Blk)} (L:List (Nat × Nat)) (C:List Conv) (cb:List (Nat × List Conv)) (hcall:∀ v,m=some v→ACall P f args' (look hc) (heapR X v))
  (hargs:cvs C args=rens (rho L) args') (hok:handOk N dst (rho L) hc args'=true) (hsub:handB s.H (rho L) cb hc=hc.map (fun p=>some (renB (rho L) p.2))) (hfr:∀ v,frameOk (rho L) hc (X v).2 s.H=true) (hX:∀ v,(X v).1=.ret (retOf (X v).1))
  (h:∀ v,SimK (k v) K (St.put ⟨s.T,backH (rho L) (X v).2 s.H⟩ dst (ren (rho L) (retOf (X v).1)))):SimC (m.bind k) P N f args dst s K Q:=by
 refine ⟨fun r hr=>?_⟩
 obtain ⟨v,hv,hk⟩:=zBS.1 hr
 have h1:=hX v
 refine call_heap L C cb (hcall v hv) hargs hok hsub (hfr v) ?_
 rw [h1]
 exact (h v).h r hk
theorem sc_heapE {m:Option (Except E V)} {k:V→Option R} {ke:E→Option R} {X:Except E V→AEnd × List (Nat × Blk)} {hc:List (Nat × Blk)} (L:List (Nat × Nat)) (C:List Conv) (cb:List (Nat × List Conv)) (hcall:∀ v,m=some v→ACall P f args' (look hc) (heapR X v))
  (hargs:cvs C args=rens (rho L) args') (hok:handOk N dst (rho L) hc args'=true) (hsub:handB s.H (rho L) cb hc=hc.map (fun p=>some (renB (rho L) p.2))) (hfr:∀ v,frameOk (rho L) hc (X (.ok v)).2 s.H=true) (hfe:∀ v,frameOk (rho L) hc (X (.error v)).2 s.H=true)
  (hX:∀ v,(X (.ok v)).1=.ret (retOf (X (.ok v)).1)) (hY:∀ v,(X (.error v)).1=.panic (retOf (X (.error v)).1))
  (h:∀ v,SimK (k v) K (St.put ⟨s.T,backH (rho L) (X (.ok v)).2 s.H⟩ dst (ren (rho L) (retOf (X (.ok v)).1)))) (he:∀ e,SimQ (ke e) Q (.panic (ren (rho L) (retOf (X (.error e)).1))) ⟨s.T,backH (rho L) (X (.error e)).2 s.H⟩):SimC (m.bind (exc k ke)) P N f args dst s K Q:=by
 refine ⟨fun r hr=>?_⟩
 obtain ⟨v,hv,hk⟩:=zBS.1 hr
 cases v with
 | ok v =>
  refine call_heap L C cb (hcall _ hv) hargs hok hsub (hfr v) ?_
  rw [hX v]
  exact (h v).h r hk
 | error e =>
  refine call_heap L C cb (hcall _ hv) hargs hok hsub (hfe e) ?_
  rw [hY e]
  exact (he e).h r hk
theorem xs_heap {m:Option V} {k:V→Option R} {X:V→AEnd × List (Nat × Blk)} {hc:List (Nat × Blk)} (L:List (Nat × Nat)) (C:List Conv) (cb:List (Nat × List Conv)) (hw:wantA ops o (look s.T)=some true) (hcall:∀ v,m=some v→ACall P f args' (look hc) (heapR X v))
  (hf:(callOf (look (gMark ops o s.T true)) o.op).map (fun p=>(p.1,cvs C p.2))=some (f,rens (rho L) args')) (hok:(bodyOk P f&&handOk N o.dst (rho L) hc args')=true) (hsub:handB s.H (rho L) cb hc=hc.map (fun p=>some (renB (rho L) p.2)))
  (hfr:∀ v,frameOk (rho L) hc (X v).2 s.H=true) (hX:∀ v,(X v).1=.ret (retOf (X v).1))
  (h:∀ v,SimR (k v) P N ops Q false ((none,[]) :: acc) l (St.put ⟨(mk ops o s true).T,backH (rho L) (X v).2 s.H⟩ o.dst (ren (rho L) (retOf (X v).1)))):SimR (m.bind k) P N ops Q false acc (o :: l) s:=by
 obtain ⟨⟨f0,args⟩,hcall0,hp⟩:=zMS.1 hf
 simp only [zPJ] at hp
 obtain ⟨rfl,hp⟩:=hp
 simp only [bae] at hok
 exact xs_enter hw hcall0 hok.1 (sc_heap L C cb hcall hp hok.2 hsub hfr hX (fun v=>kr (h v)))
theorem xs_heapE {m:Option (Except E V)} {k:V→Option R} {ke:E→Option R} {X:Except E V→AEnd × List (Nat × Blk)} {hc:List (Nat × Blk)} (L:List (Nat × Nat)) (C:List Conv) (cb:List (Nat × List Conv)) (hw:wantA ops o (look s.T)=some true) (hcall:∀ v,m=some v→ACall P f args' (look hc) (heapR X v))
  (hf:(callOf (look (gMark ops o s.T true)) o.op).map (fun p=>(p.1,cvs C p.2))=some (f,rens (rho L) args')) (hok:(bodyOk P f&&handOk N o.dst (rho L) hc args')=true) (hsub:handB s.H (rho L) cb hc=hc.map (fun p=>some (renB (rho L) p.2)))
  (hfr:∀ v,frameOk (rho L) hc (X (.ok v)).2 s.H=true) (hfe:∀ v,frameOk (rho L) hc (X (.error v)).2 s.H=true) (hX:∀ v,(X (.ok v)).1=.ret (retOf (X (.ok v)).1)) (hY:∀ v,(X (.error v)).1=.panic (retOf (X (.error v)).1))
  (h:∀ v,SimR (k v) P N ops Q false ((none,[]) :: acc) l (St.put ⟨(mk ops o s true).T,backH (rho L) (X (.ok v)).2 s.H⟩ o.dst (ren (rho L) (retOf (X (.ok v)).1))))
  (he:∀ e,SimQ (ke e) Q (.panic (ren (rho L) (retOf (X (.error e)).1))) ⟨(mk ops o s true).T,backH (rho L) (X (.error e)).2 s.H⟩):SimR (m.bind (exc k ke)) P N ops Q false acc (o :: l) s:=by
 obtain ⟨⟨f0,args⟩,hcall0,hp⟩:=zMS.1 hf
 simp only [zPJ] at hp
 obtain ⟨rfl,hp⟩:=hp
 simp only [bae] at hok
 exact xs_enter hw hcall0 hok.1 (sc_heapE L C cb hcall hp hok.2 hsub hfr hfe hX hY (fun v=>kr (h v)) he)
def allP:List AV→Option (List PV)
 | []=>some []
 | .p x :: l=>(allP l).map (x :: ·)
 | _=>none
theorem allP_spec:∀ {l:List AV} {ps:List PV},allP l=some ps→l=ps.map .p
 | [],ps,h=>by simp [allP] at h; subst h; rfl
 | x :: l,ps,h=>by
  cases x with
  | p x =>
   simp only [allP] at h
   obtain ⟨qs,h1,rfl⟩:=zMS.1 h
   simp [allP_spec h1]
  | _=>simp [allP] at h
def roV (H:Heap) (cs:List Conv):AV→Option AV
 | .ptr b off=>match H b with
  | some (.box _ l)=>match allP (cvs cs l) with
   | some ps=>if allOne (ps.map .p) then some (.eptr (ps.drop off)) else none
   | none=>none
  | _=>none
 | _=>none
inductive RoC where
 | cv (c:Conv)
 | ro (cs:List Conv)
def roA (H:Heap):RoC→AV→Option AV
 | .cv c,x=>some (cv c x)
 | .ro cs,x=>roV H cs x
def roAs (H:Heap):List RoC→List AV→Option (List AV)
 | [],[]=>some []
 | c :: cs,x :: xs=>match roA H c x,roAs H cs xs with | some y,some ys=>some (y :: ys) | _,_=>none
 | _,_=>none
theorem roA_spec {H:Heap} {c:RoC} {x y:AV} (h:roA H c x=some y):leR H x y:=by
 cases c with
 | cv c=>simp only [roA,sie] at h; subst h; exact .inl (cv_le c x)
 | ro cs =>
  simp only [roA,roV] at h
  split at h
  ·rename_i b off
   split at h
   ·rename_i ty l hb
    split at h
    ·rename_i ps hps
     split at h
     ·rename_i h1
      simp only [sie] at h
      subst h
      exact leR_ptr hb (allP_spec hps ▸ cvs_les cs l) h1 rfl
     ·cases h
    ·cases h
   ·cases h
  ·cases h
theorem roAs_spec {H:Heap}:∀ {cs:List RoC} {xs ys:List AV},roAs H cs xs=some ys→lesR H xs ys
 | [],[],ys,h=>by simp [roAs] at h; subst h; simp [lesR]
 | [],_ :: _,ys,h=>by simp [roAs] at h
 | _ :: _,[],ys,h=>by simp [roAs] at h
 | c :: cs,x :: xs,ys,h=>by
  simp only [roAs] at h
  split at h
  ·rename_i y ys' h1 h2
   simp only [sie] at h
   subst h
   exact ⟨y,ys',rfl,roA_spec h1,roAs_spec h2⟩
  ·cases h
theorem xs_ro {m:Option V} {k:V→Option R} {X:V→AV} (C:List RoC) (hw:wantA ops o (look s.T)=some true) (hc:∀ v,m=some v→PCall P f args' (.ret (X v)))
  (hf:(callOf (look (gMark ops o s.T true)) o.op).bind (fun p=>(roAs (look s.H) C p.2).map fun a=>(p.1,a))=some (f,args')) (hb:(bodyOk P f&&dstLt N o.dst&&noRefs args')=true) (hx:∀ v,flat (X v)=true)
  (h:∀ v,SimR (k v) P N ops Q false ((none,[]) :: acc) l (St.put (mk ops o s true) o.dst (X v))):SimR (m.bind k) P N ops Q false acc (o :: l) s:=by
 refine ⟨fun r hr=>?_⟩
 obtain ⟨v,hv,hk⟩:=zBS.1 hr
 obtain ⟨⟨f0,args⟩,hcall,hp⟩:=zBS.1 hf
 obtain ⟨aas,hp1,hp2⟩:=zMS.1 hp
 simp only [zPJ] at hp2
 obtain ⟨rfl,rfl⟩:=hp2
 simp only [bae] at hb
 show ExOps P N ops (Q r) (o :: l) s
 simp only [ExOps,hw,splitB_true,yieldOf_callOf hcall]
 exact exOp_call hcall hb.1.1 (call_ro (hc v hv) (roAs_spec hp1) hb.2 (dstLt_spec hb.1.2) ⟨hx v,(h v).h r hk⟩)
theorem xs_roE {m:Option (Except E V)} {k:V→Option R} {ke:E→Option R} {X:V→AV} {Y:E→AV} (C:List RoC) (hw:wantA ops o (look s.T)=some true) (hc:∀ v,m=some v→PCall P f args' (excE X Y v))
  (hf:(callOf (look (gMark ops o s.T true)) o.op).bind (fun p=>(roAs (look s.H) C p.2).map fun a=>(p.1,a))=some (f,args')) (hb:(bodyOk P f&&dstLt N o.dst&&noRefs args')=true) (hx:∀ v,flat (X v)=true) (hy:∀ v,flat (Y v)=true)
  (h:∀ v,SimR (k v) P N ops Q false ((none,[]) :: acc) l (St.put (mk ops o s true) o.dst (X v))) (he:∀ e,SimQ (ke e) Q (.panic (Y e)) (mk ops o s true)):SimR (m.bind (exc k ke)) P N ops Q false acc (o :: l) s:=by
 refine ⟨fun r hr=>?_⟩
 obtain ⟨v,hv,hk⟩:=zBS.1 hr
 obtain ⟨⟨f0,args⟩,hcall,hp⟩:=zBS.1 hf
 obtain ⟨aas,hp1,hp2⟩:=zMS.1 hp
 simp only [zPJ] at hp2
 obtain ⟨rfl,rfl⟩:=hp2
 simp only [bae] at hb
 show ExOps P N ops (Q r) (o :: l) s
 simp only [ExOps,hw,splitB_true,yieldOf_callOf hcall]
 refine exOp_call hcall hb.1.1 (call_ro (hc v hv) (roAs_spec hp1) hb.2 (dstLt_spec hb.1.2) ?_)
 cases v with
 | ok v=>exact ⟨hx v,(h v).h r hk⟩
 | error e=>exact ⟨hy e,(he e).h r hk⟩
end
def roomB (n bytes:Nat):Bool:=decide (n * bytes≤140737488355328∧n≤140737488355328)
section
variable {P:Program} {o:Oper} {T:Nat→Option AV} {h:Heap}
theorem aop_app {α:Type} {t e:TypeId} {s x:Operand} {S by_ tk:Nat} {enc:α→List PV} {l l2:List α} {xv:AV} (ho:o.op=.call ⟨.builtin .append,#[s,x],#[t,t]⟩) (ht:P.underlying t=some (.slice e))
  (hi:(P.info? e).bind (fun i=>i.zero.map fun z=>(i.size,i.bytes,z.cells.size))=some (S,by_,S)) (hS:Nat.ble 1 S=true) (hs:evO T s=some (.tsl S (List.map enc l) tk)) (hx:evO T x=some xv) (he:elemsN S xv=some (List.map enc l2)) (hn:l2.isEmpty=false)
  (hb:h tk=some (.arr e S (List.map enc l).length)) (hc:roomB (l++l2).length by_=true):aop P o T h=some (.tsl S (List.map enc (l++l2)) tk,some (tk, .arr e S (List.map enc (l++l2)).length),[tk]):=by
 obtain ⟨i,hi1,hi2⟩:=zBS.1 hi
 obtain ⟨z,hz1,hz2⟩:=zMS.1 hi2
 simp only [zPJ] at hz2
 obtain ⟨rfl,rfl,hz⟩:=hz2
 have hn':¬ l2=[]:=by intro e; subst e; cases hn
 have hS':0 < i.size:=Nat.le_of_ble_eq_true hS
 simp only [roomB,zDT,zLA] at hc
 simp [aop,ho,isV,hs,hx,aAppend,ht,hi1,hz1,he,hz,hS',isNil,hb,hn',hc]
theorem aop_appL {α:Type} {t e:TypeId} {s x:Operand} {S by_ tk:Nat} {enc:α→List PV} {l l2:List α} {xv:AV} (ho:o.op=.call ⟨.builtin .append,#[s,x],#[t,t]⟩) (ht:P.underlying t=some (.slice e))
  (hi:(P.info? e).bind (fun i=>i.zero.map fun z=>(i.size,i.bytes,z.cells.size))=some (S,by_,S)) (hS:Nat.ble 1 S=true) (hs:evO T s=some (.tsl S (List.map enc l) tk)) (hx:evO T x=some xv) (he:elemsN S xv=some (List.map enc l2))
  (hb:h tk=some (.arr e S (List.map enc l).length)) (hc:roomB (l++l2).length by_=true):aop P o T h=some (.tsl S (List.map enc (l++l2)) tk,some (tk, .arr e S (List.map enc (l++l2)).length),[tk]):=by
 obtain ⟨i,hi1,hi2⟩:=zBS.1 hi
 obtain ⟨z,hz1,hz2⟩:=zMS.1 hi2
 simp only [zPJ] at hz2
 obtain ⟨rfl,rfl,hz⟩:=hz2
 have hS':0 < i.size:=Nat.le_of_ble_eq_true hS
 simp only [roomB,zDT,zLA] at hc
 by_cases hn':l2=[]
 ·subst hn'
  simp [aop,ho,isV,hs,hx,aAppend,ht,hi1,hz1,he,hz,hS',isNil,hb]
 simp [aop,ho,isV,hs,hx,aAppend,ht,hi1,hz1,he,hz,hS',isNil,hb,hn',hc]
end
inductive OL (α:Type) where
 | nil
 | own (l:List α)
def OL.toL {α:Type}:OL α→List α
 | .nil=>[]
 | .own l=>l
@[simp] theorem OL.toL_nil {α:Type}:(OL.nil:OL α).toL=[]:=rfl
@[simp] theorem OL.toL_own {α:Type} (l:List α):(OL.own l).toL=l:=rfl
section
variable {R V E:Type} {a a1 a2:Option R} {P:Program} {N:Nat} {ro:Option Nat} {ops:Array Oper} {o:Oper} {l:List Oper} {dr:Bool} {acc:List Foot} {s s' s1:St} {Q:R→AX→St→Prop} {K:R→St→Prop} {f:FuncId} {args args':List AV} {dst:Option Tmp}
def inlQ (P:Program) (fn:Func) (hc:List (Nat × Blk)) (ρ:Nat→Nat) (s:St) (dst:Option Tmp) (K:R→St→Prop) (Q:R→AX→St→Prop):R→AX→St→Prop :=
 fun r=>bodyR P fn hc (fun x h'=>∃ hc',h'=look hc'∧outDom ρ hc hc' s.H∧outK (K r) (Q r) s dst ρ hc' x)
theorem sc_inline {fn:Func} {c:Code} {n:Nat} {hc:List (Nat × Blk)} (L:List (Nat × Nat)) (C:List Conv) (cb:List (Nat × List Conv)) (hf:P.funcs[f]?=some fn) (hb:fn.body=some c) (hn:fn.ntmps=n) (hl:Nat.ble args'.length n=true)
  (hargs:cvs C args=rens (rho L) args') (hok:handOk N dst (rho L) hc args'=true) (hsub:handB s.H (rho L) cb hc=hc.map (fun p=>some (renB (rho L) p.2)))
  (h:SimE a P n none c ⟨argsT 0 args',hc⟩ (inlQ P fn hc (rho L) s dst K Q)):SimC a P N f args dst s K Q:=by
 subst hn
 refine ⟨fun r hr=>?_⟩
 simp only [handOk,bae] at hok
 obtain ⟨⟨⟨⟨h1,h2⟩,h3⟩,h4⟩,h5⟩:=hok
 refine call_frame (rho L) (acall_of_ex hf hb (Nat.le_of_ble_eq_true hl) (h.h r hr)) (hargs ▸ cvs_les C args) h2 (fun c hc=>by simpa using zAT.1 h3 c hc) (okH_look h4) (handB_spec hsub) (injB_spec h5) (dstLt_spec h1) ?_
 rintro x h' ⟨hc',rfl,hd,hk⟩
 refine ⟨hc',backH (rho L) hc' s.H,rfl,hd,fun _=>rfl,?_⟩
 cases x with
 | ret x=>exact hk
 | panic x=>exact hk
def inlOk (ρ:Nat→Nat) (hc hc':List (Nat × Blk)) (s:St) (y:AV):Bool:=okOut hc hc' y&&frameOk ρ hc hc' s.H
theorem iq_end {fn:Func} {hc:List (Nat × Blk)} {ρ:Nat→Nat} {x:AX} (hx:x=.ret∨x=.normal) (C:Conv) (bs:List Nat) (cb:List (Nat × List Conv)) (y:AV) (h:(resA P fn (look s1.T) (look s1.H)).map (cv C)=some y)
  (hok:inlOk ρ hc (pickH cb s1.H bs) s y=true) (hk:SimK a K (St.put ⟨s.T,backH ρ (pickH cb s1.H bs) s.H⟩ dst (ren ρ y))):SimQ a (inlQ P fn hc ρ s dst K Q) x s1:=by
 obtain ⟨z,h1,h2⟩:=zMS.1 h
 simp only [inlOk,okOut,bae] at hok
 refine ⟨fun r hr=>?_⟩
 have:endR P fn hc (fun x h'=>∃ hc',h'=look hc'∧outDom ρ hc hc' s.H∧outK (K r) (Q r) s dst ρ hc' x) s1 :=
  ⟨z,y,pickH cb s1.H bs,h1,h2 ▸ cv_le C z,hok.1.1.1,subH_pick hok.1.1.2,hok.1.2,_,rfl,frameOk_spec hok.2,hk.h r hr⟩
 rcases hx with rfl | rfl <;> exact this
theorem iq_ret {fn:Func} {hc:List (Nat × Blk)} {ρ:Nat→Nat} (C:Conv) (bs:List Nat) (cb:List (Nat × List Conv)) (y:AV) (h:(resA P fn (look s1.T) (look s1.H)).map (cv C)=some y)
  (hok:inlOk ρ hc (pickH cb s1.H bs) s y=true) (hk:SimK a K (St.put ⟨s.T,backH ρ (pickH cb s1.H bs) s.H⟩ dst (ren ρ y))):SimQ a (inlQ P fn hc ρ s dst K Q) .ret s1:=iq_end (.inl rfl) C bs cb y h hok hk
theorem iq_n {fn:Func} {hc:List (Nat × Blk)} {ρ:Nat→Nat} (C:Conv) (bs:List Nat) (cb:List (Nat × List Conv)) (y:AV) (h:(resA P fn (look s1.T) (look s1.H)).map (cv C)=some y)
  (hok:inlOk ρ hc (pickH cb s1.H bs) s y=true) (hk:SimK a K (St.put ⟨s.T,backH ρ (pickH cb s1.H bs) s.H⟩ dst (ren ρ y))):SimQ a (inlQ P fn hc ρ s dst K Q) .normal s1:=iq_end (.inr rfl) C bs cb y h hok hk
theorem iq_p {fn:Func} {hc:List (Nat × Blk)} {ρ:Nat→Nat} {p:AV} (bs:List Nat) (cb:List (Nat × List Conv)) (hok:inlOk ρ hc (pickH cb s1.H bs) s p=true) (hk:SimQ a Q (.panic (ren ρ p)) ⟨s.T,backH ρ (pickH cb s1.H bs) s.H⟩):SimQ a (inlQ P fn hc ρ s dst K Q) (.panic p) s1:=by
 simp only [inlOk,okOut,bae] at hok
 exact ⟨fun r hr=>⟨p,pickH cb s1.H bs,le_refl p,hok.1.1.1,subH_pick hok.1.1.2,hok.1.2,_,rfl,frameOk_spec hok.2,hk.h r hr⟩⟩
theorem xIn {fn:Func} {c:Code} {n:Nat} (hc:List (Nat × Blk)) (args':List AV) (L:List (Nat × Nat)) (C:List Conv) (cb:List (Nat × List Conv)) (hw:wantA ops o (look s.T)=some true) (hf:P.funcs[f]?=some fn) (hb:fn.body=some c) (hn:fn.ntmps=n) (hl:Nat.ble args'.length n=true)
  (hcall:(callOf (look (gMark ops o s.T true)) o.op).map (fun p=>(p.1,cvs C p.2))=some (f,rens (rho L) args')) (hok:(bodyOk P f&&handOk N o.dst (rho L) hc args')=true) (hsub:handB s.H (rho L) cb hc=hc.map (fun p=>some (renB (rho L) p.2)))
  (h:SimE a P n none c ⟨argsT 0 args',hc⟩ (inlQ P fn hc (rho L) (mk ops o s true) o.dst (fKr P N ops Q l) Q)):SimR a P N ops Q false acc (o :: l) s:=by
 obtain ⟨⟨f0,args⟩,hcall0,hp⟩:=zMS.1 hcall
 simp only [zPJ] at hp
 obtain ⟨rfl,hp⟩:=hp
 simp only [bae] at hok
 exact xs_enter hw hcall0 hok.1 (sc_inline L C cb hf hb hn hl hp hok.2 hsub h)
end
section
variable {P:Program} {o:Oper} {T:Nat→Option AV} {h:Heap}
theorem aop_vapp {α:Type} {t e:TypeId} {s x:Operand} {S by_ tk n:Nat} {enc:α→List PV} {l l2:List α} {xv:AV} (ho:o.op=.call ⟨.builtin .append,#[s,x],#[t,t]⟩) (ht:P.underlying t=some (.slice e))
  (hi:(P.info? e).bind (fun i=>i.zero.map fun z=>(i.size,i.bytes,z.cells.size,allOneV z.cells.toList))=some (S,by_,S,true)) (hS:Nat.ble 1 S=true) (hs:evO T s=some (.vsl S tk n)) (hx:evO T x=some xv) (he:elemsN S xv=some (List.map enc l2))
  (hb:h tk=some (.vec e S (List.map enc l))) (hn:n=(List.map enc l).length) (hc:roomB (l++l2).length by_=true):aop P o T h=some (.vsl S tk (List.map enc (l++l2)).length,some (tk, .vec e S (List.map enc (l++l2))),[tk]):=by
 subst hn
 obtain ⟨i,hi1,hi2⟩:=zBS.1 hi
 obtain ⟨z,hz1,hz2⟩:=zMS.1 hi2
 simp only [zPJ] at hz2
 obtain ⟨rfl,rfl,hz,hz3⟩:=hz2
 have hS':0 < i.size:=Nat.le_of_ble_eq_true hS
 simp only [roomB,zDT,zLA] at hc
 by_cases h2:l2=[]
 ·subst h2
  simp only [List.length_nil,Nat.add_zero] at hc
  simp [aop,ho,isV,hs,hx,vAppend,ht,hi1,hz1,he,hz,hS',hz3,hb,hc]
 ·simp [aop,ho,isV,hs,hx,vAppend,ht,hi1,hz1,he,hz,hS',hz3,hb,h2,hc]
def sliceB (lo hi:Int) (len:Nat):Bool:=decide (0≤lo∧lo≤hi∧hi≤len)
def natA (T:Nat→Option AV) (d:Int):Option Operand→Option Int
 | none=>some d
 | some x=>match evO T x with | some (.p (.val (.int _ n)))=>some n | _=>none
def makeB (l c:Int) (by_:Nat):Bool:=decide (0≤l∧l≤c∧(by_:Int) * c≤281474976710656∧c≤140737488355328)
theorem aop_make {α:Type} {t e:TypeId} {x y:Operand} {S by_ d:Nat} {enc:α→List PV} {z0:α} {k k':IntKind} {l c:Int} (ho:o.op=.makeSlice t x y) (hd:o.dst=some d) (ht:P.underlying t=some (.slice e))
  (hi:(P.info? e).bind (fun i=>i.zero.bind fun z=>(toPVs (z.cells.toList.map ofV)).map fun ps=>(i.size,i.bytes,z.cells.size,allOneV z.cells.toList,ps))=some (S,by_,S,true,enc z0)) (hS:Nat.ble 1 S=true) (hl:(enc z0).length=S) (hx:evO T x=some (.p (.val (.int k l)))) (hy:evO T y=some (.p (.val (.int k' c)))) (hb:h d=none)
  (hc:makeB l c by_=true):aop P o T h=some (.vsl S d (List.map enc (List.replicate l.toNat z0)).length,some (d, .vec e S (List.map enc (List.replicate l.toNat z0))),[d]):=by
 obtain ⟨i,hi1,hi2⟩:=zBS.1 hi
 obtain ⟨z,hz1,hz2⟩:=zBS.1 hi2
 obtain ⟨ps,hp1,hp2⟩:=zMS.1 hz2
 simp only [zPJ] at hp2
 obtain ⟨rfl,rfl,h3,h4,rfl⟩:=hp2
 have hS':0 < i.size:=Nat.le_of_ble_eq_true hS
 simp only [makeB,zDT] at hc
 simp [aop,ho,vMake,ht,hx,hy,hd,hi1,hz1,hb,hp1,h3,h4,hS',hl,hc]
end
def excX {E V:Type} (x:V→AEnd × List (Nat × Blk)) (y:E→AEnd × List (Nat × Blk)):Except E V→AEnd × List (Nat × Blk)
 | .ok v=>x v
 | .error e=>y e
section
variable {R V:Type} {N:Nat} {s s1:St} {Q:R→AX→St→Prop}
theorem kq_f {k:V→Option R} {S:V→St} (v:V) (K0:Keep) (s0:St) (h0:shrQ K0 s=some s0) (hw:Weak N s0 s1) (K:Keep) (h1:shrQ K s1=some (S v)):SimQ (k v) (kQ N k S Q) .normal s:=kq_w v ((weak_shr h0).trans (hw.trans (weak_shr h1)))
end
section
variable {P:Program} {ops:Array Oper} {Q:Exit→Act→World→Prop} {k:Nat} {ok:Oper}
theorem wpAny_monoQ {Q':Exit→Act→World→Prop} (hQ:∀ e a w,Q e a w→Q' e a w):∀ (fuel:Nat) (listed:Array Bool) (a:Act) (w:World),wpAny P .any ops Q fuel listed a w→wpAny P .any ops Q' fuel listed a w
 | 0,listed,a,w,h=>⟨h.1,hQ _ _ _ h.2⟩
 | fuel+1,listed,a,w,h=>by
  refine ⟨fun hr=>hQ _ _ _ (h.1 hr),fun i hi=>?_⟩
  have h2:=h.2 i hi
  unfold wpOp at h2 ⊢
  cases ho:ops[i]? with
  | none=>simp only [ho] at h2 ⊢; exact wpAny_monoQ hQ fuel _ a w h2
  | some o =>
   simp only [ho] at h2 ⊢
   split
   ·rename_i hw
    simp only [hw,if_true] at h2
    rcases h2 with h2 | ⟨h3,h4⟩
    ·exact .inl (Oper.wp_mono2 h2 (fun a w h=>wpAny_monoQ hQ fuel _ a w h) hQ)
    ·exact .inr ⟨h3,_,_,hQ _ _ _ h4.choose_spec.choose_spec⟩
   ·rename_i hw
    simp only [hw] at h2
    exact wpAny_monoQ hQ fuel _ _ w h2
end
def Agree (X:Tmp→Prop) (a b:Act):Prop:=a.defers=b.defers∧a.tmps.size=b.tmps.size∧∀ t,¬ X t→a.tmps[t]?=b.tmps[t]?
theorem agree_refl (X:Tmp→Prop) (a:Act):Agree X a a:=⟨rfl,rfl,fun _ _=>rfl⟩
theorem agree_put {X:Tmp→Prop} {a b:Act} (h:Agree X a b) (d:Option Tmp) (v:Value):Agree X (a.put d v) (b.put d v):=by
 cases d with
 | none=>exact h
 | some d =>
  refine ⟨h.1,by simpa [Act.put] using h.2.1,fun t ht=>?_⟩
  simp only [Act.put,Array.getElem?_setIfInBounds]
  rw [h.2.1,h.2.2 t ht]
theorem agree_eval {X:Tmp→Prop} {a b:Act} (h:Agree X a b) {x:Operand} (hx:∀ t,x=.tmp t→¬ X t):a.eval x=b.eval x:=by
 cases x with
 | tmp t =>
  have:=h.2.2 t (hx t rfl)
  simp only [Act.eval]
  rw [Array.getD_eq_getD_getElem?,Array.getD_eq_getD_getElem?,this]
 | _=>rfl
theorem execOp_agree {X:Tmp→Prop} {ops:Array Oper} {a b:Act} (h:Agree X a b) {o:Oper} (hs:∀ cs b,o.op ≠ .select cs b) (hl:∀ t ∈ o.looksAt ops,¬ X t):execOp a.eval o=execOp b.eval o :=
 execOp_congr o hs fun x hx=>agree_eval h fun t ht=>hl t (by
  subst ht
  exact List.mem_append_left _ (List.mem_filterMap.2 ⟨.tmp t,by simpa using hx,rfl⟩))
theorem wp_agree {P:Program} {X:Tmp→Prop} {ops:Array Oper} {a b:Act} {o:Oper} {w:World} {K:Act→World→Prop} {Q Q':Exit→Act→World→Prop} (h:Agree X a b) (hs:∀ cs b,o.op ≠ .select cs b) (hl:∀ t ∈ o.looksAt ops,¬ X t) (hd:∀ t,o.dst=some t→¬ X t)
  (hp:∀ c w,Q (.panic c) b w→Q' (.panic c) a w) (ho:∀ a w,¬ Q .outgrown a w) (hh:o.wp P b w K Q):o.wp P a w (fun a' w'=>∃ b',Agree X a' b'∧(∀ t,o.dst ≠ some t→b'.tmps[t]?=b.tmps[t]?)∧K b' w') Q':=by
 have hput:∀ (b:Act) (v:Value) (t:Tmp),o.dst ≠ some t→(b.put o.dst v).tmps[t]?=b.tmps[t]?:=by
  intro b v t ht
  cases hdst:o.dst with
  | none=>rfl
  | some d =>
   have:d ≠ t:=fun e=>ht (by rw [hdst,e])
   simp [Act.put,Array.getElem?_setIfInBounds_ne this]
 unfold Oper.wp at *
 rw [execOp_agree (ops:=ops) h hs hl]
 generalize (execOp b.eval o).run P w=r at *
 cases r with
 | ok n w' =>
  cases n <;> simp only [Oper.upon] at hh ⊢
  case value u=>exact ⟨_,agree_put h _ u,hput b u,hh⟩
  case skip=>exact ⟨_,agree_put h _ _,hput b _,hh⟩
  case defer d =>
   refine ⟨_,agree_put (X:=X) (a:={ a with defers:=d :: a.defers }) (b:={ b with defers:=d :: b.defers }) ⟨by simp [h.1],h.2.1,h.2.2⟩ _ _,fun t ht=>?_,hh⟩
   exact hput { b with defers:=d :: b.defers } _ t ht
  case enter f args =>
   refine Calls.mono hh fun e w'' he=>?_
   cases e with
   | returned u=>exact ⟨_,agree_put h _ u,hput b u,he⟩
   | panicked c=>exact hp _ _ he
   | outgrown=>obtain ⟨a0,w0,he⟩:=he; exact absurd he (ho _ _)
  case row row args=>exact Rows.mono hh fun u w'' he=>⟨_,agree_put h _ u,hput b u,he⟩
 | halt x w' =>
  cases x <;> simp only [Oper.upon] at hh ⊢
  case panic u=>exact hp _ _ hh
def aRead (P:Program) (o:Oper) (T:Nat→Option AV) (h:Heap):Option AV :=
 match o.op with
 | .move x=>evO T x
 | .load ty x=>(aLoad P T h ty x).map (·.1)
 | .fieldAddr s x f=>(aFieldAddr P T s x f).map (·.1)
 | .nilCheck x=>(aNilCheck T x).map (·.1)
 | .extract x i=>(aExtract T x i).map (·.1)
 | .binOp op _ x y _=>match evO T x,evO T y with
  | some (.p (.val (.int k a))),some (.p (.val (.int k' b)))=>if isShift op then none else if k=k' then (intRes op k a b).map fun v=>.p (.val v) else none
  | _,_=>none
 | _=>none
section
variable {P:Program} {N:Nat} {D:DB} {φ:Nat→Nat} {M0:Mset} {T:Nat→Option AV} {h:Heap} {a:Act} {w:World}
theorem aRead_ok {o:Oper} (r:Rel φ M0 N D T h a w) {x:AV} (he:aRead P o T h=some x):∃ v,(execOp a.eval o).run P w=.ok (.value v) w∧RepA φ h w (MM φ h M0) x v:=by
 unfold aRead at he
 split at he
 ·rename_i y ho
  exact ⟨a.eval y,by simp [execOp,ho],r.ev he⟩
 ·rename_i ty y ho
  obtain ⟨u,hu,rfl⟩:=zMS.1 he
  obtain ⟨_,v,h2,h3⟩:=load_run (P:=P) r hu
  exact ⟨v,by simp [execOp,ho,h2],h3⟩
 ·rename_i s y f ho
  obtain ⟨u,hu,rfl⟩:=zMS.1 he
  unfold aFieldAddr at hu
  split at hu
  ·rename_i fields hs
   split at hu
   ·rename_i fl hf
    split at hu
    ·rename_i i hi
     split at hu
     ·cases hu
     ·rename_i hsz
      split at hu
      ·rename_i b off hx
       simp only [sie] at hu
       subst hu
       have h2:=r.ev hx
       simp only [RepA] at h2
       refine ⟨.pointer (some ⟨φ b,off+fl.offset,none⟩),?_,?_⟩
       ·simp [execOp,ho,Instr.fieldAt,run_underlying hs,hf,h2.1,Instr.sureAddr,fieldPlace,run_sizeOf' hi,hsz,Addr.add_lit]
       ·simp only [RepA]; exact ⟨trivial,h2.2⟩
      ·rename_i cs hx
       split at hu
       ·rename_i hle
        simp only [sie] at hu
        subst hu
        have h2:=r.ev hx
        simp only [RepA] at h2
        obtain ⟨rr,oo,h3,h4⟩:=h2
        refine ⟨.pointer (some ⟨rr,oo+fl.offset,none⟩),?_,?_⟩
        ·simp [execOp,ho,Instr.fieldAt,run_underlying hs,hf,h3,Instr.sureAddr,fieldPlace,run_sizeOf' hi,hsz,Addr.add_lit]
        ·simp only [RepA]; exact ⟨rr,oo+fl.offset,rfl,repCs_drop _ hle h4⟩
       ·cases hu
      ·cases hu
    ·cases hu
   ·cases hu
  ·cases hu
 ·rename_i y ho
  obtain ⟨u,hu,rfl⟩:=zMS.1 he
  unfold aNilCheck at hu
  split at hu
  ·rename_i b off hx
   simp only [sie] at hu
   subst hu
   have h2:=r.ev hx
   refine ⟨a.eval y,?_,h2⟩
   simp only [RepA] at h2
   simp [execOp,ho,h2.1]
  ·rename_i cs hx
   simp only [sie] at hu
   subst hu
   have h2:=r.ev hx
   refine ⟨a.eval y,?_,h2⟩
   simp only [RepA] at h2
   obtain ⟨rr,oo,h3,_⟩:=h2
   simp [execOp,ho,h3]
  ·rename_i f l m hx
   simp only [sie] at hu
   subst hu
   have h2:=r.ev hx
   refine ⟨a.eval y,?_,h2⟩
   simp only [RepA] at h2
   obtain ⟨l',m',h3,_⟩:=h2
   simp [execOp,ho,h3]
  ·cases hu
 ·rename_i y i ho
  obtain ⟨u,hu,rfl⟩:=zMS.1 he
  unfold aExtract at hu
  split at hu
  ·rename_i vs hx
   split at hu
   ·rename_i v hv
    simp only [sie] at hu
    subst hu
    have h2:=r.ev hx
    simp only [RepA] at h2
    obtain ⟨l,h3,h4⟩:=h2
    obtain ⟨z,h5,h6⟩:=repAs_get h4 hv
    exact ⟨z,by simp [execOp,ho,Instr.extract,h3,h5],h6⟩
   ·cases hu
  ·cases hu
 ·rename_i op tx y z ty ho
  split at he
  ·rename_i k n k' m hx hy
   have h1:=r.ev hx
   have h2:=r.ev hy
   simp only [RepA,RepP] at h1 h2
   split at he
   ·cases he
   rename_i hs
   split at he
   ·rename_i hk
    subst hk
    obtain ⟨v,hv,rfl⟩:=zMS.1 he
    refine ⟨v,?_,by simp [RepA,RepP]⟩
    cases op <;> first | (simp [isShift] at hs; done) | (simp only [intRes] at hv; first | (cases hv; done) | (simp only [sie] at hv; subst hv; simp [execOp,ho,h1,h2,eqGuard,binOp,Op.intArith,Op.intBits,Op.intCmp,bAnd,bOr,bXor,bAndNot,ltI,leI,eqI,bne]; done) | (by_cases hz:m=0 <;> simp only [hz,if_true,if_false] at hv <;> first | (cases hv; done) | (simp only [sie] at hv; subst hv; simp [execOp,ho,h1,h2,eqGuard,binOp,Op.intDiv,hz])))
   ·cases he
  ·cases he
 ·cases he
end
def exactA:AV→Bool
 | .p (.val _)=>true
 | .ptr _ _=>true
 | _=>false
theorem exactA_one {φ:Nat→Nat} {h:Heap} {w:World} {M:Mset} {x:AV} {v v':Value} (hx:exactA x=true) (h1:RepA φ h w M x v) (h2:RepA φ h w M x v'):v=v':=by
 unfold exactA at hx
 split at hx
 ·simp only [RepA,RepP] at h1 h2
  rw [h1,h2]
 ·simp only [RepA] at h1 h2
  rw [h1.1,h2.1]
 ·cases hx
def Exact (h:Heap) (x:AV):Prop:=exactA x=true∨∃ S es t ty,x=.tsl S es t∧h t=some (.arr ty S es.length)∧0 < S
theorem exact_one {φ:Nat→Nat} {h:Heap} {w:World} {M:Mset} {x:AV} {v v':Value} (hx:Exact h x) (h1:RepA φ h w M x v) (h2:RepA φ h w M x v'):v=v':=by
 rcases hx with hx | ⟨S,es,t,ty,rfl,ht,hS⟩
 ·exact exactA_one hx h1 h2
 ·simp only [RepA] at h1 h2
  obtain ⟨_,ty1,n1,a1,a2,a3⟩:=h1
  obtain ⟨_,ty2,n2,b1,b2,b3⟩:=h2
  rw [ht] at a1 b1
  cases a1
  cases b1
  rcases a3 rfl with ⟨_,e1,e2⟩ | ⟨cap,c,e1,e2,e3,_⟩ <;> rcases b3 rfl with ⟨_,f1,f2⟩ | ⟨cap',c',f1,f2,f3,_⟩
  ·exact e1.trans f1.symm
  ·rw [e2] at f2; cases f2
  ·rw [e2] at f2; cases f2
  rw [e2] at f2
  cases f2
  rw [e3] at f3
  have:cap=cap':=Nat.eq_of_mul_eq_mul_right hS f3
  rw [e1,f1,this]
def runH (P:Program) (N:Nat) (ops:Array Oper):List Nat→St→Option St
 | [],s=>some s
 | i :: l,s=>match ops[i]? with
  | some o=>match aRead P o (look s.T) (look s.H),o.dst with
   | some x,some d=>if d < N then runH P N ops l (s.put (some d) x) else none
   | _,_=>none
  | none=>none
def pairH (ops:Array Oper):List Nat→Bool
 | []=>true
 | i :: l=>(match ops[i]? with
  | some o=>match o.dst with
   | some d=>!(o.looksAt ops).contains d&&l.all (fun j=>match (ops[j]?).bind (·.dst) with | some e=>!(o.looksAt ops).contains e&&e != d | none=>false)
   | none=>false
  | none=>false)&&pairH ops l
def dstX (ops:Array Oper) (H:List Nat) (t:Tmp):Prop:=∃ i ∈ H,(ops[i]?).bind (·.dst)=some t
theorem runH_ok {P:Program} {N:Nat} {D:DB} {φ:Nat→Nat} {M0:Mset} {ops:Array Oper} (hns:Region.noSelect ops=true):∀ (H:List Nat) (s s1:St) (a:Act) (w:World),pairH ops H=true→runH P N ops H s=some s1→Rel φ M0 N D (look s.T) (look s.H) a w →
  ∃ b,Rel φ M0 N D (look s1.T) (look s1.H) b w∧look s1.H=look s.H∧Agree (dstX ops H) a b∧∀ i ∈ H,∃ o d v,ops[i]?=some o∧o.dst=some d∧b.tmps[d]?=some v∧(execOp b.eval o).run P w=.ok (.value v) w
 | [],s,s1,a,w,_,h,r=>by
  simp only [runH,sie] at h
  subst h
  exact ⟨a,r,rfl,agree_refl _ a,fun i hi=>by cases hi⟩
 | i :: H,s,s1,a,w,hp,h,r=>by
  simp only [runH] at h
  cases ho:ops[i]? with
  | none=>rw [ho] at h; cases h
  | some o =>
   simp only [ho] at h
   split at h
   ·rename_i x d hx hd
    split at h
    rotate_left
    ·cases h
    rename_i hdN
    simp only [pairH,ho,hd,bae,Bool.not_eq_true'] at hp
    obtain ⟨⟨hself,hlater⟩,hp'⟩:=hp
    obtain ⟨v,hrun,hrep⟩:=aRead_ok r hx
    have r1:=r.put (d:=some d) (fun t ht=>by cases ht; exact hdN) hrep
    obtain ⟨b,rb,hH,hag,hall⟩:=runH_ok hns H (s.put (some d) x) s1 (a.put (some d) v) w hp' h r1
    have hnl:∀ t ∈ o.looksAt ops,t ≠ d∧¬ dstX ops H t:=by
     intro t ht
     refine ⟨fun e=>?_,?_⟩
     ·subst e; simp [ht] at hself
     ·rintro ⟨j,hj,hje⟩
      have:=zAT.1 hlater j hj
      rw [hje] at this
      simp [ht] at this
    have hdl:¬ dstX ops H d:=by
     rintro ⟨j,hj,hje⟩
     have:=zAT.1 hlater j hj
     rw [hje] at this
     simp at this
    have hds:d < a.tmps.size:=by rw [r.siz]; exact hdN
    refine ⟨b,rb,by rw [hH]; rfl,?_,?_⟩
    ·refine ⟨by rw [← hag.1]; rfl,by rw [← hag.2.1]; simp [Act.put],fun t ht=>?_⟩
     rw [← hag.2.2 t (fun hc=>ht (by obtain ⟨j,hj,hje⟩:=hc; exact ⟨j,List.mem_cons_of_mem _ hj,hje⟩))]
     have:d ≠ t:=fun e=>ht ⟨i,List.mem_cons_self,by rw [ho]; exact hd.trans (by rw [e])⟩
     simp [Act.put,Array.getElem?_setIfInBounds_ne this]
    ·intro j hj
     rcases List.mem_cons.1 hj with rfl | hj
     ·refine ⟨o,d,v,ho,hd,?_,?_⟩
      ·rw [← hag.2.2 d hdl]
       simp [Act.put,hds]
      ·rw [← hrun]
       congr 1
       have h1:execOp (a.put (some d) v).eval o=execOp a.eval o:=execOp_put o (fun cs b=>Region.noSelect_spec hns j o cs b ho) a (some d) v (fun t ht hc=>by cases ht; exact (hnl d hc).1 rfl)
       rw [← h1]
       exact (execOp_agree (ops:=ops) hag (fun cs b=>Region.noSelect_spec hns j o cs b ho) (fun t ht=>(hnl t ht).2)).symm
     ·exact hall j hj
   ·cases h
def lateI (P:Program) (ops:Array Oper) (i:Nat) (s:St):Prop :=
 match ops[i]? with
 | some o=>match o.op,o.dst with
  | .move x,some d=>True
  | _,some d=>∃ x,aRead P o (look s.T) (look s.H)=some x∧look s.T d=some x∧Exact (look s.H) x
  | _,none=>False
 | none=>False
def lates (P:Program) (ops:Array Oper) (L:List Nat) (s:St):Prop:=∀ i ∈ L,lateI P ops i s
def waitsT:Nat→Array Oper→Nat→Nat→Bool
 | 0,_,_,_=>false
 | n+1,ops,j,i=>match ops[j]? with
  | some o=>o.after.toList.any fun e=>Region.binds .any e&&(e.on == i||waitsT n ops e.on i)
  | none=>false
def lateL (ops:Array Oper) (L:List Nat) (c:Nat):List Nat:=L.filter fun i=>!waitsT ops.size ops c i&&!waitsT ops.size ops i c
def ExC (P:Program) (N:Nat) (ops:Array Oper) (Q:AX→St→Prop) (L:List Nat):List (Nat × List Nat)→St→Prop
 | [],s=>Q .normal s
 | (c,hs) :: rest,s=>match ops[c]? with
  | some o=>ExOp P N o s (fun s'=>lates P ops (lateL ops L c) s'∧∃ s'',runH P N ops hs s'=some s''∧ExC P N ops Q L rest s'') Q
  | none=>False
theorem waitsT_spec {ops:Array Oper} {listed:Array Bool} (hcl:∀ (j:Nat) o,ops[j]?=some o→listed.getD j false=true→∀ e ∈ o.after,Region.binds .any e=true→listed.getD e.on false=true):∀ (n j i:Nat) (o:Oper),ops[j]?=some o→(∀ e ∈ o.after,Region.binds .any e=true→listed.getD e.on false=true)→waitsT n ops j i=true→listed.getD i false=true
 | 0,j,i,o,ho,hr,h=>by cases h
 | n+1,j,i,o,ho,hr,h=>by
  simp only [waitsT,ho,List.any_eq_true,bae,Bool.or_eq_true,beq_iff_eq] at h
  obtain ⟨e,he,hb,h1⟩:=h
  have hl:=hr e (by simpa using he) hb
  rcases h1 with h1 | h1
  ·rw [← h1]; exact hl
  ·cases ho2:ops[e.on]? with
   | none=>cases n <;> simp [waitsT,ho2] at h1
   | some o2=>exact waitsT_spec hcl n e.on i o2 ho2 (fun e2 he2 hb2=>hcl e.on o2 ho2 hl e2 he2 hb2) h1
def chainOk (ops:Array Oper):List Nat→Bool
 | []=>true
 | [_]=>true
 | c :: c' :: r=>(ops[c']?).any (waits · c)&&chainOk ops (c' :: r)
def stageOk (ops:Array Oper) (L:List Nat):List Nat→List Nat→List (Nat × List Nat)→Bool
 | _,_,[]=>true
 | hv,cur,(c,hs) :: r=>cur.all (fun i=>L.contains i||waitsT ops.size ops c i)&&hs.all (fun i=>waitsT ops.size ops i c)&&hv.all (fun i=>!waitsT ops.size ops i c)&&stageOk ops L (hv++hs) hs r
def allH (H:List Nat) (Ch:List (Nat × List Nat)):List Nat:=H++(Ch.map (·.2)).flatten
def hstOk (H L:List Nat) (Ch:List (Nat × List Nat)) (ops:Array Oper):Bool :=
 (List.range ops.size).all (fun i=>(allH H Ch).contains i||(Ch.map (·.1)).contains i)&&Region.noSelect ops&&pairH ops (allH H Ch)&&chainOk ops (Ch.map (·.1))&&decide (Ch.map (·.1)).Nodup&&(allH H Ch).all (fun i=>!(Ch.map (·.1)).contains i) &&
 stageOk ops L H H Ch&&ops.toList.all (fun o=>o.guard.isNone)&&edgesDown 0 ops.toList &&
 (allH H Ch).all (fun i=>match (ops[i]?).bind (·.dst) with
  | some d=>(List.range ops.size).all fun j=>i == j||(match ops[j]? with | some oj=>oj.dst != some d&&(waits oj i||!(oj.looksAt ops).contains d) | none=>true)
  | none=>false) &&
 L.all (fun i=>match ops[i]? with | some o=>(match o.op with | .move _=>true | _=>false)&&(Ch.map (·.1)).all (fun c=>match (ops[c]?).bind (·.dst) with | some e=>!(o.looksAt ops).contains e | none=>true)||!(match o.op with | .move _=>true | _=>false) | none=>false)
theorem waits_spec {o:Oper} {i:Nat} (h:waits o i=true):∃ e ∈ o.after,Region.binds .any e=true∧e.on=i:=by
 simp only [waits,List.any_eq_true,bae,beq_iff_eq] at h
 obtain ⟨e,h1,h2,h3⟩:=h
 exact ⟨e,by simpa using h1,h2,h3⟩
theorem act_ext {a b:Act} {X:Tmp→Prop} (h:Agree X a b) (hx:∀ t,¬ X t):a=b:=by
 obtain ⟨h1,h2,h3⟩:=h
 cases a with
 | mk ta da =>
  cases b with
  | mk tb db =>
   simp only at h1 h3
   subst h1
   congr 1
   exact Array.ext_getElem? (fun i=>h3 i (hx i))
def lateX (ops:Array Oper) (H:List Nat) (listed:Array Bool) (t:Tmp):Prop:=∃ i ∈ H,listed.getD i false=false∧(ops[i]?).bind (·.dst)=some t
theorem chain_waits {ops:Array Oper}:∀ (l1:List Nat) (c c':Nat) (l2:List Nat),chainOk ops (l1++c :: c' :: l2)=true→(ops[c']?).any (waits · c)=true
 | [],c,c',l2,h=>by
  simp only [List.nil_append,chainOk,bae] at h
  exact h.1
 | [x],c,c',l2,h=>by
  simp only [List.cons_append,List.nil_append,chainOk,bae] at h
  exact h.2.1
 | x :: y :: l1,c,c',l2,h=>by
  simp only [List.cons_append,chainOk,bae] at h
  exact chain_waits (y :: l1) c c' l2 h.2
theorem pairH_spec {ops:Array Oper}:∀ (l1 l2:List Nat),pairH ops (l1++l2)=true→(∀ i ∈ l1,∀ j ∈ l2,∃ o d,ops[i]?=some o∧o.dst=some d∧∀ e,(ops[j]?).bind (·.dst)=some e→e ∉ o.looksAt ops∧e ≠ d)∧pairH ops l2=true
 | [],l2,h=>⟨(fun i hi=>by cases hi),h⟩
 | x :: l1,l2,h=>by
  simp only [List.cons_append,pairH,bae] at h
  obtain ⟨g1,g2⟩:=pairH_spec l1 l2 h.2
  refine ⟨fun i hi j hj=>?_,g2⟩
  rcases List.mem_cons.1 hi with rfl | hi
  ·have h1:=h.1
   cases ho:ops[i]? with
   | none=>rw [ho] at h1; cases h1
   | some o =>
    rw [ho] at h1
    dsimp only at h1
    cases hd:o.dst with
    | none=>rw [hd] at h1; cases h1
    | some d =>
     rw [hd] at h1
     simp only [bae] at h1
     refine ⟨o,d,rfl,hd,fun e he=>?_⟩
     have h2:=zAT.1 h1.2 j (List.mem_append_right _ hj)
     rw [he] at h2
     simp only [bae,Bool.not_eq_true',bne_iff_ne] at h2
     refine ⟨fun hc=>?_,h2.2⟩
     have:=h2.1
     simp [hc] at this
  ·exact g1 i hi j hj
theorem pairH_self {ops:Array Oper} {j d:Nat} {o:Oper} (ho:ops[j]?=some o) (hd:o.dst=some d):∀ (l:List Nat),pairH ops l=true→j ∈ l→d ∉ o.looksAt ops:=by
 intro l
 induction l with
 | nil=>intro _ h; cases h
 | cons x l ihl =>
  intro hp hm
  simp only [pairH,bae] at hp
  rcases List.mem_cons.1 hm with rfl | hm
  ·have:=hp.1
   simp only [ho,hd,bae,Bool.not_eq_true'] at this
   intro hc
   simp [hc] at this
  ·exact ihl hp.2 hm
theorem pairH_left {ops:Array Oper}:∀ (l1 l2:List Nat),pairH ops (l1++l2)=true→pairH ops l1=true
 | [],_,_=>rfl
 | x :: l1,l2,h=>by
  simp only [List.cons_append,pairH,bae] at h ⊢
  refine ⟨?_,pairH_left l1 l2 h.2⟩
  have h1:=h.1
  cases ho:ops[x]? with
  | none=>rw [ho] at h1; cases h1
  | some o =>
   rw [ho] at h1
   dsimp only at h1 ⊢
   cases hd:o.dst with
   | none=>rw [hd] at h1; cases h1
   | some d =>
    rw [hd] at h1
    simp only [bae,List.all_append] at h1 ⊢
    exact ⟨h1.1,h1.2.1⟩
theorem stageOk_mem {ops:Array Oper} {L:List Nat}:∀ (hv cur:List Nat) (ch:List (Nat × List Nat)),stageOk ops L hv cur ch=true→∀ c hs,(c,hs) ∈ ch→∀ i ∈ hs,waitsT ops.size ops i c=true
 | _,_,[],_,c,hs,h,_,_=>by cases h
 | hv,cur,(c0,hs0) :: r,h,c,hs,hm,i,hi=>by
  simp only [stageOk,bae] at h
  rcases List.mem_cons.1 hm with e | hm
  ·cases e
   exact zAT.1 h.1.1.2 i hi
  ·exact stageOk_mem (hv++hs0) hs0 r h.2 c hs hm i hi
def dstsOf (ops:Array Oper):List Tmp:=ops.toList.filterMap (·.dst)
def dropS (ops:Array Oper) (s:St):St:=⟨s.T.filter (fun p=>!(dstsOf ops).contains p.1),s.H⟩
theorem look_filter (f:Nat→Bool):∀ (T:List (Nat × AV)) (t:Nat) (x:AV),look (T.filter (fun p=>f p.1)) t=some x→look T t=some x∧f t=true
 | [],t,x,h=>by cases h
 | (k,v) :: T,t,x,h=>by
  simp only [List.filter_cons] at h
  by_cases hk:f k=true
  ·simp only [hk,if_true,look] at h
   simp only [look]
   by_cases e:k=t
   ·subst e; simp only [if_true] at h ⊢; exact ⟨h,hk⟩
   ·simp only [e,if_false] at h ⊢; exact look_filter f T t x h
  ·simp only [hk] at h
   obtain ⟨h1,h2⟩:=look_filter f T t x (by simpa using h)
   simp only [look]
   have:k ≠ t:=fun e=>hk (e ▸ h2)
   simp only [this,if_false]
   exact ⟨h1,h2⟩
def qh {R:Type} (ops:Array Oper) (Q:R→AX→St→Prop):R→AX→St→Prop:=fun r x s=>match x with | .normal=>Q r .normal s | .panic v=>Q r (.panic v) (dropS ops s) | _=>False
theorem rel_agree {N:Nat} {D:DB} {φ:Nat→Nat} {M0:Mset} {ops:Array Oper} {a b:Act} {w:World} {s:St} {X:Tmp→Prop} (h:Agree X a b) (hX:∀ t,X t→t ∈ dstsOf ops) (r:Rel φ M0 N D (look s.T) (look s.H) b w):Rel φ M0 N D (look (dropS ops s).T) (look (dropS ops s).H) a w:=by
 refine ⟨?_,by rw [h.2.1]; exact r.siz,r.hp,fun t x ht=>?_⟩
 ·have:=r.dfs
  unfold Marks at this ⊢
  rw [h.1]
  exact this
 ·obtain ⟨h1,h2⟩:=look_filter (fun t=>!(dstsOf ops).contains t) s.T t x ht
  obtain ⟨g1,g2⟩:=r.tm t x h1
  refine ⟨g1,?_⟩
  have:a.tmps[t]?=b.tmps[t]?:=h.2.2 t (fun hc=>by
   have:=hX t hc
   simp [this] at h2)
  rw [Array.getD_eq_getD_getElem?,this,← Array.getD_eq_getD_getElem?]
  exact g2
theorem hst_run {P:Program} {N:Nat} {D:DB} {ops:Array Oper} {Q Qh:AX→St→Prop} {H L:List Nat} {Ch:List (Nat × List Nat)} {φ0:Nat→Nat} {h0:Heap} {w0:World} {M0:Mset} (hok:hstOk H L Ch ops=true) (hqn:∀ s,Qh .normal s→Q .normal s) (hqp:∀ v s,Qh (.panic v) s→Q (.panic v) (dropS ops s)) :
  ∀ (fuel:Nat) (done ch:List (Nat × List Nat)) (cur Hv:List Nat) (listed:Array Bool) (a b:Act) (w:World) (s:St) (φ:Nat→Nat),Ch=done++ch→Hv=H++(done.map (·.2)).flatten→(∀ i ∈ Hv,i ∉ L→i ∉ cur→listed.getD i false=true)→(∀ i ∈ cur,i ∈ Hv)→stageOk ops L Hv cur ch=true→listed.size=ops.size→unl listed ops.size≤fuel →
   (∀ (j:Nat) o,ops[j]?=some o→listed.getD j false=true→∀ e ∈ o.after,Region.binds .any e=true→listed.getD e.on false=true) →
   (∀ c ∈ done,listed.getD c.1 false=true)→(∀ c ∈ ch,listed.getD c.1 false=false)→Agree (lateX ops Hv listed) a b→Rel φ M0 N D (look s.T) (look s.H) b w→Evol φ0 h0 w0 φ (look s.H) w →
   (∀ i ∈ Hv,listed.getD i false=false→∃ o d v,ops[i]?=some o∧o.dst=some d∧b.tmps[d]?=some v∧(execOp b.eval o).run P w=.ok (.value v) w) →
   ExC P N ops Qh L ch s→wpAny P .any ops (Post N D Q φ0 M0 h0 w0) fuel listed a w:=by
 simp only [hstOk,bae,zDT] at hok
 obtain ⟨⟨⟨⟨⟨⟨⟨⟨⟨⟨hcov,hns⟩,hpair⟩,hchain⟩,hnd⟩,hdis⟩,hstage⟩,hgu⟩,hdown⟩,hreg⟩,hLr⟩:=hok
 have hgd:∀ (listed:Array Bool) (i:Nat),i < listed.size→listed.getD i true=listed.getD i false:=fun listed i hi=>by simp [hi]
 have hpan:∀ (X:Tmp→Prop) (a b:Act),Agree X a b→(∀ t,X t→t ∈ dstsOf ops)→∀ c w,Post N D Qh φ0 M0 h0 w0 (.panic c) b w→Post N D Q φ0 M0 h0 w0 (.panic c) a w:=by
  rintro X a b hag hX c w' ⟨φ',x,s',g1,g2,g3,g4⟩
  cases x with
  | normal=>cases g4
  | exit i=>cases g4
  | ret=>cases g4
  | panic v=>exact ⟨φ', .panic v,dropS ops s',hqp _ _ g1,rel_agree hag hX g2,g3,g4⟩
 have hout:∀ a w,¬ Post N D Qh φ0 M0 h0 w0 .outgrown a w:=fun a w h=>post_not_out ⟨a,w,h⟩
 have hXm:∀ (Hv:List Nat) (listed:Array Bool) (t:Tmp),lateX ops Hv listed t→t ∈ dstsOf ops:=by
  rintro Hv listed t ⟨i,_,_,hd⟩
  cases ho:ops[i]? with
  | none=>rw [ho] at hd; cases hd
  | some o =>
   rw [ho] at hd
   exact List.mem_filterMap.2 ⟨o,by have:=Array.mem_of_getElem? ho; simpa using this,hd⟩
 have hgn:∀ (j:Nat) o,ops[j]?=some o→o.guard=none:=by
  intro j o ho
  have:=zAT.1 hgu o (by have:=Array.mem_of_getElem? ho; simpa using this)
  simpa using this
 have hready:∀ (listed:Array Bool),listed.size=ops.size→Region.ready .any ops listed=[]→∀ i,i < ops.size→listed.getD i false=true:=by
  intro listed hsz hr i
  induction i using Nat.strongRecOn with
  | _ i ih =>
   intro hi
   cases hq:listed.getD i false with
   | true=>rfl
   | false =>
    have:i ∈ Region.ready .any ops listed:=by
     rw [mem_ready]
     refine ⟨by rw [hgd listed i zo]; exact hq,ops[i],Array.getElem?_eq_getElem hi,fun e he hb=>?_⟩
     have h1:=edgesDown_spec hdown i ops[i] (by simp [hi]) e he hb
     exact ih e.on zo zo
    rw [hr] at this
    cases this
 have hfin:∀ (listed:Array Bool) (ch:List (Nat × List Nat)) (Hv:List Nat) (a b:Act) (w:World) (s:St) (φ:Nat→Nat),(∀ i,i < ops.size→listed.getD i false=true)→(∀ c ∈ ch,listed.getD c.1 false=false)→Agree (lateX ops Hv listed) a b →
   Rel φ M0 N D (look s.T) (look s.H) b w→Evol φ0 h0 w0 φ (look s.H) w→ExC P N ops Qh L ch s→Post N D Q φ0 M0 h0 w0 .normal a w:=by
  intro listed ch Hv a b w s φ hall hch hag r E hx
  have hab:a=b:=act_ext hag (by
   rintro t ⟨i,hi,hl,hd⟩
   cases ho:ops[i]? with
   | none=>rw [ho] at hd; cases hd
   | some o=>rw [hall i (zGS.1 ho).1] at hl; cases hl)
  subst hab
  cases ch with
  | nil=>exact ⟨φ, .normal,s,hqn _ hx,r,E,rfl⟩
  | cons c ch =>
   exfalso
   obtain ⟨c,hs⟩:=c
   simp only [ExC] at hx
   cases ho:ops[c]? with
   | none=>rw [ho] at hx; exact hx
   | some o =>
    have:=hch (c,hs) List.mem_cons_self
    rw [hall c (zGS.1 ho).1] at this
    cases this
 intro fuel
 induction fuel with
 | zero =>
  intro done ch cur Hv listed a b w s φ hCh hHv hnl hcur hst hsz hu hcl hdo hch hag r E J hx
  have hall:∀ i,i < ops.size→listed.getD i false=true:=fun i hi=>by rw [← hgd listed i zo]; exact unl_zero (n:=ops.size) zo i hi
  refine ⟨List.eq_nil_iff_forall_not_mem.2 fun i hi=>?_,hfin listed ch Hv a b w s φ hall hch hag r E hx⟩
  obtain ⟨h1,o,ho,_⟩:=mem_ready.1 hi
  have hilt:=(zGS.1 ho).1
  rw [hgd listed i zo,hall i hilt] at h1
  cases h1
 | succ fuel ih =>
  intro done ch cur Hv listed a b w s φ hCh hHv hnl hcur hst hsz hu hcl hdo hch hag r E J hx
  refine ⟨fun hr=>hfin listed ch Hv a b w s φ (hready listed hsz hr) hch hag r E hx,fun j hj=>?_⟩
  obtain ⟨hun,o,ho,hall⟩:=mem_ready.1 hj
  have hjlt:j < ops.size:=(zGS.1 ho).1
  have hun':listed.getD j false=false:=by rw [← hgd listed j zo]; exact hun
  have hsel:∀ cs b,o.op ≠ .select cs b:=fun cs b=>Region.noSelect_spec hns j o cs b ho
  have hwant:∀ tm,Region.wanted o (yielded ops tm)=true:=fun tm=>by simp [Region.wanted,hgn j o ho]
  have hsubH:∀ i ∈ Hv,i ∈ allH H Ch:=by
   intro i hi
   rw [hHv] at hi
   unfold allH
   rw [hCh,List.map_append,List.flatten_append,← List.append_assoc]
   exact List.mem_append_left _ hi
  have eL:∀ k,(listed.setIfInBounds j true).getD k false=(listed.getD k false||decide (k=j)):=by
   intro k
   by_cases hkj:k=j
   ·subst hkj
    have:k < listed.size:=by omega
    simp [this]
   ·rw [getD_set_ne false (Ne.symm hkj)]
    simp [hkj]
  have hu':unl (listed.setIfInBounds j true) ops.size≤fuel:=by
   have:=unl_set hun ops.size
   rw [if_pos hjlt] at this
   omega
  have hcl':∀ (k:Nat) ok,ops[k]?=some ok→(listed.setIfInBounds j true).getD k false=true→∀ e ∈ ok.after,Region.binds .any e=true→(listed.setIfInBounds j true).getD e.on false=true:=by
   intro k ok hk hl e he hb
   rw [eL] at hl ⊢
   simp only [Bool.or_eq_true,zDT] at hl ⊢
   rcases hl with hl | hl
   ·exact .inl (hcl k ok hk hl e he hb)
   ·subst hl
    rw [ho] at hk
    cases hk
    exact .inl (hall e he hb)
  have hsee:∀ t ∈ o.looksAt ops,¬ lateX ops Hv listed t∨∃ d,o.dst=some d∧t=d∧j ∈ Hv:=by
   intro t ht
   by_cases hc:lateX ops Hv listed t
   rotate_left
   ·exact .inl hc
   obtain ⟨i,hi,hl,hd⟩:=hc
   have h1:=zAT.1 hreg i (hsubH i hi)
   rw [hd] at h1
   have h2:=zAT.1 h1 j (by simp [hjlt])
   simp only [ho,Bool.or_eq_true,beq_iff_eq,bae,Bool.not_eq_true',bne_iff_ne] at h2
   rcases h2 with rfl | ⟨_,h2 | h2⟩
   ·rw [ho] at hd
    exact .inr ⟨t,hd,rfl,hi⟩
   ·obtain ⟨e,he,hb,hon⟩:=waits_spec h2
    have:=hall e he hb
    rw [hon,hl] at this
    cases this
   ·simp [ht] at h2
  have hcase:=zAT.1 hcov j (by simp [hjlt])
  simp only [Bool.or_eq_true,List.contains_iff_mem] at hcase
  by_cases hjA:j ∈ allH H Ch
  ·
   have hjC:j ∉ Ch.map (·.1):=by
    have:=zAT.1 hdis j hjA
    simpa using this
   have hjH:j ∈ Hv:=by
    unfold allH at hjA
    rw [hCh,List.map_append,List.flatten_append,← List.append_assoc] at hjA
    rcases List.mem_append.1 hjA with h1 | h1
    ·rw [hHv]; exact h1
    ·exfalso
     obtain ⟨hs,h2,h3⟩:=List.mem_flatten.1 h1
     obtain ⟨⟨c,hs'⟩,h4,h5⟩:=List.mem_map.1 h2
     simp only at h5
     subst h5
     have hw:=stageOk_mem Hv cur ch hst c hs' h4 j h3
     have:=waitsT_spec hcl _ j c o ho hall hw
     rw [hch (c,hs') h4] at this
     cases this
   obtain ⟨o',d,v,ho',hd,hv,hrun⟩:=J j hjH hun'
   rw [ho] at ho'
   cases ho'
   have hself:d ∉ o.looksAt ops:=pairH_self ho hd (allH H Ch) hpair hjA
   have hsee':∀ t ∈ o.looksAt ops,¬ lateX ops Hv listed t:=by
    intro t ht
    rcases hsee t ht with h1 | ⟨d',h1,rfl,_⟩
    ·exact h1
    ·rw [hd] at h1
     cases h1
     exact absurd ht hself
   unfold wpOp
   simp only [ho,hwant,if_true]
   refine .inl ?_
   unfold Oper.wp
   rw [execOp_agree (ops:=ops) hag hsel hsee',hrun]
   simp only [Oper.upon]
   refine ih done ch cur Hv (listed.setIfInBounds j true) (a.put o.dst v) b w s φ hCh hHv (fun i hi h1 h2=>by rw [eL,hnl i hi h1 h2]; rfl) hcur hst (by simpa using hsz) hu' hcl' (fun c hc=>by rw [eL,hdo c hc]; rfl) ?_ ?_ r E ?_ hx
   ·intro c hc
    rw [eL,hch c hc]
    have:c.1 ≠ j:=fun e=>hjC (by rw [hCh,← e]; exact List.mem_map.2 ⟨c,List.mem_append_right _ hc,rfl⟩)
    simp [this]
   ·refine ⟨by rw [← hag.1,hd]; rfl,by rw [← hag.2.1,hd]; simp [Act.put],fun t ht=>?_⟩
    rw [hd]
    by_cases htd:d=t
    ·subst htd
     have hds:d < a.tmps.size:=by
      rw [hag.2.1]
      exact (zGS.1 hv).1
     rw [hv]
     simp [Act.put,hds]
    ·rw [← hag.2.2 t (fun hc=>ht (by
      obtain ⟨i,hi,hl,hdi⟩:=hc
      refine ⟨i,hi,?_,hdi⟩
      rw [eL,hl]
      have:i ≠ j:=fun e=>htd (by rw [e,ho] at hdi; exact Option.some.inj (hd.symm.trans hdi))
      simp [this]))]
     simp [Act.put,Array.getElem?_setIfInBounds_ne htd]
   ·intro i hi hl
    refine J i hi ?_
    rw [eL] at hl
    simp only [Bool.or_eq_false_iff] at hl
    exact hl.1
  ·
   have hjC:j ∈ Ch.map (·.1):=hcase.resolve_left hjA
   have hjH:j ∉ Hv:=fun h=>hjA (hsubH j h)
   have hjch:∃ hs r,ch=(j,hs) :: r:=by
    have hjC2:=hjC
    rw [hCh,List.map_append] at hjC2
    have hj1:j ∈ ch.map (·.1):=by
     rcases List.mem_append.1 hjC2 with h1 | h1
     ·obtain ⟨c,hc,rfl⟩:=List.mem_map.1 h1
      rw [hdo c hc] at hun'; cases hun'
     ·exact h1
    cases ch with
    | nil=>cases hj1
    | cons c r =>
     obtain ⟨c,hs⟩:=c
     by_cases hjc:j=c
     ·exact ⟨hs,r,by rw [hjc]⟩
     ·exfalso
      have hjr:j ∈ r.map (·.1):=(List.mem_cons.1 hj1).resolve_left hjc
      obtain ⟨r1,r2,hr12⟩:=List.append_of_mem hjr
      obtain ⟨q,x,hqx⟩:∃ q x,c :: r1=q++[x]:=⟨(c :: r1).dropLast,(c :: r1).getLast zq,(List.dropLast_concat_getLast zq).symm⟩
      have hsp:Ch.map (·.1)=(done.map (·.1)++q)++x :: j :: r2:=by
       rw [hCh,List.map_append,zMC,hr12,show c :: (r1++j :: r2)=(c :: r1)++j :: r2 from rfl,hqx]
       simp
      rw [hsp] at hchain
      have h1:=chain_waits _ _ _ _ hchain
      rw [ho] at h1
      obtain ⟨e,he,hb,hon⟩:=waits_spec (o:=o) (i:=x) h1
      have h2:=hall e he hb
      have hxm:x ∈ ((c,hs) :: r).map (·.1):=by
       rw [zMC,hr12,show c :: (r1++j :: r2)=(c :: r1)++j :: r2 from rfl,hqx]; simp
      obtain ⟨y,hy,rfl⟩:=List.mem_map.1 hxm
      have h3:=hch y hy
      rw [hon,h3] at h2
      cases h2
   obtain ⟨hs,rest,rfl⟩:=hjch
   have hseeC:∀ t ∈ o.looksAt ops,¬ lateX ops Hv listed t:=by
    intro t ht
    rcases hsee t ht with h1 | ⟨d',_,_,h1⟩
    ·exact h1
    ·exact absurd h1 hjH
   have hdst:∀ t,o.dst=some t→¬ lateX ops Hv listed t:=by
    rintro t ht ⟨i,hi,hl,hd⟩
    have h1:=zAT.1 hreg i (hsubH i hi)
    rw [hd] at h1
    have h2:=zAT.1 h1 j (by simp [hjlt])
    simp only [ho,Bool.or_eq_true,beq_iff_eq,bae,Bool.not_eq_true',bne_iff_ne] at h2
    rcases h2 with rfl | ⟨h2,_⟩
    ·exact hjH hi
    ·exact h2 ht
   simp only [ExC,ho] at hx
   simp only [stageOk,bae] at hst
   unfold wpOp
   simp only [ho,hwant,if_true]
   refine .inl ?_
   have hw:=exOp_ok hx r
   have hw2:=Go.Abs.Oper.wp_mono2 (K':=fun a' w'=>∃ φ' s',(lates P ops (lateL ops L j) s'∧∃ s'',runH P N ops hs s'=some s''∧ExC P N ops Qh L rest s'')∧Rel φ' M0 N D (look s'.T) (look s'.H) a' w'∧Evol φ (look s.H) w φ' (look s'.H) w') (Q':=Post N D Qh φ0 M0 h0 w0) hw (fun _ _ h=>h) (fun e a' w' p=>p.trans E)
   refine Oper.wp_mono ?_ (wp_agree (ops:=ops) hag hsel hseeC hdst (hpan _ _ _ hag (hXm _ _)) hout hw2)
   rintro a' w' ⟨b',hag',hbX,φ',s',⟨hl',s'',hrunH,hx'⟩,r',E'⟩
   have hdone:∀ i ∈ Hv,i ∉ L→listed.getD i false=true:=by
    intro i hi hiL
    by_cases hic:i ∈ cur
    ·have h1:=zAT.1 hst.1.1.1 i hic
     simp only [Bool.or_eq_true,List.contains_iff_mem] at h1
     rcases h1 with h1 | h1
     ·exact absurd h1 hiL
     ·exact waitsT_spec hcl _ j i o ho hall h1
    ·exact hnl i hi hiL hic
   have hall2:allH H Ch=Hv++(hs++(rest.map (·.2)).flatten):=by
    unfold allH
    rw [hCh,hHv,List.map_append,List.flatten_append,zMC,List.flatten_cons,List.append_assoc]
   have hpair2:=hpair
   rw [hall2] at hpair2
   obtain ⟨pp1,pp2⟩:=pairH_spec Hv _ hpair2
   have pp3:=pairH_left _ _ pp2
   obtain ⟨b2,rb,hH2,hag2,hJ2⟩:=runH_ok hns hs s' s'' b' w' pp3 hrunH r'
   have hhs:∀ i ∈ hs,listed.getD i false=false∧i ≠ j:=by
    intro i hi
    have hw:=zAT.1 hst.1.1.2 i hi
    refine ⟨?_,fun e=>hjA (by rw [hall2,← e]; exact List.mem_append_right _ (List.mem_append_left _ hi))⟩
    cases hq:listed.getD i false with
    | false=>rfl
    | true =>
     exfalso
     obtain ⟨oi,_,_,hoi,_⟩:=hJ2 i hi
     have:=waitsT_spec hcl _ i j oi hoi (fun e he hb=>hcl i oi hoi hq e he hb) hw
     rw [hun'] at this
     cases this
   have hxs:∀ t,dstX ops hs t→lateX ops (Hv++hs) (listed.setIfInBounds j true) t:=by
    rintro t ⟨i,hi,hd⟩
    refine ⟨i,List.mem_append_right _ hi,?_,hd⟩
    rw [eL,(hhs i hi).1]
    simp [(hhs i hi).2]
   have hxo:∀ t,lateX ops Hv listed t→lateX ops (Hv++hs) (listed.setIfInBounds j true) t:=by
    rintro t ⟨i,hi,hl,hd⟩
    refine ⟨i,List.mem_append_left _ hi,?_,hd⟩
    rw [eL,hl]
    have:i ≠ j:=fun e=>hjH (e ▸ hi)
    simp [this]
   refine ih (done++[(j,hs)]) rest hs (Hv++hs) (listed.setIfInBounds j true) a' b2 w' s'' φ' (by rw [hCh]; simp) (by rw [hHv,List.map_append,List.flatten_append]; simp) ?_ (fun i hi=>List.mem_append_right _ hi) hst.2 (by simpa using hsz) hu' hcl' (fun c hc=>by
    rw [eL]
    rcases List.mem_append.1 hc with h1 | h1
    ·rw [hdo c h1]; rfl
    ·rw [List.mem_singleton] at h1
     simp [h1]) ?_ ⟨hag'.1.trans hag2.1,hag'.2.1.trans hag2.2.1,fun t ht=>(hag'.2.2 t (fun hc=>ht (hxo t hc))).trans (hag2.2.2 t (fun hc=>ht (hxs t hc)))⟩ rb (by rw [hH2]; exact E.trans E') ?_ hx'
   ·intro i hi hiL hic
    rcases List.mem_append.1 hi with hi | hi
    ·rw [eL,hdone i hi hiL]; rfl
    ·exact absurd hi hic
   ·intro c hc
    rw [eL,hch c (List.mem_cons_of_mem _ hc)]
    have:c.1 ≠ j:=by
     intro e
     rw [hCh,List.map_append,zMC] at hnd
     have h2:=(List.nodup_append.1 hnd).2.1
     exact (List.nodup_cons.1 h2).1 (List.mem_map.2 ⟨c,hc,e⟩)
    simp [this]
   ·intro i hi hl
    rcases List.mem_append.1 hi with hiv | hih
    rotate_left
    ·exact hJ2 i hih
    rw [eL] at hl
    simp only [Bool.or_eq_false_iff] at hl
    have hiL:i ∈ L:=by
     apply Classical.byContradiction
     intro hc
     rw [hdone i hiv hc] at hl
     cases hl.1
    obtain ⟨oi,d,v,hoi,hdi,hvi,hri⟩:=J i hiv hl.1
    have hvb:b'.tmps[d]?=some v:=by rw [hbX d (fun e=>hdst d e ⟨i,hiv,hl.1,by rw [hoi]; exact hdi⟩)]; exact hvi
    have hnX:∀ t,t ∈ oi.looksAt ops∨t=d→¬ dstX ops hs t:=by
     rintro t ht ⟨k,hk,hkd⟩
     obtain ⟨o2,d2,h1,h2,h3⟩:=pp1 i hiv k (List.mem_append_left _ hk)
     rw [hoi] at h1
     cases h1
     rw [hdi] at h2
     cases h2
     obtain ⟨h4,h5⟩:=h3 t hkd
     rcases ht with ht | ht
     ·exact h4 ht
     ·exact h5 ht
    have hseli:∀ cs b,oi.op ≠ .select cs b:=fun cs b=>Region.noSelect_spec hns i oi cs b hoi
    refine ⟨oi,d,v,hoi,hdi,by rw [← hag2.2.2 d (hnX d (.inr rfl))]; exact hvb,?_⟩
    rw [← execOp_agree (ops:=ops) hag2 hseli (fun t ht=>hnX t (.inl ht))]
    have hnw:waitsT ops.size ops j i=false:=by
     cases hq:waitsT ops.size ops j i with
     | false=>rfl
     | true =>
      have:=waitsT_spec hcl _ j i o ho hall hq
      rw [hl.1] at this
      cases this
    have hnw2:waitsT ops.size ops i j=false:=by
     have:=zAT.1 hst.1.2 i hiv
     simpa using this
    have h1:=hl' i (List.mem_filter.2 ⟨hiL,by rw [hnw,hnw2]; rfl⟩)
    unfold lateI at h1
    simp only [hoi] at h1
    split at h1
    ·rename_i x d' hop hd'
     have hri':b.eval x=v:=by
      simp [execOp,hop] at hri
      exact hri
     have hxe:b'.eval x=b.eval x:=by
      cases x with
      | tmp t =>
       have hne:o.dst ≠ some t:=by
        intro e
        have h2:=zAT.1 hLr i hiL
        simp only [hoi,hop,Bool.true_and,Bool.not_true,Bool.or_false] at h2
        have h3:=zAT.1 h2 j hjC
        simp only [ho,obs,e,Bool.not_eq_true'] at h3
        have:t ∈ oi.looksAt ops:=List.mem_append_left _ (List.mem_filterMap.2 ⟨.tmp t,by simp [hop,Op.operands],rfl⟩)
        simp [this] at h3
       simp only [Act.eval]
       rw [Array.getD_eq_getD_getElem?,Array.getD_eq_getD_getElem?,hbX t hne]
      | _=>rfl
     simp [execOp,hop,hxe,hri']
    ·rename_i d' hd' hop
     obtain ⟨x,h2,h3,h4⟩:=h1
     obtain ⟨v',h5,h6⟩:=aRead_ok r' h2
     rw [hdi] at hd'
     cases hd'
     have h7:=(r'.tm d x h3).2
     rw [Array.getD_eq_getD_getElem?,hvb] at h7
     have:=exact_one h4 h6 h7
     rw [h5,this]
     rfl
    ·cases h1
theorem ex_hst {P:Program} {N:Nat} {ro:Option Nat} {id:Nat} {ops:Array Oper} {s s1:St} {R:Type} {r0:R} {Q:R→AX→St→Prop} (H L:List Nat) (Ch:List (Nat × List Nat)) (hm:P.follows .mixedOrders=true) (hnd:noDefer ops=true) (hok:hstOk H L Ch ops=true) (h1:runH P N ops H s=some s1)
  (h:ExC P N ops (qh ops Q r0) L Ch s1):Ex P N ro (.region id ops true) s (Q r0):=by
 intro φ M0 D a w r
 refine wpIn_region_any hm (any_in hnd post_not_out _ _ _ _ ?_)
 have hd:Evol φ (look s.H) w φ (look s.H) { w with drawn:=w.drawn+1 }:=evol_heap rfl rfl rfl rfl
 have r1:Rel φ M0 N D (look s.T) (look s.H) a { w with drawn:=w.drawn+1 }:=r.keep hd (hext_heap rfl) (relH_heap (w:=w) rfl hd r.hp)
 have hok':=hok
 simp only [hstOk,bae,zDT] at hok'
 obtain ⟨⟨⟨⟨⟨⟨⟨⟨⟨⟨hcov,hns⟩,hpair⟩,hchain⟩,hnd'⟩,hdis⟩,hstage⟩,hgu⟩,hdown⟩,hreg⟩,hLr⟩:=hok'
 obtain ⟨b,rb,hH,hag,hJ⟩:=runH_ok hns H s s1 a _ (pairH_left H _ hpair) h1 r1
 have hlf:∀ (j:Nat),(Array.replicate ops.size false).getD j false=false:=by
  intro j
  rcases Nat.lt_or_ge j ops.size with h | h
  ·simp [h]
  ·simp [h]
 have hunl:∀ n,unl (Array.replicate ops.size false) n≤n:=by
  intro n
  induction n with
  | zero=>simp [unl]
  | succ n ih=>simp only [unl]; split <;> omega
 have h2:=hst_run (D:=D) (φ0:=φ) (h0:=look s.H) (w0:=w) (M0:=M0) hok (Q:=Q r0) (Qh:=qh ops Q r0) (fun _ h=>h) (fun _ _ h=>h) ops.size [] Ch H H (Array.replicate ops.size false) a b { w with drawn:=w.drawn+1 } s1 φ rfl zq (fun i hi _ hc=>absurd hi hc) (fun i hi=>hi) hstage zq (hunl _) (fun j o _ hj=>by rw [hlf] at hj; cases hj) (fun c hc=>by cases hc) (fun c _=>hlf c.1)
  ⟨hag.1,hag.2.1,fun t ht=>hag.2.2 t (fun hc=>ht (by obtain ⟨i,hi,hdi⟩:=hc; exact ⟨i,hi,hlf i,hdi⟩))⟩ rb (by rw [hH]; exact hd) (fun i hi _=>hJ i hi) h
 refine wpAny_monoQ ?_ _ _ _ _ h2
 exact fun e a' w' h=>h
structure SimH {R:Type} (a:Option R) (P:Program) (N:Nat) (ops:Array Oper) (Q:R→AX→St→Prop) (L:List Nat) (Ch:List (Nat × List Nat)) (s:St):Prop where
 intro ::
 h:∀ r,a=some r→ExC P N ops (qh ops Q r) L Ch s
def fKh {R:Type} (P:Program) (N:Nat) (ops:Array Oper) (Q:R→AX→St→Prop) (L:List Nat) (Ch:List (Nat × List Nat)) (c:Nat) (hs:List Nat):R→St→Prop:=fun r s=>lates P ops (lateL ops L c) s∧∃ s'',runH P N ops hs s=some s''∧ExC P N ops (qh ops Q r) L Ch s''
section
variable {R V E:Type} {a a1 a2:Option R} {P:Program} {N:Nat} {ro:Option Nat} {id:Nat} {ops:Array Oper} {o:Oper} {s s1 s':St} {Q:R→AX→St→Prop} {f:FuncId} {args args':List AV} {dst:Option Tmp} {L hs:List Nat} {Ch:List (Nat × List Nat)} {c i:Nat}
theorem sim_hst (H L:List Nat) (Ch:List (Nat × List Nat)) (hm:P.follows .mixedOrders=true) (hd:noDefer ops=true) (hok:hstOk H L Ch ops=true) (h1:(runH P N ops H s).isSome=true) (h:SimH a P N ops Q L Ch ((runH P N ops H s).getD s)):SimE a P N ro (.region id ops true) s Q:=by
 obtain ⟨s1,e⟩:=zIE.1 h1
 rw [e] at h
 exact ⟨fun r hr=>ex_hst H L Ch hm hd hok e (h.h r hr)⟩
theorem lates_nil:lates P ops [] s:=fun i hi=>by cases hi
theorem lates_cons (h1:lateI P ops i s) (h2:lates P ops L s):lates P ops (i :: L) s:=fun j hj=>by
 rcases List.mem_cons.1 hj with rfl | hj
 ·exact h1
 ·exact h2 j hj
theorem late_readE (x:AV) (h:(ops[i]?).bind (fun o=>o.dst.bind fun d=>(aRead P o (look s.T) (look s.H)).bind fun y=>(look s.T d).map fun z=>(y,z))=some (x,x)) (hx:Exact (look s.H) x):lateI P ops i s:=by
 unfold lateI
 cases ho:ops[i]? with
 | none=>rw [ho] at h; cases h
 | some o =>
  rw [ho,obs] at h
  cases hd:o.dst with
  | none=>rw [hd] at h; cases h
  | some d =>
   rw [hd,obs] at h
   obtain ⟨y,hy,h2⟩:=zBS.1 h
   obtain ⟨z,hz,h3⟩:=zMS.1 h2
   simp only [zPJ] at h3
   obtain ⟨rfl,rfl⟩:=h3
   dsimp only
   rw [hd]
   split
   ·trivial
   ·rename_i he hop
    cases he
    exact ⟨_,hy,hz,hx⟩
   ·rename_i he; cases he
theorem late_read (x:AV) (h:(ops[i]?).bind (fun o=>o.dst.bind fun d=>(aRead P o (look s.T) (look s.H)).bind fun y=>(look s.T d).map fun z=>(y,z))=some (x,x)) (hx:exactA x=true):lateI P ops i s:=late_readE x h (.inl hx)
theorem late_tsl {S t ty:Nat} {es:List (List PV)} (h:(ops[i]?).bind (fun o=>o.dst.bind fun d=>(aRead P o (look s.T) (look s.H)).bind fun y=>(look s.T d).map fun z=>(y,z))=some (.tsl S es t, .tsl S es t)) (hx:look s.H t=some (.arr ty S es.length)) (hS:Nat.ble 1 S=true):lateI P ops i s:=late_readE _ h (.inr ⟨S,es,t,ty,rfl,hx,Nat.le_of_ble_eq_true hS⟩)
theorem h_end (h:SimQ a Q .normal s):SimH a P N ops Q L [] s:=⟨fun r hr=>h.h r hr⟩
theorem kh (L':List Nat) (hL:lateL ops L c=L') (hl:lates P ops L' s) (h1:(runH P N ops hs s).isSome=true) (h:SimH a P N ops Q L Ch ((runH P N ops hs s).getD s)):SimK a (fKh P N ops Q L Ch c hs) s:=by
 obtain ⟨s1,e⟩:=zIE.1 h1
 rw [e] at h
 exact ⟨fun r hr=>⟨hL ▸ hl,s1,e,h.h r hr⟩⟩
def stepC (P:Program) (N:Nat) (ops:Array Oper) (c:Nat) (s:St):Option St:=(ops[c]?).bind (fun o=>match o.op with | .pick ..=>none | .panic _=>none | .call ⟨.value _,_,_⟩=>none | _=>if dstLt N o.dst then (aop P o (look s.T) (look s.H)).map (fun u=>put' s o.dst u) else none)
theorem h_op (L':List Nat) (hL:lateL ops L c=L') (h0:(stepC P N ops c s).isSome=true) (hl:lates P ops L' ((stepC P N ops c s).getD s)) (h:SimH a P N ops Q L Ch ((stepC P N ops c s).getD s)):SimH a P N ops Q L ((c,[]) :: Ch) s:=by
 obtain ⟨s',h1⟩:=zIE.1 h0
 rw [h1] at hl h
 simp only [Option.getD_some] at hl h
 unfold stepC at h1
 refine ⟨fun r hr=>?_⟩
 simp only [ExC]
 cases ho:ops[c]? with
 | none=>rw [ho] at h1; cases h1
 | some o =>
  simp only [ho,obs] at h1 ⊢
  unfold ExOp
  split at h1
  ·cases h1
  ·cases h1
  ·cases h1
  ·rename_i n1 n2 n3
   split at h1
   rotate_left
   ·cases h1
   rename_i hdl
   obtain ⟨u,hu,rfl⟩:=zMS.1 h1
   have key:ExRes N o s (fun s'=>lates P ops (lateL ops L c) s'∧∃ s'',runH P N ops [] s'=some s''∧ExC P N ops (qh ops Q r) L Ch s'') (aop P o (look s.T) (look s.H)):=by
    rw [hu]
    exact ⟨hdl,hL ▸ hl,_,rfl,h.h r hr⟩
   split
   ·rename_i he; exact absurd he (n1 _ _ _)
   ·rename_i he; exact absurd he (n2 _)
   ·rename_i he; exact absurd he (n3 _ _ _)
   ·exact .inl key
theorem h_enter (hf:(ops[c]?).bind (fun o=>(callOf (look s.T) o.op).map fun p=>(p.1,p.2,o.dst))=some (f,args,dst)) (hb:bodyOk P f=true) (h:SimC a P N f args dst s (fKh P N ops Q L Ch c hs) (qh ops Q)):SimH a P N ops Q L ((c,hs) :: Ch) s:=by
 refine ⟨fun r hr=>?_⟩
 simp only [ExC]
 cases ho:ops[c]? with
 | none=>rw [ho] at hf; cases hf
 | some o =>
  simp only [ho,obs] at hf ⊢
  obtain ⟨⟨f0,args0⟩,h1,h2⟩:=zMS.1 hf
  simp only [zPJ] at h2
  obtain ⟨rfl,rfl,rfl⟩:=h2
  exact exOp_call h1 hb (h.h r hr)
theorem qh_p {v:AV} (s':St) (e:dropS ops s=s') (h:SimQ a Q (.panic v) s'):SimQ a (qh ops Q) (.panic v) s:=by
 subst e
 exact ⟨fun r hr=>h.h r hr⟩
theorem h_if {b:Bool} {u:Res} (L':List Nat) (ho:ops[c]?=some o) (hL:lateL ops L c=L') (hp:(plain o.op&&dstLt N o.dst)=true) (hu:b=true→aop P o (look s.T) (look s.H)=some u) (hl:b=true→lates P ops L' (put' s o.dst u)) (h:SimH a P N ops Q L Ch (put' s o.dst u)):SimH (cond b a none) P N ops Q L ((c,[]) :: Ch) s:=by
 cases b with
 | false=>exact ⟨fun r hr=>by cases hr⟩
 | true =>
  refine ⟨fun r hr=>?_⟩
  simp only [bae] at hp
  simp only [ExC,ho]
  unfold ExOp
  have key:ExRes N o s (fun s'=>lates P ops (lateL ops L c) s'∧∃ s'',runH P N ops [] s'=some s''∧ExC P N ops (qh ops Q r) L Ch s'') (aop P o (look s.T) (look s.H)):=by
   rw [hu rfl]
   exact ⟨hp.2,hL ▸ hl rfl,_,rfl,h.h r hr⟩
  split
  ·rename_i he; rw [he] at hp; cases hp.1
  ·rename_i he; rw [he] at hp; cases hp.1
  ·rename_i he; rw [he] at hp; cases hp.1
  ·exact .inl key
theorem sc_ro {m:Option V} {k:V→Option R} {X:V→AV} {K:R→St→Prop} (C:List RoC) (hc:∀ v,m=some v→PCall P f args' (.ret (X v))) (ha:roAs (look s.H) C args=some args') (hb:(dstLt N dst&&noRefs args')=true) (hx:∀ v,flat (X v)=true)
  (h:∀ v,SimK (k v) K (St.put s dst (X v))):SimC (m.bind k) P N f args dst s K Q:=by
 refine ⟨fun r hr=>?_⟩
 obtain ⟨v,hv,hk⟩:=zBS.1 hr
 simp only [bae] at hb
 exact call_ro (hc v hv) (roAs_spec ha) hb.2 (dstLt_spec hb.1) ⟨hx v,(h v).h r hk⟩
end
section
variable {R V E:Type} {a a1 a2:Option R} {P:Program} {N:Nat} {ro:Option Nat} {ops:Array Oper} {o:Oper} {l:List Oper} {s s' s0 s1:St} {Q:R→AX→St→Prop} {K:R→St→Prop} {f g:FuncId} {args args':List AV} {dst:Option Tmp}
def iR (hc:List (Nat × Blk)) (ρ:Nat→Nat) (s:St) (dst:Option Tmp) (K:R→St→Prop) (Q:R→AX→St→Prop) (r:R):AEnd→Heap→Prop:=fun x h'=>∃ hc',h'=look hc'∧outDom ρ hc hc' s.H∧outK (K r) (Q r) s dst ρ hc' x
def dI (P:Program) (fn:Func) (hc:List (Nat × Blk)) (N:Nat) (g:FuncId) (LD:List (Nat × Nat)) (ρ:Nat→Nat) (s:St) (dst:Option Tmp) (K:R→St→Prop) (Q:R→AX→St→Prop):R→AX→St→Prop :=
 fun r=>deferQ2 P fn hc N g (capsL LD) (iR hc ρ s dst K Q r)
def capOk (T:List (Nat × AV)):List Tmp→List (Nat × Nat)→Bool
 | [],[]=>true
 | t :: ts,p :: L=>(match look T t with | some (.ptr b 0)=>b == p.1 | _=>false)&&capOk T ts L
 | _,_=>false
theorem capOk_spec {T:List (Nat × AV)}:∀ {ts:List Tmp} {L:List (Nat × Nat)},capOk T ts L=true→ts.map (look T)=L.map fun p=>some (.ptr p.1 0)
 | [],[],_=>rfl
 | [],_ :: _,h=>by cases h
 | _ :: _,[],h=>by cases h
 | t :: ts,p :: L,h=>by
  simp only [capOk,bae] at h
  simp only [zMC,List.cons.injEq]
  refine ⟨?_,capOk_spec h.2⟩
  have h1:=h.1
  split at h1
  ·rename_i b he
   rw [he,eq_of_beq h1]
  ·cases h1
def noFL:List (Nat × Blk)→Bool
 | []=>true
 | (_,k) :: l=>(match k.ob with | none=>true | some .mp=>true | _=>false)&&noFL l
theorem noFL_ren {ρ:Nat→Nat}:∀ {H:List (Nat × Blk)},noFL H=true→∀ c k x,look H c=some k→k.ob=some x→(some x).map (renO ρ)=some x
 | [],_,c,k,x,hk,_=>by simp [look] at hk
 | (b,k0) :: H,hn,c,k,x,hk,hx=>by
  simp only [noFL,bae] at hn
  simp only [look] at hk
  by_cases e:b=c
  ·simp only [e,if_true,sie] at hk
   subst hk
   have h1:=hn.1
   rw [hx] at h1
   cases x with
   | mp=>rfl
   | lp=>cases h1
  ·rw [if_neg e] at hk
   exact noFL_ren hn.2 c k x hk hx
def defOk2 (tbs:List Tmp) (LD:List (Nat × Nat)) (s:St):Bool:=capOk s.T tbs LD&&sgOk LD s.H&&noFL s.H
theorem sc_inlineD {fn:Func} {n:Nat} {hc:List (Nat × Blk)} (L:List (Nat × Nat)) (C:List Conv) (cb:List (Nat × List Conv)) (F:Deferrer2 fn g) (LD:List (Nat × Nat)) (hf:P.funcs[f]?=some fn) (hn:fn.ntmps=n) (hl:Nat.ble args'.length n=true)
  (hargs:cvs C args=rens (rho L) args') (hok:handOk N dst (rho L) hc args'=true) (hsub:handB s.H (rho L) cb hc=hc.map (fun p=>some (renB (rho L) p.2))) (hbg:bodyOk P g=true) (hm:P.follows .mixedOrders=true)
  {id:Nat} {ops:Array Oper} (hr1:F.r1=.region id ops false) (h1:(regRun P n ops false ⟨argsT 0 args',hc⟩).isSome=true) (h2:defOk2 F.tbs LD (regSt P n ops false ⟨argsT 0 args',hc⟩)=true)
  (h:SimE a P n none F.rest ⟨(F.tc, .fn (.func g) [] (capsL LD)) :: sgT LD (regSt P n ops false ⟨argsT 0 args',hc⟩).T,sgH LD (regSt P n ops false ⟨argsT 0 args',hc⟩).H⟩ (dI P fn hc n g LD (rho L) s dst K Q)):SimC a P N f args dst s K Q:=by
 subst hn
 refine ⟨fun r hr=>?_⟩
 obtain ⟨s1,hs1⟩:=zIE.1 h1
 have e:regSt P fn.ntmps ops false ⟨argsT 0 args',hc⟩=s1:=by simp [regSt,hs1]
 rw [e] at h2 h
 simp only [defOk2,bae] at h2
 simp only [handOk,bae] at hok
 obtain ⟨⟨⟨⟨k1,k2⟩,k3⟩,k4⟩,k5⟩:=hok
 have hA:ACall P f args' (look hc) (iR hc (rho L) s dst K Q r):=by
  refine acall_defer2 F LD hf (Nat.le_of_ble_eq_true hl) hbg ?_
  rw [hr1]
  exact ex_regRun hm hs1 ⟨rfl,capOk_spec h2.1.1,h2.1.2,noFL_ren h2.2,h.h r hr⟩
 refine call_frame (rho L) hA (hargs ▸ cvs_les C args) k2 (fun c hc=>by simpa using zAT.1 k3 c hc) (okH_look k4) (handB_spec hsub) (injB_spec k5) (dstLt_spec k1) ?_
 rintro x h' ⟨hc',rfl,hd,hk⟩
 refine ⟨hc',backH (rho L) hc' s.H,rfl,hd,fun _=>rfl,?_⟩
 cases x with
 | ret x=>exact hk
 | panic x=>exact hk
def clQ (P:Program) (gn:Func) (hcg:List (Nat × Blk)) (ρg:Nat→Nat) (s:St) (J:R→AX→St→Prop):R→AX→St→Prop :=
 fun r=>bodyN P gn hcg (fun x h'=>∃ hc',h'=look hc'∧outDom ρg hcg hc' s.H∧(match x with | .ret _=>J r .ret ⟨s.T,backH ρg hc' s.H⟩ | .panic _=>False))
def recV:AX→AV
 | .panic v=>v
 | _=>nilI
def isEx:AX→Bool
 | .exit _=>true
 | _=>false
theorem dI_end {fn:Func} {hc:List (Nat × Blk)} {ρ:Nat→Nat} {LD:List (Nat × Nat)} {x:AX} (Cr:Recoverer P g) (Lg:List (Nat × Nat)) (hcg:List (Nat × Blk)) (rv':AV) (caps':List AV) (cb:List (Nat × List Conv)) (hx:isEx x=false) (hl:Nat.ble caps'.length Cr.fn.ntmps=true)
  (hargs:recV x :: capsL LD=rens (rho Lg) (rv' :: caps')) (hok:handOk N none (rho Lg) hcg (rv' :: caps')=true) (hsub:handB s.H (rho Lg) cb hcg=hcg.map (fun p=>some (renB (rho Lg) p.2)))
  (h:SimE a P Cr.fn.ntmps none Cr.rest ⟨(Cr.d2,rv') :: (Cr.d1,rv') :: argsT 0 caps',hcg⟩ (clQ P Cr.fn hcg (rho Lg) s (inlQ P fn hc ρ s0 dst K Q))):SimQ a (dI P fn hc N g LD ρ s0 dst K Q) x s:=by
 refine ⟨fun r hr=>?_⟩
 simp only [handOk,bae] at hok
 obtain ⟨⟨⟨⟨k1,k2⟩,k3⟩,k4⟩,k5⟩:=hok
 have key:DEx P N g (recV x :: capsL LD) s (endR P fn hc (iR hc ρ s0 dst K Q r)):=by
  refine dex_frame (rho Lg) (dcall_of_ex Cr (Nat.le_of_ble_eq_true hl) (h.h r hr)) (by rw [hargs]; exact les_refl _) k2 (fun c hc=>by simpa using zAT.1 k3 c hc) (okH_look k4) (handB_spec hsub) (injB_spec k5) ?_
  rintro y h' ⟨hc',rfl,hd,hk⟩
  refine ⟨hc',backH (rho Lg) hc' s.H,rfl,hd,fun _=>rfl,?_⟩
  cases y with
  | ret y=>exact hk
  | panic y=>exact hk
 cases x with
 | normal=>exact key
 | ret=>exact key
 | panic v=>exact key
 | exit i=>cases hx
theorem cl_end {gn:Func} {hcg:List (Nat × Blk)} {ρg:Nat→Nat} {J:R→AX→St→Prop} {x:AX} (hx:x=.ret∨x=.normal) (bs:List Nat) (cb:List (Nat × List Conv)) (h:resA P gn (look s1.T) (look s1.H)=some (.tup []))
  (hok:inlOk ρg hcg (pickH cb s1.H bs) s (.tup [])=true) (hk:SimQ a J .ret ⟨s.T,backH ρg (pickH cb s1.H bs) s.H⟩):SimQ a (clQ P gn hcg ρg s J) x s1:=by
 simp only [inlOk,okOut,bae] at hok
 refine ⟨fun r hr=>?_⟩
 have:endR P gn hcg (fun x h'=>∃ hc',h'=look hc'∧outDom ρg hcg hc' s.H∧(match x with | .ret _=>J r .ret ⟨s.T,backH ρg hc' s.H⟩ | .panic _=>False)) s1 :=
  ⟨_,_,pickH cb s1.H bs,h,le_refl _,hok.1.1.1,subH_pick hok.1.1.2,hok.1.2,_,rfl,frameOk_spec hok.2,hk.h r hr⟩
 rcases hx with rfl | rfl <;> exact this
theorem cl_ret {gn:Func} {hcg:List (Nat × Blk)} {ρg:Nat→Nat} {J:R→AX→St→Prop} (bs:List Nat) (cb:List (Nat × List Conv)) (h:resA P gn (look s1.T) (look s1.H)=some (.tup []))
  (hok:inlOk ρg hcg (pickH cb s1.H bs) s (.tup [])=true) (hk:SimQ a J .ret ⟨s.T,backH ρg (pickH cb s1.H bs) s.H⟩):SimQ a (clQ P gn hcg ρg s J) .ret s1:=cl_end (.inl rfl) bs cb h hok hk
theorem cl_n {gn:Func} {hcg:List (Nat × Blk)} {ρg:Nat→Nat} {J:R→AX→St→Prop} (bs:List Nat) (cb:List (Nat × List Conv)) (h:resA P gn (look s1.T) (look s1.H)=some (.tup []))
  (hok:inlOk ρg hcg (pickH cb s1.H bs) s (.tup [])=true) (hk:SimQ a J .ret ⟨s.T,backH ρg (pickH cb s1.H bs) s.H⟩):SimQ a (clQ P gn hcg ρg s J) .normal s1:=cl_end (.inr rfl) bs cb h hok hk
end
section
variable {R V:Type} {a a1 a2:Option R} {P:Program} {N:Nat} {ro:Option Nat} {c:Code} {s s' s1:St} {Q:R→AX→St→Prop}
def rdV (P:Program) (N:Nat) (ro:Option Nat) (c:Code):Nat→(AX→St→Prop)→AX→St→Prop
 | 0,Q=>andThen (fun _=>False) Q
 | k+1,Q=>andThen (fun s'=>Ex P N ro c s' (rdV P N ro c k Q)) Q
def rdU (P:Program) (N:Nat) (ro:Option Nat) (c:Code) (k:Nat) (Q:R→AX→St→Prop):R→AX→St→Prop:=fun r=>rdV P N ro c k (Q r)
theorem ex_rounds {Q:AX→St→Prop} {D:DB} {M0:Mset} {φ0:Nat→Nat} {h0:Heap} {w0:World}:∀ (k:Nat) (s:St) (φ:Nat→Nat) (a:Act) (w:World),Ex P N ro c s (rdV P N ro c k Q)→Rel φ M0 N D (look s.T) (look s.H) a w→Evol φ0 h0 w0 φ (look s.H) w →
  Code.roundsIn (wd ro) 0 P c (Post N D Q φ0 M0 h0 w0) (k+1) a w:=by
 intro k
 induction k with
 | zero =>
  intro s φ a w h r E
  rw [roundsIn_succ]
  refine wpIn_mono (h φ M0 D a w r) ?_
  rintro e a' w' ⟨φ',x,s',hq,r',E',hx⟩
  cases x with
  | normal=>exact hq.elim
  | ret=>simp only [RepX] at hx; subst hx; exact ⟨φ', .ret,s',hq,r',E.trans E',rfl⟩
  | exit i=>simp only [RepX] at hx; subst hx; exact ⟨φ', .exit i,s',hq,r',E.trans E',rfl⟩
  | panic p=>obtain ⟨v,rfl,hv⟩:=hx; exact ⟨φ', .panic p,s',hq,r',E.trans E',v,rfl,hv⟩
 | succ k ih =>
  intro s φ a w h r E
  rw [roundsIn_succ]
  refine wpIn_mono (h φ M0 D a w r) ?_
  rintro e a' w' ⟨φ',x,s',hq,r',E',hx⟩
  cases x with
  | normal=>simp only [RepX] at hx; subst hx; exact ih s' φ' a' w' hq r' (E.trans E')
  | ret=>simp only [RepX] at hx; subst hx; exact ⟨φ', .ret,s',hq,r',E.trans E',rfl⟩
  | exit i=>simp only [RepX] at hx; subst hx; exact ⟨φ', .exit i,s',hq,r',E.trans E',rfl⟩
  | panic p=>obtain ⟨v,rfl,hv⟩:=hx; exact ⟨φ', .panic p,s',hq,r',E.trans E',v,rfl,hv⟩
theorem evol_refl0 {φ:Nat→Nat} {h:Heap} {w:World}:Evol φ h w φ h w:=evol_heap rfl rfl rfl rfl
theorem sim_unroll (k:Nat) (h:SimE a P N ro c s (rdU P N ro c k Q)):SimE a P N ro (.loop c) s Q :=
 ⟨fun r hr φ M0 D a w hr2=>wpIn_loop_rounds (k+1) (ex_rounds k s φ a w (h.h r hr) hr2 evol_refl0)⟩
theorem ru_n (K:Keep) (s':St) {k:Nat} (hw:shrQ K s=some s') (h:SimE a P N ro c s' (rdU P N ro c k Q)):SimQ a (rdU P N ro c (k+1) Q) .normal s:=⟨fun r hr=>(sP (Q:=rdU P N ro c k Q) K s' hw h).h r hr⟩
theorem ru_x {k i:Nat} (h:SimQ a Q (.exit i) s):SimQ a (rdU P N ro c k Q) (.exit i) s:=⟨fun r hr=>by cases k <;> exact h.h r hr⟩
theorem ru_p {k:Nat} {p:AV} (h:SimQ a Q (.panic p) s):SimQ a (rdU P N ro c k Q) (.panic p) s:=⟨fun r hr=>by cases k <;> exact h.h r hr⟩
end
def addM (M:Mset) (k:Nat):Mset:=fun r o=>M r o∨r=k
theorem hext_refl (φ:Nat→Nat) (h:Heap) (w:World):HExt φ h w φ h w:=hext_heap rfl
theorem rel_weak {N:Nat} {D:DB} {φ:Nat→Nat} {M0 M1:Mset} {T:Nat→Option AV} {h:Heap} {a:Act} {w:World} (hs:∀ r o,M0 r o→M1 r o) (r:Rel φ M1 N D T h a w):Rel φ M0 N D T h a w:=by
 have hk:∀ r o v,w.cell? ⟨r,o,none⟩=some v→¬ MM φ h M1 r o→w.cell? ⟨r,o,none⟩=some v∧¬ MM φ h M0 r o∧(Unm w r→Unm w r):=fun r o v hc hm=>⟨hc,fun x=>hm (x.imp id (hs r o)),id⟩
 exact ⟨r.dfs,r.siz,⟨r.hp.inj,fun b k hb=>relB_keep hk (hext_refl φ h w) rfl (r.hp.blk b k hb),fun b hb o hm=>r.hp.fr b hb o (hs _ _ hm),fun x o hx=>r.hp.lt x o (hs _ _ hx),r.hp.gm.sub fun x o hm=>hm.imp id (hs x o)⟩,
  fun t x ht=>⟨(r.tm t x ht).1,(repA_keep hk (hext_refl φ h w)).1 _ _ (r.tm t x ht).2⟩⟩
theorem post_weak {N:Nat} {D:DB} {Q:AX→St→Prop} {φ:Nat→Nat} {M0 M1:Mset} {h:Heap} {w w':World} {e:Exit} {a':Act} (hs:∀ r o,M0 r o→M1 r o) (p:Post N D Q φ M1 h w e a' w'):Post N D Q φ M0 h w e a' w':=by
 obtain ⟨φ',x,s',h1,h2,h3,h4⟩:=p
 refine ⟨φ',x,s',h1,rel_weak hs h2,h3,?_⟩
 cases x with
 | panic v =>
  obtain ⟨u,e1,e2⟩:=h4
  exact ⟨u,e1,(repA_keep (fun r o v hc hm=>⟨hc,fun x=>hm (x.imp id (hs r o)),id⟩) (hext_refl _ _ _)).1 _ _ e2⟩
 | _=>exact h4
theorem evol_push {φ:Nat→Nat} {h:Heap} {w:World} {M0:Mset} {ob:Obj} (r:RelH φ h w M0) (hC:Clear φ h w 1):Evol φ h w φ h (w.alloc ob)∧HExt φ h w φ h (w.alloc ob):=by
 have hold:∀ x,x < w.heap.size→(w.alloc ob).heap[x]?=w.heap[x]?:=fun x hx=>by show (w.heap.push ob)[x]?=_; rw [Array.getElem?_push,if_neg zo]
 have hs:(w.alloc ob).heap.size≤w.heap.size+1:=by show (w.heap.push ob).size≤_; simp
 have hh:∀ b k,h b=some k→(w.alloc ob).heap[φ b]?=w.heap[φ b]?:=fun b k hb=>hC.lt r hs hold (by rw [hb]; simp)
 refine ⟨⟨rfl,rfl,rfl,by show _≤(w.heap.push ob).size; simp,fun x hx hm=>hm.eq (hold x hx),fun x hx _=>hold x hx,fun x o hx _=>by simp [World.cell?,hold x hx],fun _ _ _ x=>x,fun _ _ _ _ x=>⟨⟨_,x⟩,rfl⟩,?_,?_,fun _ _ _ _ h1 h2=>⟨⟨_,h1,h2⟩,rfl⟩⟩,?_,?_,?_,fun _ _ _ h1 h2=>⟨⟨_,h1,h2⟩,rfl⟩⟩
 ·exact fun t ty S n _ hc=>⟨n,hc,zNR _,fun _=>akept rfl (hh _ _ hc)⟩
 ·exact fun t ty S n _ hc=>⟨n,hc,zNR _,fun _=>⟨rfl,fun c hcc=>⟨c,by rw [hh _ _ hc]; exact hcc,rfl⟩⟩⟩
 ·exact fun b ty cs hc=>⟨⟨ty,cs,hc⟩,rfl⟩
 ·exact fun t ty S n hc=>⟨n,hc,zNR _,fun _=>akept rfl (hh _ _ hc)⟩
 ·exact fun t ty S n hc=>⟨n,hc,zNR _,fun _=>⟨rfl,fun c hcc=>⟨c,by rw [hh _ _ hc]; exact hcc,rfl⟩⟩⟩
theorem rel_early {N:Nat} {D:DB} {φ:Nat→Nat} {M0:Mset} {T:Nat→Option AV} {h:Heap} {b:Act} {w:World} {ob:Obj} {d:Tmp} {v:Value} (r:Rel φ M0 N D T h b w) (hT:T d=none) (hC:Clear φ h w 1):Rel φ (addM M0 w.heap.size) N D T h (b.put (some d) v) (w.alloc ob):=by
 obtain ⟨E,X⟩:=evol_push (ob:=ob) r.hp hC
 have hk:∀ x o u,w.cell? ⟨x,o,none⟩=some u→¬ MM φ h M0 x o→(w.alloc ob).cell? ⟨x,o,none⟩=some u∧¬ MM φ h (addM M0 w.heap.size) x o∧(Unm w x→Unm (w.alloc ob) x):=by
  intro x o u hc hm
  have hx:=cell_lt hc
  obtain ⟨h1,h2,h3⟩:=E.keeps M0 x o u hc hm
  refine ⟨h1,fun hh=>?_,h3⟩
  rcases hh with hh | hh | hh
  ·exact hm (.inl hh)
  ·exact hm (.inr hh)
  ·omega
 have hold:∀ x,x < w.heap.size→(w.alloc ob).heap[x]?=w.heap[x]?:=fun x hx=>by show (w.heap.push ob)[x]?=_; rw [Array.getElem?_push,if_neg zo]
 refine ⟨r.dfs.keep E,by simp [Act.put,r.siz],⟨r.hp.inj,fun c k hb=>relB_keep hk X (hC.lt r.hp (w':=w.alloc ob) (by show (w.heap.push ob).size≤_; simp) hold (by rw [hb]; simp)) (r.hp.blk c k hb),?_,?_,(r.hp.gm.evol E).w,fun g hg o hm=>hm.elim (fun hm=>r.hp.gm.m g hg o (.inl hm)) (fun hm=>hm.elim (fun hm=>r.hp.gm.m g hg o (.inr hm)) (fun e=>by have:=gmW_lt r.hp.gm.w g hg; omega))⟩,?_⟩
 ·intro c hc o hm
  rcases hm with hm | hm
  ·exact r.hp.fr c hc o hm
  ·rcases hC c hc with h1 | h1 <;> omega
 ·intro x o hx
  show x < (w.heap.push ob).size
  rw [Array.size_push]
  rcases hx with hx | hx
  ·have:=r.hp.lt x o hx; omega
  ·omega
 ·intro t x ht
  refine ⟨(r.tm t x ht).1,?_⟩
  have hne:¬ d=t:=fun e=>by rw [e,ht] at hT; cases hT
  have:(b.put (some d) v).tmps.getD t undef=b.tmps.getD t undef:=by simp [Act.put,Array.getElem?_setIfInBounds_ne hne]
  rw [this]
  exact (repA_keep hk X).1 _ _ (r.tm t x ht).2
theorem rel_silent {P:Program} {N:Nat} {D:DB} {φ φ0:Nat→Nat} {M0:Mset} {h0:Heap} {w0:World} {s:St} {b:Act} {w:World} {o:Oper} {d k ty:Nat} {i:TypeInfo} {z:Value} {u:Res} (r:Rel φ (addM M0 k) N D (look s.T) (look s.H) b w) (E:Evol φ0 h0 w0 φ (look s.H) w)
  (hk0:w0.heap.size≤k) (hkM:∀ x,¬ M0 k x) (hop:o.op=.alloc ty) (hd:o.dst=some d) (hi:P.info? ty=some i) (hz:i.zero=some z) (hN:d < N) (hb:b.tmps[d]?=some (.pointer (some ⟨k,0,none⟩))) (hw:w.heap[k]?=some (.cells z.cells ty (0,0)))
  (hu:aop P o (look s.T) (look s.H)=some u) :
  Rel (updF φ d k) M0 N D (look (put' s o.dst u).T) (look (put' s o.dst u).H) b w∧Evol φ0 h0 w0 (updF φ d k) (look (put' s o.dst u).H) w:=by
 simp only [aop,hop,hi,hz,aNew,hd] at hu
 cases hcs:cellsOf (ofV z) with
 | none=>rw [hcs] at hu; cases hu
 | some cs =>
  rw [hcs] at hu
  dsimp only at hu
  cases hn:look s.H d with
  | some x=>rw [hn] at hu; cases hu
  | none =>
   rw [hn] at hu
   dsimp only at hu
   cases hu
   have hT:∀ t,look (put' s o.dst (.ptr d 0,some (d, .box ty cs),[d])).T t=if d=t then some (.ptr d 0) else look s.T t:=fun t=>by simp [put',hd,look]
   have hH:look (put' s o.dst (.ptr d 0,some (d, .box ty cs),[d])).H=upd (look s.H) d (.box ty cs):=by funext c; simp [put',look,upd]
   rw [hH]
   have hne:∀ c q,look s.H c=some q→¬ d=c:=fun c q hc e=>by rw [e] at hn; rw [hn] at hc; cases hc
   have hkφ:∀ c,look s.H c ≠ none→φ c ≠ k:=fun c hc e=>r.hp.fr c hc 0 (.inr e)
   have hMM:∀ x y,MM (updF φ d k) (upd (look s.H) d (.box ty cs)) M0 x y→MM φ (look s.H) (addM M0 k) x y:=by
    rintro x y (⟨c,q,h1,h2,h3⟩ | h)
    ·by_cases e:d=c
     ·simp only [updF,e,if_true] at h2
      exact .inr (.inr h2.symm)
     ·simp only [upd,updF,e,if_false] at h1 h2
      exact .inl ⟨c,q,h1,h2,h3⟩
    ·exact .inr (.inl h)
   have X:HExt φ (look s.H) w (updF φ d k) (upd (look s.H) d (.box ty cs)) w:=by
    refine ⟨fun c t' cs' hc=>?_,fun t t' S n hc=>?_,fun t t' S n hc=>?_,fun c k' x hc ho=>?_⟩
    ·have:=hne c _ hc
     exact ⟨⟨t',cs',by simp [upd,this,hc]⟩,by simp [updF,this]⟩
    ·have:=hne t _ hc
     exact ⟨n,by simp [upd,this,hc],zNR _,fun _=>akept (by simp [updF,this]) rfl⟩
    ·have:=hne t _ hc
     exact ⟨n,by simp [upd,this,hc],zNR _,fun _=>⟨by simp [updF,this],fun c hcc=>⟨c,hcc,rfl⟩⟩⟩
    ·have:=hne c _ hc
     exact ⟨⟨k',by simp [upd,this,hc],ho⟩,by simp [updF,this]⟩
   have hkp:∀ x y v,w.cell? ⟨x,y,none⟩=some v→¬ MM φ (look s.H) (addM M0 k) x y→w.cell? ⟨x,y,none⟩=some v∧¬ MM (updF φ d k) (upd (look s.H) d (.box ty cs)) M0 x y∧(Unm w x→Unm w x):=fun x y v hc hm=>⟨hc,fun hh=>hm (hMM x y hh),id⟩
   refine ⟨⟨?_,r.siz,⟨?_,?_,?_,fun x y hx=>r.hp.lt x y (.inl hx),r.hp.gm.sub hMM⟩,?_⟩,?_⟩
   ·obtain ⟨g0,ms,g1,g2,g3⟩:=r.dfs
    refine ⟨g0,ms,g1,g2,fun x hx=>?_⟩
    obtain ⟨g4,g5,g6⟩:=g3 x hx
    refine ⟨g4,g5,fun c hc e=>?_⟩
    by_cases ec:d=c
    ·simp only [updF,ec,if_true] at e
     rw [← e,hw] at g5
     cases g5
    ·simp only [upd,updF,ec,if_false] at hc e
     exact g6 c hc e
   ·intro c c' hc hc' e
    by_cases e1:d=c <;> by_cases e2:d=c'
    ·exact e1.symm.trans e2
    ·simp only [updF,e1,if_true] at e
     have e3:¬ c=c':=fun x=>e2 (e1.trans x)
     simp only [e3,if_false] at e
     simp only [upd,e2,if_false] at hc'
     exact absurd e.symm (hkφ c' hc')
    ·simp only [updF,e2,if_true] at e
     have e3:¬ c'=c:=fun x=>e1 (e2.trans x)
     simp only [e3,if_false] at e
     simp only [upd,e1,if_false] at hc
     exact absurd e (hkφ c hc)
    ·simp only [upd,updF,e1,e2,if_false] at hc hc' e
     exact r.hp.inj c c' hc hc' e
   ·intro c q hc
    by_cases e:d=c
    ·have h2:q=.box ty cs:=by simp only [upd,e,if_true,sie] at hc; exact hc.symm
     have h3:updF φ d k c=k:=by simp [updF,e]
     rw [h2,h3]
     exact ⟨z.cells,hw,(repA_keep hkp X).2 _ _ (cellsOf_rep hcs (rep_ofV z)).1⟩
    ·have h1:look s.H c=some q:=by simpa [upd,e] using hc
     have h3:updF φ d k c=φ c:=by simp [updF,e]
     rw [h3]
     exact relB_keep hkp X rfl (r.hp.blk c q h1)
   ·intro c hc y hm
    by_cases e:d=c
    ·have h3:updF φ d k c=k:=by simp [updF,e]
     rw [h3] at hm
     exact hkM _ hm
    ·have h3:updF φ d k c=φ c:=by simp [updF,e]
     rw [h3] at hm
     exact r.hp.fr c (by simpa [upd,e] using hc) y (.inl hm)
   ·intro t x ht
    rw [hT] at ht
    by_cases e:d=t
    ·simp only [e,if_true,sie] at ht
     subst ht
     refine ⟨e ▸ hN,?_⟩
     subst e
     rw [Array.getD_eq_getD_getElem?,hb]
     simp only [RepA,Option.getD_some]
     exact ⟨by simp [updF],ty,cs,by simp [upd]⟩
    ·simp only [e,if_false] at ht
     exact ⟨(r.tm t x ht).1,(repA_keep hkp X).1 _ _ (r.tm t x ht).2⟩
   ·refine ⟨E.os,E.tape,E.output,E.size,E.um,E.same,E.cell,?_,?_,?_,?_,?_⟩
    ·rintro x y hx ⟨c,q,h1,h2,h3⟩
     by_cases e:d=c
     ·simp only [updF,e,if_true] at h2; omega
     ·simp only [upd,updF,e,if_false] at h1 h2; exact E.mu x y hx ⟨c,q,h1,h2,h3⟩
    ·intro c t' cs' hc hb
     obtain ⟨⟨cs2,h1⟩,h2⟩:=E.kb c t' cs' hc hb
     have:=hne c _ h1
     exact ⟨⟨cs2,by simp [upd,this,h1]⟩,by simp [updF,this,h2]⟩
    ·intro t t' S n ht hb
     obtain ⟨n',h1,h2,h3⟩:=E.kt t t' S n ht hb
     have:=hne t _ h1
     exact ⟨n',by simp [upd,this,h1],h2,fun e=>(by simpa [updF,this] using h3 e)⟩
    ·intro t t' S n ht hb
     obtain ⟨n',h1,h2,h3⟩:=E.kv t t' S n ht hb
     have:=hne t _ h1
     exact ⟨n',by simp [upd,this,h1],h2,fun e=>⟨by simp [updF,this,(h3 e).1],(h3 e).2⟩⟩
    ·intro c k' x hc hb ho
     obtain ⟨⟨k2,h1,h2⟩,h3⟩:=E.ko c k' x hc hb ho
     have:=hne c _ h1
     exact ⟨⟨k2,by simp [upd,this,h1],h2⟩,by simp [updF,this,h3]⟩
def ExF (P:Program) (N:Nat) (ops:Array Oper) (Q:AX→St→Prop) (H:List Nat) (q d:Nat):List Nat→St→Prop
 | [],s=>Q .normal s
 | c :: rest,s=>match ops[c]? with
  | some o=>if c=q then (∃ u,dstLt N o.dst=true∧aop P o (look s.T) (look s.H)=some u∧lates P ops (lateL ops H c) (put' s o.dst u)∧ExF P N ops Q H q d rest (put' s o.dst u))
   else ExOp P N o s (fun s'=>lates P ops (lateL ops H c) s'∧(q ∈ rest→look s'.T d=none)∧ExF P N ops Q H q d rest s') Q
  | none=>False
def afterQ (ops:Array Oper) (q:Nat):List Nat→Bool
 | c :: c' :: r=>(c != q||(ops[c']?).any (waits · q))&&afterQ ops q (c' :: r)
 | _=>true
def notMove (ops:Array Oper) (H Cs:List Nat):Bool :=
 H.all (fun i=>match ops[i]? with | some o=>(match o.op with | .move _=>true | _=>false)&&Cs.all (fun c=>match (ops[c]?).bind (·.dst) with | some e=>!(o.looksAt ops).contains e | none=>true)||!(match o.op with | .move _=>true | _=>false) | none=>false)
def floatOk (P:Program) (N:Nat) (H:List Nat) (q d:Nat) (Cs:List Nat) (ops:Array Oper):Bool :=
 (List.range ops.size).all (fun i=>H.contains i||Cs.contains i)&&Region.noSelect ops&&pairH ops H&&chainOk ops (Cs.filter (· != q))&&decide Cs.Nodup&&H.all (fun i=>!Cs.contains i) &&
 H.all (fun i=>Cs.all fun c=>!waitsT ops.size ops i c)&&ops.toList.all (fun o=>o.guard.isNone)&&edgesDown 0 ops.toList &&
 H.all (fun i=>match (ops[i]?).bind (·.dst) with
  | some d=>(List.range ops.size).all fun j=>i == j||(match ops[j]? with | some oj=>oj.dst != some d&&(waits oj i||!(oj.looksAt ops).contains d) | none=>true)
  | none=>false)&&notMove ops H Cs&&afterQ ops q Cs&&decide (d < N) &&
 Cs.all (fun c=>c == q||(match ops[c]? with | some o=>o.dst != some d | none=>false)) &&
 (match ops[q]? with
  | some o=>o.dst == some d&&(match o.op with | .alloc ty=>(match P.info? ty with | some i=>i.zero.isSome | none=>false) | _=>false)
  | none=>false)
theorem afterQ_spec {ops:Array Oper} {q:Nat}:∀ (l1:List Nat) (c':Nat) (l2:List Nat),afterQ ops q (l1++q :: c' :: l2)=true→(ops[c']?).any (waits · q)=true
 | [],c',l2,h=>by
  simp only [List.nil_append,afterQ,bae,bne_self_eq_false,Bool.false_or] at h
  exact h.1
 | [x],c',l2,h=>by
  simp only [List.cons_append,List.nil_append,afterQ,bae,bne_self_eq_false,Bool.false_or] at h
  exact h.2.1
 | x :: y :: l1,c',l2,h=>by
  simp only [List.cons_append,afterQ,bae] at h
  exact afterQ_spec (y :: l1) c' l2 h.2
theorem late_keep {P:Program} {N:Nat} {D:DB} {ops:Array Oper} {φ:Nat→Nat} {M0:Mset} {i:Nat} {s:St} {b b':Act} {w w':World} {oi:Oper} {d:Nat} {v:Value} (hl:lateI P ops i s) (hoi:ops[i]?=some oi) (hdi:oi.dst=some d)
  (r':Rel φ M0 N D (look s.T) (look s.H) b' w') (hv:b'.tmps[d]?=some v) (hrun:(execOp b.eval oi).run P w=.ok (.value v) w) (hm:∀ x,oi.op=.move x→b'.eval x=b.eval x):(execOp b'.eval oi).run P w'=.ok (.value v) w':=by
 unfold lateI at hl
 simp only [hoi] at hl
 split at hl
 ·rename_i x d' hop hd'
  have hri':b.eval x=v:=by
   simp [execOp,hop] at hrun
   exact hrun
  simp [execOp,hop,hm x hop,hri']
 ·rename_i d' hd' hop
  obtain ⟨x,h2,h3,h4⟩:=hl
  obtain ⟨v',h5,h6⟩:=aRead_ok r' h2
  rw [hdi] at hd'
  cases hd'
  have h7:=(r'.tm d x h3).2
  rw [Array.getD_eq_getD_getElem?,hv] at h7
  have:=exact_one h4 h6 h7
  rw [h5,this]
  rfl
 ·cases hl
theorem hst_runF {P:Program} {N:Nat} {D:DB} {ops:Array Oper} {Q Qh:AX→St→Prop} {H Cs:List Nat} {q d:Nat} {φ0:Nat→Nat} {h0:Heap} {w0:World} {M0:Mset} (hok:floatOk P N H q d Cs ops=true) (hqn:∀ s,Qh .normal s→Q .normal s) (hqp:∀ v s,Qh (.panic v) s→Q (.panic v) (dropS ops s)) :
  ∀ (fuel:Nat) (done ch:List Nat) (listed:Array Bool) (a b:Act) (w:World) (s:St) (φ:Nat→Nat) (M1:Mset),Cs=done++ch→listed.size=ops.size→unl listed ops.size≤fuel →
   (∀ (j:Nat) o,ops[j]?=some o→listed.getD j false=true→∀ e ∈ o.after,Region.binds .any e=true→listed.getD e.on false=true) →
   (∀ c ∈ done,listed.getD c false=true)→(∀ c ∈ ch,c ≠ q→listed.getD c false=false)→Agree (lateX ops H listed) a b→Rel φ M1 N D (look s.T) (look s.H) b w→Evol φ0 h0 w0 φ (look s.H) w →
   (∀ i ∈ H,listed.getD i false=false→∃ o d v,ops[i]?=some o∧o.dst=some d∧b.tmps[d]?=some v∧(execOp b.eval o).run P w=.ok (.value v) w) →
   (q ∈ ch→look s.T d=none∧∀ i ∈ H,listed.getD i false=false→lateI P ops i s) →
   (((q ∈ ch→listed.getD q false=false)∧M1=M0)∨(q ∈ ch∧listed.getD q false=true∧ch.head? ≠ some q∧∃ k o ty i z,M1=addM M0 k∧ops[q]?=some o∧o.op=.alloc ty∧o.dst=some d∧P.info? ty=some i∧i.zero=some z∧b.tmps[d]?=some (.pointer (some ⟨k,0,none⟩))∧w.heap[k]?=some (.cells z.cells ty (0,0))∧w0.heap.size≤k∧∀ x,¬ M0 k x)) →
   ExF P N ops Qh H q d ch s→wpAny P .any ops (Post N D Q φ0 M0 h0 w0) fuel listed a w:=by
 simp only [floatOk,bae,zDT] at hok
 obtain ⟨⟨⟨⟨⟨⟨⟨⟨⟨⟨⟨⟨⟨⟨hcov,hns⟩,hpair⟩,hchain⟩,hnd⟩,hdis⟩,hstage⟩,hgu⟩,hdown⟩,hreg⟩,hLr⟩,haft⟩,hdN⟩,hdst0⟩,hqop⟩:=hok
 have hgd:∀ (listed:Array Bool) (i:Nat),i < listed.size→listed.getD i true=listed.getD i false:=fun listed i hi=>by simp [hi]
 have hpan:∀ (X:Tmp→Prop) (a b:Act),Agree X a b→(∀ t,X t→t ∈ dstsOf ops)→∀ c w,Post N D Qh φ0 M0 h0 w0 (.panic c) b w→Post N D Q φ0 M0 h0 w0 (.panic c) a w:=by
  rintro X a b hag hX c w' ⟨φ',x,s',g1,g2,g3,g4⟩
  cases x with
  | normal=>cases g4
  | exit i=>cases g4
  | ret=>cases g4
  | panic v=>exact ⟨φ', .panic v,dropS ops s',hqp _ _ g1,rel_agree hag hX g2,g3,g4⟩
 have hout:∀ a w,¬ Post N D Qh φ0 M0 h0 w0 .outgrown a w:=fun a w h=>post_not_out ⟨a,w,h⟩
 have hXm:∀ (Hv:List Nat) (listed:Array Bool) (t:Tmp),lateX ops Hv listed t→t ∈ dstsOf ops:=by
  rintro Hv listed t ⟨i,_,_,hd⟩
  cases ho:ops[i]? with
  | none=>rw [ho] at hd; cases hd
  | some o =>
   rw [ho] at hd
   exact List.mem_filterMap.2 ⟨o,by have:=Array.mem_of_getElem? ho; simpa using this,hd⟩
 have hgn:∀ (j:Nat) o,ops[j]?=some o→o.guard=none:=by
  intro j o ho
  have:=zAT.1 hgu o (by have:=Array.mem_of_getElem? ho; simpa using this)
  simpa using this
 have hready:∀ (listed:Array Bool),listed.size=ops.size→Region.ready .any ops listed=[]→∀ i,i < ops.size→listed.getD i false=true:=by
  intro listed hsz hr i
  induction i using Nat.strongRecOn with
  | _ i ih =>
   intro hi
   cases hq:listed.getD i false with
   | true=>rfl
   | false =>
    have:i ∈ Region.ready .any ops listed:=by
     rw [mem_ready]
     refine ⟨by rw [hgd listed i zo]; exact hq,ops[i],Array.getElem?_eq_getElem hi,fun e he hb=>?_⟩
     have h1:=edgesDown_spec hdown i ops[i] (by simp [hi]) e he hb
     exact ih e.on zo zo
    rw [hr] at this
    cases this
 have hfin:∀ (listed:Array Bool) (ch:List Nat) (a b:Act) (w:World) (s:St) (φ:Nat→Nat) (M1:Mset),(∀ i,i < ops.size→listed.getD i false=true)→(∀ c ∈ ch,c ≠ q→listed.getD c false=false)→Agree (lateX ops H listed) a b →
   Rel φ M1 N D (look s.T) (look s.H) b w→Evol φ0 h0 w0 φ (look s.H) w→(((q ∈ ch→listed.getD q false=false)∧M1=M0)∨(q ∈ ch∧ch.head? ≠ some q))→ExF P N ops Qh H q d ch s→Post N D Q φ0 M0 h0 w0 .normal a w:=by
  intro listed ch a b w s φ M1 hall hch hag r E hM hx
  have hab:a=b:=act_ext hag (by
   rintro t ⟨i,hi,hl,hd⟩
   cases ho:ops[i]? with
   | none=>rw [ho] at hd; cases hd
   | some o=>rw [hall i (zGS.1 ho).1] at hl; cases hl)
  subst hab
  cases ch with
  | nil =>
   rcases hM with ⟨_,rfl⟩ | ⟨h,_⟩
   ·exact ⟨φ, .normal,s,hqn _ hx,r,E,rfl⟩
   ·cases h
  | cons c ch =>
   exfalso
   simp only [ExF] at hx
   cases ho:ops[c]? with
   | none=>rw [ho] at hx; exact hx
   | some o =>
    have hc:=hall c (zGS.1 ho).1
    by_cases hcq:c=q
    ·rcases hM with ⟨h,_⟩ | ⟨_,h⟩
     ·rw [hcq,h (by rw [hcq]; exact List.mem_cons_self)] at hc
      cases hc
     ·exact h (by rw [hcq]; rfl)
    ·rw [hch c List.mem_cons_self hcq] at hc
     cases hc
 intro fuel
 induction fuel with
 | zero =>
  intro done ch listed a b w s φ M1 hCh hsz hu hcl hdo hch hag r E J hT hM hx
  have hall:∀ i,i < ops.size→listed.getD i false=true:=fun i hi=>by rw [← hgd listed i zo]; exact unl_zero (n:=ops.size) zo i hi
  refine ⟨List.eq_nil_iff_forall_not_mem.2 fun i hi=>?_,hfin listed ch a b w s φ M1 hall hch hag r E (hM.imp id fun h=>⟨h.1,h.2.2.1⟩) hx⟩
  obtain ⟨h1,o,ho,_⟩:=mem_ready.1 hi
  have hilt:=(zGS.1 ho).1
  rw [hgd listed i zo,hall i hilt] at h1
  cases h1
 | succ fuel ih =>
  intro done ch listed a b w s φ M1 hCh hsz hu hcl hdo hch hag r E J hT hM hx
  refine ⟨fun hr=>hfin listed ch a b w s φ M1 (hready listed hsz hr) hch hag r E (hM.imp id fun h=>⟨h.1,h.2.2.1⟩) hx,fun j hj=>?_⟩
  obtain ⟨hun,o,ho,hall⟩:=mem_ready.1 hj
  have hjlt:j < ops.size:=(zGS.1 ho).1
  have hun':listed.getD j false=false:=by rw [← hgd listed j zo]; exact hun
  have hsel:∀ cs b,o.op ≠ .select cs b:=fun cs b=>Region.noSelect_spec hns j o cs b ho
  have hwant:∀ tm,Region.wanted o (yielded ops tm)=true:=fun tm=>by simp [Region.wanted,hgn j o ho]
  have eL:∀ k,(listed.setIfInBounds j true).getD k false=(listed.getD k false||decide (k=j)):=by
   intro k
   by_cases hkj:k=j
   ·subst hkj
    have:k < listed.size:=by omega
    simp [this]
   ·rw [getD_set_ne false (Ne.symm hkj)]
    simp [hkj]
  have hu':unl (listed.setIfInBounds j true) ops.size≤fuel:=by
   have:=unl_set hun ops.size
   rw [if_pos hjlt] at this
   omega
  have hcl':∀ (k:Nat) ok,ops[k]?=some ok→(listed.setIfInBounds j true).getD k false=true→∀ e ∈ ok.after,Region.binds .any e=true→(listed.setIfInBounds j true).getD e.on false=true:=by
   intro k ok hk hl e he hb
   rw [eL] at hl ⊢
   simp only [Bool.or_eq_true,zDT] at hl ⊢
   rcases hl with hl | hl
   ·exact .inl (hcl k ok hk hl e he hb)
   ·subst hl
    rw [ho] at hk
    cases hk
    exact .inl (hall e he hb)
  have hun1:∀ i,(listed.setIfInBounds j true).getD i false=false→listed.getD i false=false∧i ≠ j:=by
   intro i hl
   rw [eL] at hl
   simp only [Bool.or_eq_false_iff,decide_eq_false_iff_not] at hl
   exact hl
  have hsee:∀ t ∈ o.looksAt ops,¬ lateX ops H listed t∨∃ d,o.dst=some d∧t=d∧j ∈ H:=by
   intro t ht
   by_cases hc:lateX ops H listed t
   rotate_left
   ·exact .inl hc
   obtain ⟨i,hi,hl,hd⟩:=hc
   have h1:=zAT.1 hreg i hi
   rw [hd] at h1
   have h2:=zAT.1 h1 j (by simp [hjlt])
   simp only [ho,Bool.or_eq_true,beq_iff_eq,bae,Bool.not_eq_true',bne_iff_ne] at h2
   rcases h2 with rfl | ⟨_,h2 | h2⟩
   ·rw [ho] at hd
    exact .inr ⟨t,hd,rfl,hi⟩
   ·obtain ⟨e,he,hb,hon⟩:=waits_spec h2
    have:=hall e he hb
    rw [hon,hl] at this
    cases this
   ·simp [ht] at h2
  have hcase:=zAT.1 hcov j (by simp [hjlt])
  simp only [Bool.or_eq_true,List.contains_iff_mem] at hcase
  have hqH:q ∈ ch→q ∉ H:=by
   intro hq hqH
   have:=zAT.1 hdis q hqH
   rw [hCh] at this
   simp [hq] at this
  by_cases hjH:j ∈ H
  ·
   have hjC:j ∉ Cs:=by
    have:=zAT.1 hdis j hjH
    simpa using this
   obtain ⟨o',dd,v,ho',hd,hv,hrun⟩:=J j hjH hun'
   rw [ho] at ho'
   cases ho'
   have hself:dd ∉ o.looksAt ops:=pairH_self ho hd H hpair hjH
   have hsee':∀ t ∈ o.looksAt ops,¬ lateX ops H listed t:=by
    intro t ht
    rcases hsee t ht with h1 | ⟨d',h1,rfl,_⟩
    ·exact h1
    ·rw [hd] at h1
     cases h1
     exact absurd ht hself
   unfold wpOp
   simp only [ho,hwant,if_true]
   refine .inl ?_
   unfold Oper.wp
   rw [execOp_agree (ops:=ops) hag hsel hsee',hrun]
   simp only [Oper.upon]
   have hqj:q ∈ ch→q ≠ j:=fun h e=>hqH h (e ▸ hjH)
   refine ih done ch (listed.setIfInBounds j true) (a.put o.dst v) b w s φ M1 hCh (by simpa using hsz) hu' hcl' (fun c hc=>by rw [eL,hdo c hc]; rfl) ?_ ?_ r E (fun i hi hl=>J i hi (hun1 i hl).1) (fun h=>⟨(hT h).1,fun i hi hl=>(hT h).2 i hi (hun1 i hl).1⟩) ?_ hx
   ·intro c hc hcq
    rw [eL,hch c hc hcq]
    have:c ≠ j:=fun e=>hjC (by rw [hCh,← e]; exact List.mem_append_right _ hc)
    simp [this]
   ·refine ⟨by rw [← hag.1,hd]; rfl,by rw [← hag.2.1,hd]; simp [Act.put],fun t ht=>?_⟩
    rw [hd]
    by_cases htd:dd=t
    ·subst htd
     have hds:dd < a.tmps.size:=by
      rw [hag.2.1]
      exact (zGS.1 hv).1
     rw [hv]
     simp [Act.put,hds]
    ·rw [← hag.2.2 t (fun hc=>ht (by
      obtain ⟨i,hi,hl,hdi⟩:=hc
      refine ⟨i,hi,?_,hdi⟩
      rw [eL,hl]
      have:i ≠ j:=fun e=>htd (by rw [e,ho] at hdi; exact Option.some.inj (hd.symm.trans hdi))
      simp [this]))]
     simp [Act.put,Array.getElem?_setIfInBounds_ne htd]
   ·rcases hM with ⟨h1,h2⟩ | ⟨h1,h2,h3⟩
    ·exact .inl ⟨fun h=>by rw [eL,h1 h]; simp [hqj h],h2⟩
    ·exact .inr ⟨h1,by rw [eL,h2]; rfl,h3⟩
  ·
   have hjC:j ∈ Cs:=hcase.resolve_left hjH
   have hjch:j ∈ ch:=by
    rw [hCh] at hjC
    rcases List.mem_append.1 hjC with h1 | h1
    ·rw [hdo j h1] at hun'; cases hun'
    ·exact h1
   have hseeC:∀ t ∈ o.looksAt ops,¬ lateX ops H listed t:=by
    intro t ht
    rcases hsee t ht with h1 | ⟨d',_,_,h1⟩
    ·exact h1
    ·exact absurd h1 hjH
   have hdst:∀ t,o.dst=some t→¬ lateX ops H listed t:=by
    rintro t ht ⟨i,hi,hl,hd⟩
    have h1:=zAT.1 hreg i hi
    rw [hd] at h1
    have h2:=zAT.1 h1 j (by simp [hjlt])
    simp only [ho,Bool.or_eq_true,beq_iff_eq,bae,Bool.not_eq_true',bne_iff_ne] at h2
    rcases h2 with rfl | ⟨h2,_⟩
    ·exact hjH hi
    ·exact h2 ht
   have hsub:∀ x y,M0 x y→M1 x y:=by
    intro x y h
    rcases hM with ⟨_,rfl⟩ | ⟨_,_,_,k,_,_,_,_,rfl,_⟩
    ·exact h
    ·exact .inl h
   have hJ2:∀ (b':Act) (w':World) (s':St) (φ':Nat→Nat) (M':Mset),(∀ t,o.dst ≠ some t→b'.tmps[t]?=b.tmps[t]?)→Rel φ' M' N D (look s'.T) (look s'.H) b' w'→(∀ i ∈ H,(listed.setIfInBounds j true).getD i false=false→lateI P ops i s') →
     ∀ i ∈ H,(listed.setIfInBounds j true).getD i false=false→∃ o d v,ops[i]?=some o∧o.dst=some d∧b'.tmps[d]?=some v∧(execOp b'.eval o).run P w'=.ok (.value v) w':=by
    intro b' w' s' φ' M' hbX r' hl' i hi hl
    have hl0:=(hun1 i hl).1
    obtain ⟨oi,di,v,hoi,hdi,hvi,hri⟩:=J i hi hl0
    have hvb:b'.tmps[di]?=some v:=by rw [hbX di (fun e=>hdst di e ⟨i,hi,hl0,by rw [hoi]; exact hdi⟩)]; exact hvi
    refine ⟨oi,di,v,hoi,hdi,hvb,late_keep (hl' i hi hl) hoi hdi r' hvb hri fun x hop=>?_⟩
    cases x with
    | tmp t =>
     have hne:o.dst ≠ some t:=by
      intro e
      have h2:=zAT.1 hLr i hi
      simp only [hoi,hop,Bool.true_and,Bool.not_true,Bool.or_false] at h2
      have h3:=zAT.1 h2 j hjC
      simp only [ho,obs,e,Bool.not_eq_true'] at h3
      have:t ∈ oi.looksAt ops:=List.mem_append_left _ (List.mem_filterMap.2 ⟨.tmp t,by simp [hop,Op.operands],rfl⟩)
      simp [this] at h3
     simp only [Act.eval]
     rw [Array.getD_eq_getD_getElem?,Array.getD_eq_getD_getElem?,hbX t hne]
    | _=>rfl
   have hlate:∀ (s':St),lates P ops (lateL ops H j) s'→∀ i ∈ H,(listed.setIfInBounds j true).getD i false=false→lateI P ops i s':=by
    intro s' hl' i hi hl
    have hl0:=(hun1 i hl).1
    have hnw:waitsT ops.size ops j i=false:=by
     cases hq:waitsT ops.size ops j i with
     | false=>rfl
     | true =>
      have:=waitsT_spec hcl _ j i o ho hall hq
      rw [hl0] at this
      cases this
    have hnw2:waitsT ops.size ops i j=false:=by
     have:=zAT.1 (zAT.1 hstage i hi) j hjC
     simpa using this
    exact hl' i (List.mem_filter.2 ⟨hi,by rw [hnw,hnw2]; rfl⟩)
   have hag3:∀ (a' b':Act),Agree (lateX ops H listed) a' b'→Agree (lateX ops H (listed.setIfInBounds j true)) a' b':=by
    intro a' b' h
    refine ⟨h.1,h.2.1,fun t ht=>h.2.2 t (fun hc=>ht ?_)⟩
    obtain ⟨i,hi,hl,hd⟩:=hc
    refine ⟨i,hi,?_,hd⟩
    rw [eL,hl]
    have:i ≠ j:=fun e=>hjH (e ▸ hi)
    simp [this]
   by_cases hjq:j=q
   ·
    subst hjq
    rw [ho] at hqop
    simp only [bae,beq_iff_eq] at hqop
    obtain ⟨hqd,hqop⟩:=hqop
    split at hqop
    rotate_left
    ·cases hqop
    rename_i ty hop
    split at hqop
    rotate_left
    ·cases hqop
    rename_i ti hi
    obtain ⟨z,hz⟩:=zIE.1 hqop
    have hMM:M1=M0:=by
     rcases hM with ⟨_,h⟩ | ⟨_,h,_⟩
     ·exact h
     ·rw [h] at hun'; cases hun'
    subst hMM
    unfold wpOp
    simp only [ho,hwant,if_true]
    refine .inl ?_
    cases ch with
    | nil=>cases hjch
    | cons c rest =>
     by_cases hcj:c=j
     ·subst hcj
      simp only [ExF,ho,if_true] at hx
      obtain ⟨u,hdl,hu,hl,hx'⟩:=hx
      have hex:ExOp P N o s (fun s'=>s'=put' s o.dst u) Qh:=by
       unfold ExOp
       simp only [hop]
       rw [hu]
       exact .inl ⟨hdl,rfl⟩
      have hw:=exOp_ok hex r
      have hw2:=Go.Abs.Oper.wp_mono2 (K':=fun a' w'=>∃ φ' s',s'=put' s o.dst u∧Rel φ' M1 N D (look s'.T) (look s'.H) a' w'∧Evol φ (look s.H) w φ' (look s'.H) w') (Q':=Post N D Qh φ0 M1 h0 w0) hw (fun _ _ h=>h) (fun e a' w' p=>p.trans E)
      refine Oper.wp_mono ?_ (wp_agree (ops:=ops) hag hsel hseeC hdst (hpan _ _ _ hag (hXm _ _)) hout hw2)
      rintro a' w' ⟨b',hag',hbX,φ',s',rfl,r',E'⟩
      have hcr:c ∉ rest:=by
       rw [hCh] at hnd
       exact (List.nodup_cons.1 (List.nodup_append.1 hnd).2.1).1
      refine ih (done++[c]) rest (listed.setIfInBounds c true) a' b' w' _ φ' M1 (by rw [hCh]; simp) (by simpa using hsz) hu' hcl' (fun x hx=>by
       rw [eL]
       rcases List.mem_append.1 hx with h1 | h1
       ·rw [hdo x h1]; rfl
       ·rw [List.mem_singleton] at h1
        simp [h1]) ?_ (hag3 _ _ hag') r' (E.trans E') (hJ2 b' w' _ φ' M1 hbX r' (hlate _ hl)) (fun h=>absurd h hcr) (.inl ⟨fun h=>absurd h hcr,rfl⟩) hx'
      intro x hx hxq
      rw [eL,hch x (List.mem_cons_of_mem _ hx) hxq]
      simp [hxq]
     ·have hrun:∀ ev,(execOp ev o).run P w=.ok (.value (.pointer (some ⟨w.heap.size,0,none⟩))) (w.alloc (.cells z.cells ty)):=fun ev=>by
       simp [execOp,hop,Instr.alloc,zeroValue,typeInfo,hi,hz,newVar,newRow,newObj,Sem.run]
      unfold Oper.wp
      rw [hrun]
      simp only [Oper.upon]
      rw [hqd]
      obtain ⟨hT1,hT2⟩:=hT hjch
      obtain ⟨r,E1,_,hCl⟩:=r.lift 1
      have E:=E.trans E1
      have r2:=rel_early (ob:=.cells z.cells ty) (v:=.pointer (some ⟨w.heap.size,0,none⟩)) r hT1 hCl
      have hbX:∀ t,o.dst ≠ some t→(b.put (some d) (.pointer (some ⟨w.heap.size,0,none⟩))).tmps[t]?=b.tmps[t]?:=by
       intro t ht
       have:d ≠ t:=fun e=>ht (by rw [hqd,e])
       simp [Act.put,Array.getElem?_setIfInBounds_ne this]
      have hT3:∀ i ∈ H,(listed.setIfInBounds j true).getD i false=false→lateI P ops i s:=fun i hi hl=>hT2 i hi (hun1 i hl).1
      refine ih done (c :: rest) (listed.setIfInBounds j true) _ _ _ s _ _ hCh (by simpa using hsz) hu' hcl' (fun x hx=>by rw [eL,hdo x hx]; rfl) ?_ (hag3 _ _ (agree_put hag (some d) _)) r2 (E.trans (evol_push r.hp hCl).1) (hJ2 _ _ s _ _ hbX r2 hT3) (fun _=>⟨hT1,hT3⟩) (.inr ⟨hjch,by rw [eL]; simp,fun h=>hcj (Option.some.inj h),w.heap.size,o,ty,ti,z,rfl,ho,hop,hqd,hi,hz,?_,?_,E.size,fun x hx=>Nat.lt_irrefl _ (r.hp.lt _ _ hx)⟩) hx
      ·intro x hx hxq
       rw [eL,hch x hx hxq]
       simp [hxq]
      ·have hds:d < b.tmps.size:=by rw [r.siz]; exact hdN
       simp [Act.put,hds]
      ·show (w.heap.push _)[w.heap.size]?=_
       simp
   ·
    have hjhead:∃ rest,ch=j :: rest:=by
     cases ch with
     | nil=>cases hjch
     | cons c rest =>
      by_cases hcj:j=c
      ·exact ⟨rest,by rw [hcj]⟩
      exfalso
      have hjr:j ∈ rest:=(List.mem_cons.1 hjch).resolve_left hcj
      obtain ⟨r1,r2,hr12⟩:=List.append_of_mem hjr
      have hpre:∀ x,x ∈ c :: rest→x ≠ q→(ops[j]?).any (waits · x)=true→False:=by
       intro x hx hxq hw
       rw [ho] at hw
       obtain ⟨e,he,hb,hon⟩:=waits_spec (o:=o) (i:=x) hw
       have h2:=hall e he hb
       rw [hon,hch x hx hxq] at h2
       cases h2
      by_cases hall1:∀ x ∈ c :: r1,x=q
      ·
       have hcq:c=q:=hall1 c List.mem_cons_self
       have hr1:r1=[]:=by
        cases r1 with
        | nil=>rfl
        | cons y r1 =>
         exfalso
         have hy:=hall1 y zq
         have h3:=hnd
         rw [hCh,hr12] at h3
         have h4:=(List.nodup_append.1 h3).2.1
         rw [hcq,hy] at h4
         simp at h4
       subst hr1
       rcases hM with ⟨h1,_⟩ | ⟨_,_,h3,_⟩
       ·have h4:=h1 (by rw [hcq]; exact List.mem_cons_self)
        have h5:(ops[j]?).any (waits · q)=true:=afterQ_spec done j r2 (by rw [hCh,hr12,hcq] at haft; exact haft)
        rw [ho] at h5
        obtain ⟨e,he,hb,hon⟩:=waits_spec (o:=o) (i:=q) h5
        have h6:=hall e he hb
        rw [hon,h4] at h6
        cases h6
       ·exact h3 (by rw [hcq]; rfl)
      ·simp only [Classical.not_forall] at hall1
       obtain ⟨x0,hx0,hx0q⟩:=hall1
       have hfl:(c :: r1).filter (· != q) ≠ []:=by
        intro e
        have:x0 ∈ (c :: r1).filter (· != q):=List.mem_filter.2 ⟨hx0,by simpa using hx0q⟩
        rw [e] at this
        cases this
       obtain ⟨p,x,hpx⟩:∃ p x,(c :: r1).filter (· != q)=p++[x]:=⟨_,_,(List.dropLast_concat_getLast hfl).symm⟩
       have hxm:x ∈ (c :: r1).filter (· != q):=by rw [hpx]; simp
       obtain ⟨hx1,hx2⟩:=List.mem_filter.1 hxm
       have hsp:Cs.filter (· != q)=(done.filter (· != q)++p)++x :: j :: r2.filter (· != q):=by
        rw [hCh,List.filter_append,hr12,show c :: (r1++j :: r2)=(c :: r1)++j :: r2 from rfl,List.filter_append,hpx]
        have:(j :: r2).filter (· != q)=j :: r2.filter (· != q):=by simp [hjq]
        rw [this]
        simp
       have hch2:=hchain
       rw [hsp] at hch2
       have h1:=chain_waits _ _ _ _ hch2
       exact hpre x (by rw [hr12,show c :: (r1++j :: r2)=(c :: r1)++j :: r2 from rfl]; exact List.mem_append_left _ hx1) (by simpa using hx2) h1
    obtain ⟨rest,rfl⟩:=hjhead
    simp only [ExF,ho,if_neg hjq] at hx
    unfold wpOp
    simp only [ho,hwant,if_true]
    refine .inl ?_
    have hw:=exOp_ok hx r
    have hw2:=Go.Abs.Oper.wp_mono2 (K':=fun a' w'=>∃ φ' s',(lates P ops (lateL ops H j) s'∧(q ∈ rest→look s'.T d=none)∧ExF P N ops Qh H q d rest s')∧Rel φ' M1 N D (look s'.T) (look s'.H) a' w'∧Evol φ (look s.H) w φ' (look s'.H) w') (Q':=Post N D Qh φ0 M0 h0 w0) hw (fun _ _ h=>h) (fun e a' w' p=>post_weak hsub (p.trans E))
    refine Oper.wp_mono ?_ (wp_agree (ops:=ops) hag hsel hseeC hdst (hpan _ _ _ hag (hXm _ _)) hout hw2)
    rintro a' w' ⟨b',hag',hbX,φ',s',⟨hl',hnT,hx'⟩,r',E'⟩
    have hJ3:=hJ2 b' w' s' φ' M1 hbX r' (hlate s' hl')
    have hjr:j ∉ rest:=by
     rw [hCh] at hnd
     exact (List.nodup_cons.1 (List.nodup_append.1 hnd).2.1).1
    have hdo':∀ c ∈ done++[j],(listed.setIfInBounds j true).getD c false=true:=fun x hx=>by
     rw [eL]
     rcases List.mem_append.1 hx with h1 | h1
     ·rw [hdo x h1]; rfl
     ·rw [List.mem_singleton] at h1
      simp [h1]
    have hch':∀ c ∈ rest,c ≠ q→(listed.setIfInBounds j true).getD c false=false:=by
     intro x hx hxq
     rw [eL,hch x (List.mem_cons_of_mem _ hx) hxq]
     have:x ≠ j:=fun e=>hjr (e ▸ hx)
     simp [this]
    have hTT:q ∈ rest→look s'.T d=none∧∀ i ∈ H,(listed.setIfInBounds j true).getD i false=false→lateI P ops i s':=fun h=>⟨hnT h,hlate s' hl'⟩
    rcases hM with ⟨h1,rfl⟩ | ⟨h1,h2,h3,k,oq,ty,ti,z,rfl,hoq,hop,hqd,hi,hz,hbd,hwk,hk0,hkM⟩
    ·refine ih (done++[j]) rest (listed.setIfInBounds j true) a' b' w' s' φ' M1 (by rw [hCh]; simp) (by simpa using hsz) hu' hcl' hdo' hch' (hag3 _ _ hag') r' (E.trans E') hJ3 hTT (.inl ⟨fun h=>?_,rfl⟩) hx'
     rw [eL,h1 (List.mem_cons_of_mem _ h)]
     simp [Ne.symm hjq]
    ·have hqr:q ∈ rest:=(List.mem_cons.1 h1).resolve_left (Ne.symm hjq)
     have hod:o.dst ≠ some d:=by
      have:=zAT.1 hdst0 j hjC
      simp only [ho,Bool.or_eq_true,beq_iff_eq,bne_iff_ne] at this
      exact this.resolve_left hjq
     have hbd':b'.tmps[d]?=some (.pointer (some ⟨k,0,none⟩)):=by rw [hbX d hod]; exact hbd
     have hwk':w'.heap[k]?=some (.cells z.cells ty (0,0)):=by
      rw [E'.same k (zGS.1 hwk).1 (fun c hc e=>r.hp.fr c hc 0 (.inr e))]
      exact hwk
     have hlq:(listed.setIfInBounds j true).getD q false=true:=by rw [eL,h2]; rfl
     by_cases hrq:rest.head?=some q
     ·cases rest with
      | nil=>cases hrq
      | cons c rest =>
       obtain rfl:c=q:=Option.some.inj hrq
       simp only [ExF,hoq,if_true] at hx'
       obtain ⟨u,hdl,hu,hl,hx2⟩:=hx'
       obtain ⟨r2,E2⟩:=rel_silent r' (E.trans E') hk0 hkM hop hqd hi hz hdN hbd' hwk' hu
       have hcr:c ∉ rest:=by
        rw [hCh] at hnd
        exact (List.nodup_cons.1 (List.nodup_cons.1 (List.nodup_append.1 hnd).2.1).2).1
       refine ih (done++[j,c]) rest (listed.setIfInBounds j true) a' b' w' _ _ M0 (by rw [hCh]; simp) (by simpa using hsz) hu' hcl' (fun x hx=>?_) (fun x hx=>hch' x (List.mem_cons_of_mem _ hx)) (hag3 _ _ hag') r2 E2 hJ3 (fun h=>absurd h hcr) (.inl ⟨fun h=>absurd h hcr,rfl⟩) hx2
       rcases List.mem_append.1 hx with h4 | h4
       ·exact hdo' x (List.mem_append_left _ h4)
       ·simp only [List.mem_cons,List.not_mem_nil,or_false] at h4
        rcases h4 with h4 | h4
        ·exact hdo' x (by simp [h4])
        ·rw [h4]; exact hlq
     ·exact ih (done++[j]) rest (listed.setIfInBounds j true) a' b' w' s' φ' _ (by rw [hCh]; simp) (by simpa using hsz) hu' hcl' hdo' hch' (hag3 _ _ hag') r' (E.trans E') hJ3 hTT (.inr ⟨hqr,hlq,hrq,k,oq,ty,ti,z,rfl,hoq,hop,hqd,hi,hz,hbd',hwk',hk0,hkM⟩) hx'
theorem ex_hstF {P:Program} {N:Nat} {ro:Option Nat} {id:Nat} {ops:Array Oper} {s s1:St} {R:Type} {r0:R} {Q:R→AX→St→Prop} (H:List Nat) (q d:Nat) (Cs:List Nat) (hm:P.follows .mixedOrders=true) (hnd:noDefer ops=true) (hok:floatOk P N H q d Cs ops=true) (h1:runH P N ops H s=some s1)
  (hl:lates P ops H s1) (hT:look s1.T d=none) (h:ExF P N ops (qh ops Q r0) H q d Cs s1):Ex P N ro (.region id ops true) s (Q r0):=by
 intro φ M0 D a w r
 refine wpIn_region_any hm (any_in hnd post_not_out _ _ _ _ ?_)
 have hd:Evol φ (look s.H) w φ (look s.H) { w with drawn:=w.drawn+1 }:=evol_heap rfl rfl rfl rfl
 have r1:Rel φ M0 N D (look s.T) (look s.H) a { w with drawn:=w.drawn+1 }:=r.keep hd (hext_heap rfl) (relH_heap (w:=w) rfl hd r.hp)
 have hok':=hok
 simp only [floatOk,bae,zDT] at hok'
 obtain ⟨⟨⟨⟨⟨⟨⟨⟨⟨⟨⟨⟨⟨⟨hcov,hns⟩,hpair⟩,hchain⟩,hnd'⟩,hdis⟩,hstage⟩,hgu⟩,hdown⟩,hreg⟩,hLr⟩,haft⟩,hdN⟩,hdst0⟩,hqop⟩:=hok'
 obtain ⟨b,rb,hH,hag,hJ⟩:=runH_ok hns H s s1 a _ hpair h1 r1
 have hlf:∀ (j:Nat),(Array.replicate ops.size false).getD j false=false:=by
  intro j
  rcases Nat.lt_or_ge j ops.size with h | h
  ·simp [h]
  ·simp [h]
 have hunl:∀ n,unl (Array.replicate ops.size false) n≤n:=by
  intro n
  induction n with
  | zero=>simp [unl]
  | succ n ih=>simp only [unl]; split <;> omega
 have h2:=hst_runF (D:=D) (φ0:=φ) (h0:=look s.H) (w0:=w) (M0:=M0) hok (Q:=Q r0) (Qh:=qh ops Q r0) (fun _ h=>h) (fun _ _ h=>h) ops.size [] Cs (Array.replicate ops.size false) a b { w with drawn:=w.drawn+1 } s1 φ M0 rfl zq (hunl _) (fun j o _ hj=>by rw [hlf] at hj; cases hj) (fun c hc=>by cases hc) (fun c _ _=>hlf c)
  ⟨hag.1,hag.2.1,fun t ht=>hag.2.2 t (fun hc=>ht (by obtain ⟨i,hi,hdi⟩:=hc; exact ⟨i,hi,hlf i,hdi⟩))⟩ rb (by rw [hH]; exact hd) (fun i hi _=>hJ i hi) (fun _=>⟨hT,fun i hi _=>hl i hi⟩) (.inl ⟨fun _=>hlf q,rfl⟩) h
 refine wpAny_monoQ ?_ _ _ _ _ h2
 exact fun e a' w' h=>h
structure SimF {R:Type} (a:Option R) (P:Program) (N:Nat) (ops:Array Oper) (Q:R→AX→St→Prop) (H:List Nat) (q d:Nat) (Ch:List Nat) (s:St):Prop where
 intro ::
 h:∀ r,a=some r→ExF P N ops (qh ops Q r) H q d Ch s
def fKf {R:Type} (P:Program) (N:Nat) (ops:Array Oper) (Q:R→AX→St→Prop) (H:List Nat) (q d:Nat) (Ch:List Nat) (c:Nat):R→St→Prop:=fun r s=>lates P ops (lateL ops H c) s∧(q ∈ Ch→look s.T d=none)∧ExF P N ops (qh ops Q r) H q d Ch s
theorem noT_spec {Ch:List Nat} {q d:Nat} {s:St} (h:(!Ch.contains q||(look s.T d).isNone)=true):q ∈ Ch→look s.T d=none:=by
 intro hq
 cases e:look s.T d with
 | none=>rfl
 | some x=>simp [hq,e] at h
section
variable {R V E:Type} {a a1 a2:Option R} {P:Program} {N:Nat} {ro:Option Nat} {id:Nat} {ops:Array Oper} {o:Oper} {s s1 s':St} {Q:R→AX→St→Prop} {f:FuncId} {args args':List AV} {dst:Option Tmp} {H Ch:List Nat} {c i q d:Nat}
theorem sim_hstF (H:List Nat) (q d:Nat) (Ch:List Nat) (hm:P.follows .mixedOrders=true) (hd:noDefer ops=true) (hok:floatOk P N H q d Ch ops=true) (h1:(runH P N ops H s).isSome=true) (hl:lates P ops H ((runH P N ops H s).getD s)) (hT:(look ((runH P N ops H s).getD s).T d).isNone=true)
  (h:SimF a P N ops Q H q d Ch ((runH P N ops H s).getD s)):SimE a P N ro (.region id ops true) s Q:=by
 obtain ⟨s1,e⟩:=zIE.1 h1
 rw [e] at h hl hT
 simp only [Option.getD_some] at h hl hT
 exact ⟨fun r hr=>ex_hstF H q d Ch hm hd hok e hl (by cases e:look s1.T d with | none=>rfl | some x=>rw [e] at hT; cases hT) (h.h r hr)⟩
theorem f_end (h:SimQ a Q .normal s):SimF a P N ops Q H q d [] s:=⟨fun r hr=>h.h r hr⟩
theorem kf (L':List Nat) (hL:lateL ops H c=L') (hl:lates P ops L' s) (hq:(!Ch.contains q||(look s.T d).isNone)=true) (h:SimF a P N ops Q H q d Ch s):SimK a (fKf P N ops Q H q d Ch c) s :=
 ⟨fun r hr=>⟨hL ▸ hl,noT_spec hq,h.h r hr⟩⟩
theorem f_q (L':List Nat) (hL:lateL ops H q=L') (h0:(stepC P N ops q s).isSome=true) (hl:lates P ops L' ((stepC P N ops q s).getD s)) (h:SimF a P N ops Q H q d Ch ((stepC P N ops q s).getD s)):SimF a P N ops Q H q d (q :: Ch) s:=by
 obtain ⟨s',h1⟩:=zIE.1 h0
 rw [h1] at hl h
 simp only [Option.getD_some] at hl h
 unfold stepC at h1
 refine ⟨fun r hr=>?_⟩
 simp only [ExF]
 cases ho:ops[q]? with
 | none=>rw [ho] at h1; cases h1
 | some o =>
  simp only [ho,obs,if_true] at h1 ⊢
  split at h1
  ·cases h1
  ·cases h1
  ·cases h1
  ·split at h1
   rotate_left
   ·cases h1
   rename_i hdl
   obtain ⟨u,hu,rfl⟩:=zMS.1 h1
   exact ⟨u,hdl,hu,hL ▸ hl,h.h r hr⟩
theorem f_op (L':List Nat) (hcq:Nat.beq c q=false) (hL:lateL ops H c=L') (h0:(stepC P N ops c s).isSome=true) (hl:lates P ops L' ((stepC P N ops c s).getD s)) (hq:(!Ch.contains q||(look ((stepC P N ops c s).getD s).T d).isNone)=true) (h:SimF a P N ops Q H q d Ch ((stepC P N ops c s).getD s)):SimF a P N ops Q H q d (c :: Ch) s:=by
 obtain ⟨s',h1⟩:=zIE.1 h0
 rw [h1] at hl h hq
 simp only [Option.getD_some] at hl h hq
 unfold stepC at h1
 refine ⟨fun r hr=>?_⟩
 have hne:¬ c=q:=fun e=>by subst e; simp at hcq
 simp only [ExF]
 cases ho:ops[c]? with
 | none=>rw [ho] at h1; cases h1
 | some o =>
  simp only [ho,obs,if_neg hne] at h1 ⊢
  unfold ExOp
  split at h1
  ·cases h1
  ·cases h1
  ·cases h1
  ·rename_i n1 n2 n3
   split at h1
   rotate_left
   ·cases h1
   rename_i hdl
   obtain ⟨u,hu,rfl⟩:=zMS.1 h1
   have key:ExRes N o s (fun s'=>lates P ops (lateL ops H c) s'∧(q ∈ Ch→look s'.T d=none)∧ExF P N ops (qh ops Q r) H q d Ch s') (aop P o (look s.T) (look s.H)):=by
    rw [hu]
    exact ⟨hdl,hL ▸ hl,noT_spec hq,h.h r hr⟩
   split
   ·rename_i he; exact absurd he (n1 _ _ _)
   ·rename_i he; exact absurd he (n2 _)
   ·rename_i he; exact absurd he (n3 _ _ _)
   ·exact .inl key
theorem f_enter (hf:(ops[c]?).bind (fun o=>(callOf (look s.T) o.op).map fun p=>(p.1,p.2,o.dst))=some (f,args,dst)) (hb:bodyOk P f=true) (hcq:Nat.beq c q=false) (h:SimC a P N f args dst s (fKf P N ops Q H q d Ch c) (qh ops Q)):SimF a P N ops Q H q d (c :: Ch) s:=by
 refine ⟨fun r hr=>?_⟩
 have hne:¬ c=q:=fun e=>by subst e; simp at hcq
 simp only [ExF]
 cases ho:ops[c]? with
 | none=>rw [ho] at hf; cases hf
 | some o =>
  simp only [ho,obs,if_neg hne] at hf ⊢
  obtain ⟨⟨f0,args0⟩,h1,h2⟩:=zMS.1 hf
  simp only [zPJ] at h2
  obtain ⟨rfl,rfl,rfl⟩:=h2
  exact exOp_call h1 hb (h.h r hr)
end
def sgm (b c:Nat):Nat→Nat:=fun x=>if x=b then c else x
def renS (b c:Nat) (s:St):St:=⟨s.T.map fun p=>(p.1,ren (sgm b c) p.2),s.H.map fun p=>(sgm b c p.1,renB (sgm b c) p.2)⟩
def noLp:List (Nat × Blk)→Bool
 | []=>true
 | (_,k) :: l=>(match k with | .lp ..=>false | _=>true)&&noLp l
theorem noLp_look:∀ {H:List (Nat × Blk)} {c:Nat} {k:Blk},noLp H=true→look H c=some k→(match k with | .lp ..=>false | _=>true)=true
 | [],c,k,_,h=>by cases h
 | (x,y) :: H,c,k,hn,h=>by
  simp only [noLp,bae] at hn
  simp only [look] at h
  split at h
  ·cases h; exact hn.1
  ·exact noLp_look hn.2 h
theorem weak_ren {N:Nat} {s:St} (b nq:Nat) (h:(Nat.blt b 1000&&(look s.H nq).isNone&&noLp s.H)=true):Weak N s (renS b nq s):=by
 simp only [bae,Nat.blt_eq] at h
 obtain ⟨⟨hb1,hnn⟩,hno⟩:=h
 have hn:look s.H nq=none:=by cases e:look s.H nq with | none=>rfl | some x=>rw [e] at hnn; cases hnn
 intro φ M0 D a w r
 have hbne:∀ c k,look s.H c=some k→c ≠ nq:=fun c k hc e=>by rw [e,hn] at hc; cases hc
 have hsinj:∀ c c',c ≠ nq→c' ≠ nq→sgm b nq c=sgm b nq c'→c=c':=by
  intro c c' h1 h2 he
  simp only [sgm] at he
  by_cases e1:c=b <;> by_cases e2:c'=b
  ·rw [e1,e2]
  ·simp only [e1,e2,if_true,if_false] at he; exact absurd he.symm h2
  ·simp only [e1,e2,if_true,if_false] at he; exact absurd he h1
  ·simpa only [e1,e2,if_false] using he
 let φ2:Nat→Nat:=fun x=>if x=nq then φ b else φ x
 have hφ2:∀ c,look s.H c ≠ none→φ2 (sgm b nq c)=φ c:=by
  intro c hc
  have hc2:c ≠ nq:=fun e=>hc (by rw [e,hn])
  simp only [φ2,sgm]
  by_cases e:c=b
  ·simp [e]
  ·simp [e,hc2]
 have hdomS:∀ c ∈ s.H.map (·.1),c ≠ nq:=fun c hc e=>by
  have:=look_mem.2 hc
  rw [e,hn] at this
  exact this rfl
 have hlook:∀ c k,look s.H c=some k→look ((renS b nq s).H) (sgm b nq c)=some (renB (sgm b nq) k):=by
  intro c k hk
  have hcm:c ∈ s.H.map (·.1):=look_mem.1 (by rw [hk]; simp)
  unfold renS
  rw [look_ren (fun x y hx hy hxy=>hsinj x y (hdomS x hx) (by rcases List.mem_cons.1 hy with rfl | hy; exact hdomS _ hcm; exact hdomS y hy) hxy),hk]
  rfl
 have hcase:∀ x k,look ((renS b nq s).H) x=some k→∃ c k',look s.H c=some k'∧sgm b nq c=x∧k=renB (sgm b nq) k':=by
  intro x k hx
  have:x ∈ ((renS b nq s).H).map (·.1):=look_mem.1 (by rw [hx]; simp)
  simp only [renS,List.map_map,List.mem_map,Function.comp] at this
  obtain ⟨q,hq,rfl⟩:=this
  have hqm:q.1 ∈ s.H.map (·.1):=List.mem_map_of_mem hq
  obtain ⟨k',hk'⟩:=zNE.1 (look_mem.2 hqm)
  rw [hlook q.1 k' hk'] at hx
  exact ⟨q.1,k',hk',rfl,(Option.some.inj hx).symm⟩
 have hmut:∀ x o,Mut φ2 (look ((renS b nq s).H)) x o→Mut φ (look s.H) x o:=by
  rintro x o ⟨y,k,g1,g2,g3⟩
  obtain ⟨c,k',g4,rfl,rfl⟩:=hcase y k g1
  refine ⟨c,k',g4,?_,?_⟩
  ·rw [← hφ2 c (by rw [g4]; simp)]; exact g2
  ·cases k' <;> exact g3
 have hM:∀ x o,MM φ2 (look ((renS b nq s).H)) M0 x o→MM φ (look s.H) M0 x o:=fun x o hx=>hx.elim (fun h=>.inl (hmut x o h)) .inr
 obtain ⟨o1,o2⟩:=ren_out (w:=w) (ρ:=sgm b nq) (φ:=φ2) (φc:=φ) (h:=look ((renS b nq s).H)) (hc:=look s.H) hφ2 hM hlook
 have hH2:RelH φ2 (look ((renS b nq s).H)) w M0:=by
  refine ⟨fun x y hx hy he=>?_,fun x k hx=>?_,fun x hx o hm=>?_,r.hp.lt,r.hp.gm.sub hM⟩
  ·obtain ⟨kx,hkx⟩:=zNE.1 hx
   obtain ⟨ky,hky⟩:=zNE.1 hy
   obtain ⟨c,k1,g1,rfl,_⟩:=hcase x kx hkx
   obtain ⟨c',k2,g2,rfl,_⟩:=hcase y ky hky
   rw [hφ2 c (by rw [g1]; simp),hφ2 c' (by rw [g2]; simp)] at he
   rw [r.hp.inj c c' (by rw [g1]; simp) (by rw [g2]; simp) he]
  ·obtain ⟨c,k',g1,rfl,rfl⟩:=hcase x k hx
   rw [hφ2 c (by rw [g1]; simp)]
   have:=r.hp.blk c k' g1
   cases k' with
   | box ty cs=>obtain ⟨c0,q1,q2⟩:=this; exact ⟨c0,q1,o2 _ _ q2⟩
   | arr ty S n=>exact this
   | vec ty S es=>obtain ⟨c0,cap,q1,q2,q3,q4,q5,q6,q7⟩:=this; exact ⟨c0,cap,q1,q2,q3,q4,q5,q6,repAs_ps hM _ _ q7⟩
   | lp T nf st pd =>
    obtain ⟨tmps,d,q1,q2,q3⟩:=this
    refine ⟨tmps,d,q1,q2,fun t x ht=>?_⟩
    rw [look_mapT] at ht
    cases hl:look T t with
    | none=>rw [hl] at ht; cases ht
    | some y =>
     rw [hl] at ht
     cases ht
     exact ⟨(q3 t y hl).1,o1 _ _ (q3 t y hl).2⟩
   | mp es =>
    obtain ⟨en,cl,q1,q2,q3⟩:=this
    refine ⟨en,cl,q1,q2,?_⟩
    have:=o2 _ _ q3
    rw [rens_p] at this; exact this
   | mm S G =>
    obtain ⟨en,cl,L,ks,q1,q2,q3,q4,q5⟩:=this
    have k3:=o2 _ _ q3
    have k4:=o2 _ _ q4
    rw [rens_pf] at k3 k4
    exact ⟨en,cl,L,ks,q1,q2,k3,k4,q5⟩
   | mf es =>
    obtain ⟨en,cl,q1,q2,q3,q4⟩:=this
    exact ⟨en,cl,q1,by rw [keys_on]; exact q2,by rw [rens_on]; exact o2 _ _ q3,q4⟩
   | mg en cl es =>
    obtain ⟨q1,q2,q3,q4⟩:=this
    exact ⟨q1,by rw [keys_on]; exact q2,by rw [rens_on]; exact o2 _ _ q3,q4⟩
   | it m cl sn =>
    obtain ⟨q1,k2,q2,q3⟩:=this
    exact ⟨by rw [hφ2 m (by rw [q2]; simp)]; exact q1,_,hlook m _ q2,by rw [renB_ob,q3]; rfl⟩
  ·obtain ⟨kx,hkx⟩:=zNE.1 hx
   obtain ⟨c,k1,g1,rfl,_⟩:=hcase x kx hkx
   rw [hφ2 c (by rw [g1]; simp)] at hm
   exact r.hp.fr c (by rw [g1]; simp) o hm
 have hobid:∀ c k x,look s.H c=some k→k.ob=some x→(some x).map (renO (sgm b nq))=some x:=by
  intro c k x hc ho
  have:=noLp_look hno hc
  cases k with
  | lp T nf st pd=>cases this
  | mp es=>cases ho; rfl
  | mf es=>cases ho; rfl
  | mg en cl es=>cases ho; rfl
  | it m cl sn=>cases ho; rfl
  | mm S G=>cases ho; rfl
  | _=>cases ho
 have hE2:Evol φ (look s.H) w φ2 (look ((renS b nq s).H)) w:=by
  refine ⟨rfl,rfl,rfl,zNR _,fun _ _ h=>h,fun _ _ _=>rfl,fun _ _ _ _=>rfl,fun x o _ hm=>hmut x o hm,?_,?_,?_,?_⟩
  ·intro c ty cs hc hcc
   have hne:c ≠ b:=by omega
   have hs:sgm b nq c=c:=by simp [sgm,hne]
   have:=hlook c _ hcc
   rw [hs] at this
   exact ⟨⟨rens (sgm b nq) cs,this⟩,by have:=hφ2 c (by rw [hcc]; simp); rwa [hs] at this⟩
  ·intro t ty S n ht htt
   have hne:t ≠ b:=by omega
   have hs:sgm b nq t=t:=by simp [sgm,hne]
   have h1:=hlook t _ htt
   rw [hs] at h1
   exact ⟨n,h1,zNR _,fun _=>akept (by have:=hφ2 t (by rw [htt]; simp); rwa [hs] at this) rfl⟩
  ·intro t ty S n ht htt
   have hne:t ≠ b:=by omega
   have hs:sgm b nq t=t:=by simp [sgm,hne]
   have h1:=hlook t _ htt
   rw [hs] at h1
   exact ⟨n,h1,zNR _,fun _=>⟨by have:=hφ2 t (by rw [htt]; simp); rwa [hs] at this,fun c hc=>⟨c,hc,rfl⟩⟩⟩
  ·intro c k x hc hcc ho
   have hne:c ≠ b:=by omega
   have hs:sgm b nq c=c:=by simp [sgm,hne]
   have h1:=hlook c _ hcc
   rw [hs] at h1
   exact ⟨⟨_,h1,by rw [renB_ob,ho]; exact hobid c k x hcc ho⟩,by have:=hφ2 c (by rw [hcc]; simp); rwa [hs] at this⟩
 have hT:∀ t,look (renS b nq s).T t=(look s.T t).map (ren (sgm b nq)):=fun t=>look_mapT (sgm b nq) s.T t
 refine ⟨φ2,⟨r.dfs.keep hE2,r.siz,hH2,fun t x ht=>?_⟩,hE2⟩
 rw [hT] at ht
 cases hl:look s.T t with
 | none=>rw [hl] at ht; cases ht
 | some y =>
  rw [hl] at ht
  cases ht
  exact ⟨(r.tm t y hl).1,o1 _ _ (r.tm t y hl).2⟩
def setB (k:Nat) (x:AV):Blk→Blk
 | .box ty cs=>.box ty (cs.set k x)
 | q=>q
def setC (b k:Nat) (x:AV) (s:St):St:=⟨s.T,s.H.map fun p=>if p.1=b then (p.1,setB k x p.2) else p⟩
theorem look_setC {b k:Nat} {x:AV}:∀ (H:List (Nat × Blk)) (c:Nat),look (H.map fun p=>if p.1=b then (p.1,setB k x p.2) else p) c=if b=c then (look H c).map (setB k x) else look H c
 | [],c=>by simp [look]
 | (d,q) :: H,c=>by
  rw [zMC]
  by_cases hdb:d=b
  ·subst hdb
   simp only [if_true,look]
   by_cases hdc:d=c
   ·simp [hdc]
   ·simp only [hdc,if_false]
    rw [look_setC H c]
    simp [hdc]
  ·simp only [hdb,if_false,look]
   by_cases hdc:d=c
   ·subst hdc
    simp [Ne.symm hdb]
   ·simp only [hdc,if_false]
    exact look_setC H c
theorem setC_upd {b k:Nat} {x:AV} {s:St} {ty:Nat} {cs:List AV} (hb:look s.H b=some (.box ty cs)):look (setC b k x s).H=upd (look s.H) b (.box ty (cs.set k x)):=by
 funext c
 show look (s.H.map _) c=_
 rw [look_setC]
 by_cases e:b=c
 ·subst e; simp [upd,hb,setB]
 ·simp [upd,e]
theorem repAs_ath {φ:Nat→Nat} {h:Heap} {w:World} {M:Mset}:∀ {cs:List AV} {l:List Value} {k:Nat} {x:AV},RepAs φ h w M cs l→cs[k]?=some x→∃ u,l[k]?=some u∧RepA φ h w M x u
 | [],l,k,x,_,h=>by simp at h
 | c :: cs,l,k,x,hr,h=>by
  simp only [RepAs] at hr
  obtain ⟨y,ys,rfl,h1,h2⟩:=hr
  cases k with
  | zero=>simp at h; subst h; exact ⟨y,rfl,h1⟩
  | succ k=>simp at h; simpa using repAs_ath h2 h
theorem repAs_seth {φ:Nat→Nat} {h:Heap} {w:World} {M:Mset}:∀ {cs:List AV} {l:List Value} {k:Nat} {x:AV} {u:Value},RepAs φ h w M cs l→l[k]?=some u→RepA φ h w M x u→RepAs φ h w M (cs.set k x) l
 | [],l,k,x,u,hr,hl,hx=>by simpa using hr
 | c :: cs,l,k,x,u,hr,hl,hx=>by
  simp only [RepAs] at hr
  obtain ⟨y,ys,rfl,h1,h2⟩:=hr
  cases k with
  | zero=>simp at hl; subst hl; exact ⟨_,ys,rfl,hx,h2⟩
  | succ k=>simp at hl; exact ⟨y,ys,rfl,h1,repAs_seth h2 hl hx⟩
section
variable {φ φ0:Nat→Nat} {h h0:Heap} {w w0:World} {M0:Mset} {b ty:Nat} {cs cs':List AV}
theorem upd_hext (hb:h b=some (.box ty cs)):HExt φ h w φ (upd h b (.box ty cs')) w:=by
 refine ⟨fun c t q hc=>⟨?_,rfl⟩,fun t t' S n hc=>⟨n,?_,zNR _,fun _=>akept rfl rfl⟩,fun t t' S n hc=>⟨n,?_,zNR _,fun _=>⟨rfl,fun c hc=>⟨c,hc,rfl⟩⟩⟩,fun c k x hc ho=>⟨⟨k,?_,ho⟩,rfl⟩⟩
 ·by_cases e:b=c
  ·subst e; exact ⟨ty,cs',by simp [upd]⟩
  ·exact ⟨t,q,by simp [upd,e,hc]⟩
 ·have:¬ b=t:=fun e=>by subst e; rw [hb] at hc; cases hc
  simp [upd,this,hc]
 ·have:¬ b=t:=fun e=>by subst e; rw [hb] at hc; cases hc
  simp [upd,this,hc]
 ·have:¬ b=c:=fun e=>by subst e; rw [hb] at hc; cases hc; cases ho
  simp [upd,this,hc]
theorem upd_mut (hb:h b=some (.box ty cs)):∀ r o,Mut φ (upd h b (.box ty cs')) r o→Mut φ h r o:=by
 rintro r o ⟨c,k,h1,h2,h3⟩
 by_cases e:b=c
 ·subst e
  exact ⟨b,_,hb,h2,trivial⟩
 ·simp only [upd,e,if_false] at h1
  exact ⟨c,k,h1,h2,h3⟩
theorem upd_evol (hb:h b=some (.box ty cs)):Evol φ h w φ (upd h b (.box ty cs')) w:=by
 have X:=upd_hext (φ:=φ) (w:=w) (cs':=cs') hb
 refine ⟨rfl,rfl,rfl,zNR _,fun _ _ h=>h,fun _ _ _=>rfl,fun _ _ _ _=>rfl,fun r o _ hm=>upd_mut hb r o hm,fun c t q _ hc=>?_,fun t t' S n _ hc=>X.t t t' S n hc,fun t t' S n _ hc=>X.v t t' S n hc,fun c k x _ hc ho=>X.o c k x hc ho⟩
 by_cases e:b=c
 ·subst e
  rw [hb] at hc
  cases hc
  exact ⟨⟨cs',by simp [upd]⟩,rfl⟩
 ·exact ⟨⟨q,by simp [upd,e,hc]⟩,rfl⟩
theorem upd_relH (hb:h b=some (.box ty cs)) (r:RelH φ h w M0) (hc:∀ c:Array Value,w.heap[φ b]?=some (.cells c ty (0,0))→RepAs φ h w (MM φ h M0) cs' c.toList):RelH φ (upd h b (.box ty cs')) w M0:=by
 have hk:∀ x o v,w.cell? ⟨x,o,none⟩=some v→¬ MM φ h M0 x o→w.cell? ⟨x,o,none⟩=some v∧¬ MM φ (upd h b (.box ty cs')) M0 x o∧(Unm w x→Unm w x):=fun x o v h1 h2=>⟨h1,fun hm=>h2 (hm.imp (upd_mut hb x o) id),id⟩
 have X:=upd_hext (φ:=φ) (w:=w) (cs':=cs') hb
 have hdom:∀ c,upd h b (.box ty cs') c ≠ none→h c ≠ none:=fun c hc=>by
  by_cases e:b=c
  ·subst e; rw [hb]; simp
  ·simpa [upd,e] using hc
 refine ⟨fun c d hc hd=>r.inj c d (hdom c hc) (hdom d hd),fun c k hck=>?_,fun c hc=>r.fr c (hdom c hc),r.lt,r.gm.sub fun x o hm=>hm.imp (upd_mut hb x o) id⟩
 by_cases e:b=c
 ·subst e
  simp only [upd,if_true,sie] at hck
  subst hck
  obtain ⟨q,h1,h2⟩:=r.blk b _ hb
  exact ⟨q,h1,(repA_keep hk X).2 _ _ (hc q h1)⟩
 ·simp only [upd,e,if_false] at hck
  exact relB_keep hk X rfl (r.blk c k hck)
end
theorem rel_upd {N:Nat} {D:DB} {φ:Nat→Nat} {M0:Mset} {T:Nat→Option AV} {h:Heap} {a:Act} {w:World} {b ty:Nat} {cs cs':List AV} (r:Rel φ M0 N D T h a w) (hb:h b=some (.box ty cs)) (hc:∀ c:Array Value,w.heap[φ b]?=some (.cells c ty (0,0))→RepAs φ h w (MM φ h M0) cs' c.toList) :
  Rel φ M0 N D T (upd h b (.box ty cs')) a w:=by
 have hk:∀ x o v,w.cell? ⟨x,o,none⟩=some v→¬ MM φ h M0 x o→w.cell? ⟨x,o,none⟩=some v∧¬ MM φ (upd h b (.box ty cs')) M0 x o∧(Unm w x→Unm w x):=fun x o v h1 h2=>⟨h1,fun hm=>h2 (hm.imp (upd_mut hb x o) id),id⟩
 exact ⟨r.dfs.keep (upd_evol hb),r.siz,upd_relH hb r.hp hc,fun t x ht=>⟨(r.tm t x ht).1,(repA_keep hk (upd_hext hb)).1 _ _ (r.tm t x ht).2⟩⟩
theorem look_keepF {α:Type} {f:Nat→Bool}:∀ {H:List (Nat × α)} {c:Nat},f c=true→look (H.filter fun p=>f p.1) c=look H c
 | [],c,_=>rfl
 | (d,q) :: H,c,hf=>by
  by_cases e:d=c
  ·subst e
   rw [List.filter_cons_of_pos (by simpa using hf)]
   simp [look]
  ·by_cases hd:f d=true
   ·rw [List.filter_cons_of_pos (by simpa using hd)]
    simp only [look,e,if_false]
    exact look_keepF hf
   ·rw [List.filter_cons_of_neg (by simpa using hd)]
    simp only [look,e,if_false]
    exact look_keepF hf
def restOk (t:Nat) (s sd:St):Bool:=okT (look sd.H) sd.T&&okH (look sd.H) sd.H&&keepsAll (look sd.H) (s.H.filter fun p=>p.1 != t)&&(look sd.H t).isNone
def restM (φ:Nat→Nat) (w:World) (t S n:Nat) (M0:Mset):Mset:=fun r o=>M0 r o∨(r=φ t∧n * S≤o∧r < w.heap.size)
theorem rel_rest {N:Nat} {D:DB} {φ:Nat→Nat} {M0:Mset} {s:St} {a:Act} {w:World} {t ty S n:Nat} {K:Keep} (r:Rel φ M0 N D (look s.T) (look s.H) a w) (hat:look s.H t=some (.arr ty S n)) (hok:restOk t s (shr K s)=true) :
  Rel φ (restM φ w t S n M0) N D (look (shr K s).T) (look (shr K s).H) a w∧(∀ x v,okRef (look (shr K s).H) x=true→RepA φ (look s.H) w (MM φ (look s.H) M0) x v→RepA φ (look (shr K s).H) w (MM φ (look (shr K s).H) (restM φ w t S n M0)) x v)∧(∀ b k',look (shr K s).H b=some k'→∃ k,look s.H b=some k∧leB k k') ∧
  (∀ r o,MM φ (look (shr K s).H) (restM φ w t S n M0) r o→MM φ (look s.H) M0 r o):=by
 simp only [restOk,bae] at hok
 obtain ⟨⟨⟨hT0,hH0⟩,hK⟩,hno⟩:=hok
 have hT:subT (look s.T) (look (shr K s).H) (shr K s).T:=subT_pick hT0
 have hH:subH (look s.H) (look (shr K s).H) (shr K s).H:=subH_pick hH0
 generalize shr K s=s' at *
 have htn:look s'.H t=none:=by cases e:look s'.H t with | none=>rfl | some x=>rw [e] at hno; cases hno
 have hh:∀ b k',look s'.H b=some k'→∃ k,look s.H b=some k∧leB k k':=fun b k' hb=>(subH_spec hH b k' hb).1
 have hmut:∀ r o,Mut φ (look s'.H) r o→Mut φ (look s.H) r o:=by
  rintro x o ⟨b,k',h1,h2,h3⟩
  obtain ⟨k,h4,h5⟩:=hh b k' h1
  refine ⟨b,k,h4,h2,?_⟩
  cases k with
  | arr ty S n=>simp only [leB] at h5; subst h5; exact h3
  | _=>trivial
 have hM:∀ r o,MM φ (look s'.H) (restM φ w t S n M0) r o→MM φ (look s.H) M0 r o:=by
  rintro x o (h | h | ⟨rfl,h,_⟩)
  ·exact .inl (hmut x o h)
  ·exact .inr h
  ·exact .inl ⟨t,_,hat,rfl,h⟩
 have hdom:∀ b,look s'.H b ≠ none→look s.H b ≠ none:=fun b hb=>by
  cases hq:look s'.H b with
  | none=>exact absurd hq hb
  | some k'=>obtain ⟨k,h1,_⟩:=hh b k' hq; rw [h1]; simp
 obtain ⟨c1,c2⟩:=repA_sub (φ:=φ) (w:=w) hM hh
 have htφ:∀ b,look s'.H b ≠ none→φ b ≠ φ t:=by
  intro b hb e
  have:=r.hp.inj b t (hdom b hb) (by rw [hat]; simp) e
  rw [this,htn] at hb
  exact hb rfl
 have hRH:RelH φ (look s'.H) w (restM φ w t S n M0):=by
  refine ⟨fun b c hb hc=>r.hp.inj b c (hdom b hb) (hdom c hc),fun b k' hb=>?_,fun b hb o hm=>?_,fun x o hx=>?_,r.hp.gm.sub hM⟩
  ·obtain ⟨⟨k,h1,h2⟩,h3⟩:=subH_spec hH b k' hb
   have h4:=r.hp.blk b k h1
   cases k with
   | box ty cs =>
    simp only [leB] at h2
    obtain ⟨cs',rfl,h5⟩:=h2
    obtain ⟨c,h6,h7⟩:=h4
    exact ⟨c,h6,c2 _ _ h3 (le_rep.2 _ _ _ h5 h7)⟩
   | arr ty S n=>simp only [leB] at h2; subst h2; exact h4
   | vec ty S es =>
    simp only [leB] at h2
    subst h2
    obtain ⟨c,cap,g1,g2,g3,g4,g5,g6,g7⟩:=h4
    exact ⟨c,cap,g1,g2,g3,g4,g5,g6,c2 _ _ (okRefs_p _ _) g7⟩
   | lp T nf st pd =>
    simp only [leB] at h2
    subst h2
    obtain ⟨tmps,d,g1,g2,g3⟩:=h4
    exact ⟨tmps,d,g1,g2,fun t x ht=>⟨(g3 t x ht).1,c1 _ _ (okRefs_look h3 ht) (g3 t x ht).2⟩⟩
   | mp es =>
    simp only [leB] at h2
    subst h2
    obtain ⟨en,cl,g1,g2,g3⟩:=h4
    exact ⟨en,cl,g1,g2,c2 _ _ (okRefs_mp _ _) g3⟩
   | mm S G =>
    simp only [leB] at h2
    subst h2
    obtain ⟨en,cl,L,ks,g1,g2,g3,g4,g5⟩:=h4
    exact ⟨en,cl,L,ks,g1,g2,c2 _ _ (okRefs_pf _ _ _) g3,c2 _ _ (okRefs_pf _ _ _) g4,g5⟩
   | mf es =>
    simp only [leB] at h2
    subst h2
    obtain ⟨en,cl,g1,g2,g3,g5⟩:=h4
    exact ⟨en,cl,g1,g2,c2 _ _ (okRefs_on h3) g3,g5⟩
   | mg en cl es =>
    simp only [leB] at h2
    subst h2
    obtain ⟨g1,g2,g3,g5⟩:=h4
    exact ⟨g1,g2,c2 _ _ (okRefs_on h3) g3,g5⟩
   | it m cl sn =>
    simp only [leB] at h2
    subst h2
    obtain ⟨g1,k0,g2,g3⟩:=h4
    obtain ⟨km,hkm⟩:=zIE.1 h3
    obtain ⟨k1,g5,g6⟩:=hh m km hkm
    rw [g2] at g5
    cases g5
    exact ⟨g1,km,hkm,leB_ob g6 g3⟩
  ·rcases hm with hm | ⟨hm,_⟩
   ·exact r.hp.fr b (hdom b hb) o hm
   ·exact htφ b hb hm
  ·rcases hx with hx | ⟨rfl,_,hx⟩
   ·exact r.hp.lt x o hx
   ·exact hx
 have hdfs:Marks φ D (look s'.H) a w:=by
  obtain ⟨h0,ms,h1,h2,h3⟩:=r.dfs
  exact ⟨h0,ms,h1,h2,fun x hx=>⟨(h3 x hx).1,(h3 x hx).2.1,fun b hb=>(h3 x hx).2.2 b (hdom b hb)⟩⟩
 refine ⟨⟨hdfs,r.siz,hRH,fun t x ht=>?_⟩,c1,hh,hM⟩
 obtain ⟨y,h1,h2,h3⟩:=subT_spec hT t x ht
 exact ⟨(r.tm t y h1).1,c1 _ _ h3 (le_rep.1 _ _ _ h2 (r.tm t y h1).2)⟩
def wake (b k t:Nat) (x:AV) (q:Blk) (s:St):St:=⟨s.T,(t,q) :: s.H.map fun p=>if p.1=b then (p.1,setB k x p.2) else p⟩
def cellAt (b k:Nat) (s:St):Option AV:=(look s.H b).bind fun q=>match q with | .box _ cs=>cs[k]? | _=>none
def holdP (b k t:Nat) (x:AV) (q:Blk) (u:Value) (K:St→Prop):St→Prop:=fun s'=>cellAt b k s'=some (.p (.val u))∧look s'.H t=none∧K (wake b k t x q s')
theorem cellAt_spec {b k:Nat} {s:St} {x:AV} (h:cellAt b k s=some x):∃ ty cs,look s.H b=some (.box ty cs)∧cs[k]?=some x:=by
 obtain ⟨y,h1,h2⟩:=zBS.1 h
 split at h2
 ·exact ⟨_,_,h1,h2⟩
 ·cases h2
theorem rel_wake {N:Nat} {D:DB} {φ φ':Nat→Nat} {M0:Mset} {s s':St} {a a':Act} {w w':World} {b k t ty S n:Nat} {es:List (List PV)} {u:Value} {K:Keep} (r:Rel φ M0 N D (look s.T) (look s.H) a w) (hat:look s.H t=some (.arr ty S n)) (hok:restOk t s (shr K s)=true) (hn:es.length=n) (hbt:¬ b=t)
  (hold:RepA φ (look s.H) w (MM φ (look s.H) M0) (.tsl S es t) u) (hc:cellAt b k s'=some (.p (.val u))) (htn:look s'.H t=none) (r':Rel φ' (restM φ w t S n M0) N D (look s'.T) (look s'.H) a' w') (E':Evol φ (look (shr K s).H) w φ' (look s'.H) w') :
  ∃ φ'',Rel φ'' M0 N D (look (wake b k t (.tsl S es t) (.arr ty S n) s').T) (look (wake b k t (.tsl S es t) (.arr ty S n) s').H) a' w'∧Evol φ (look s.H) w φ'' (look (wake b k t (.tsl S es t) (.arr ty S n) s').H) w' ∧
   ∀ x v,RepA φ' (look s'.H) w' (MM φ' (look s'.H) (restM φ w t S n M0)) x v→RepA φ'' (look (wake b k t (.tsl S es t) (.arr ty S n) s').H) w' (MM φ'' (look (wake b k t (.tsl S es t) (.arr ty S n) s').H) M0) x v:=by
 obtain ⟨rd,_,hh,hMd⟩:=rel_rest r hat hok
 simp only [restOk,bae] at hok
 obtain ⟨⟨⟨hT0,hH0⟩,hK⟩,hno⟩:=hok
 obtain ⟨ty1,cs,hb,hcs⟩:=cellAt_spec hc
 have hH:look (wake b k t (.tsl S es t) (.arr ty S n) s').H=upd (upd (look s'.H) b (.box ty1 (cs.set k (.tsl S es t)))) t (.arr ty S n):=by
  funext c
  simp only [wake,look]
  rw [look_setC]
  by_cases e:t=c
  ·simp [upd,e]
  ·by_cases e2:b=c
   ·subst e2; simp [upd,e,hb,setB]
   ·simp [upd,e,e2]
 rw [hH]
 show ∃ φ'',Rel φ'' M0 N D (look s'.T) _ a' w'∧_
 obtain ⟨tf,htf⟩:∃ tf,tf=if φ t < w.heap.size then φ t else w'.heap.size+((s'.H.map (·.1)).map φ').foldr max 0+1:=⟨_,rfl⟩
 have hreal:φ t < w.heap.size→tf=φ t:=fun h=>by rw [htf,if_pos h]
 have hph:¬ φ t < w.heap.size→w'.heap.size≤tf:=fun h=>by rw [htf,if_neg h]; omega
 have hph0:¬ φ t < w.heap.size→n=0:=fun h=>by
  rcases r.hp.blk t _ hat with h0 | ⟨c,cap,h1,_⟩
  ·exact h0.1
  ·exact absurd (zGS.1 h1).1 h
 have hfr:∀ c,look s'.H c ≠ none→φ' c ≠ tf:=by
  intro c hc e
  by_cases hlt:φ t < w.heap.size
  ·rw [hreal hlt] at e
   exact r'.hp.fr c hc (n * S) (.inr ⟨e,zNR _,by rw [e]; exact hlt⟩)
  ·have:=le_foldr_max ((s'.H.map (·.1)).map φ') (φ' c) (List.mem_map_of_mem (look_mem.1 hc))
   rw [htf,if_neg hlt] at e
   omega
 have hsame:φ t < w.heap.size→w'.heap[φ t]?=w.heap[φ t]?:=fun hlt=>E'.same (φ t) hlt fun c hc e=>rd.hp.fr c hc (n * S) (.inr ⟨e,zNR _,by rw [e]; exact hlt⟩)
 have hdom:∀ c,look (shr K s).H c ≠ none→look s.H c ≠ none:=fun c hb=>by
  cases hq:look (shr K s).H c with
  | none=>exact absurd hq hb
  | some k'=>obtain ⟨k,h1,_⟩:=hh c k' hq; rw [h1]; simp
 have hmutd:∀ x o,Mut φ (look (shr K s).H) x o→Mut φ (look s.H) x o:=by
  rintro x o ⟨c,k',h1,h2,h3⟩
  obtain ⟨k,h4,h5⟩:=hh c k' h1
  refine ⟨c,k,h4,h2,?_⟩
  cases k with
  | arr ty S n=>simp only [leB] at h5; subst h5; exact h3
  | _=>trivial
 let h0:Heap:=upd (upd (look s'.H) b (.box ty1 (cs.set k (.tsl S es t)))) t (.arr ty S n)
 have h0t:h0 t=some (.arr ty S n):=by simp [h0,upd]
 have h0b:h0 b=some (.box ty1 (cs.set k (.tsl S es t))):=by simp [h0,upd,Ne.symm hbt]
 have h0c:∀ c,¬ t=c→¬ b=c→h0 c=look s'.H c:=fun c e1 e2=>by simp [h0,upd,e1,e2]
 have hφc:∀ c,¬ t=c→updF φ' t tf c=φ' c:=fun c e=>by simp [updF,e]
 have hφtt:updF φ' t tf t=tf:=by simp [updF]
 have hmut0:∀ x o,Mut (updF φ' t tf) h0 x o→Mut φ' (look s'.H) x o∨(x=tf∧n * S≤o):=by
  rintro x o ⟨c,q,h1,h2,h3⟩
  by_cases e1:t=c
  ·subst e1
   rw [h0t] at h1
   cases h1
   rw [hφtt] at h2
   exact .inr ⟨h2.symm,h3⟩
  ·rw [hφc c e1] at h2
   by_cases e2:b=c
   ·subst e2
    exact .inl ⟨b,_,hb,h2,trivial⟩
   ·rw [h0c c e1 e2] at h1
    exact .inl ⟨c,q,h1,h2,h3⟩
 have hMM:∀ x o,x < w'.heap.size→MM (updF φ' t tf) h0 M0 x o→MM φ' (look s'.H) (restM φ w t S n M0) x o:=by
  rintro x o hx (h | h)
  ·rcases hmut0 x o h with h | ⟨h1,h2⟩
   ·exact .inl h
   ·by_cases hlt:φ t < w.heap.size
    ·rw [hreal hlt] at h1
     exact .inr (.inr ⟨h1,h2,by rw [h1]; exact hlt⟩)
    ·have:=hph hlt
     omega
  ·exact .inr (.inl h)
 have htc:∀ c q,look s'.H c=some q→¬ t=c:=fun c q hc e=>by subst e; rw [htn] at hc; cases hc
 have hbc:∀ c q,look s'.H c=some q→b=c→q=.box ty1 cs:=fun c q hc e=>by subst e; rw [hb] at hc; exact (Option.some.inj hc).symm
 have X:HExt φ' (look s'.H) w' (updF φ' t tf) h0 w':=by
  refine ⟨fun c t' cs' hc=>⟨?_,hφc c (htc c _ hc)⟩,fun c t' S n hc=>?_,fun c t' S n hc=>?_,fun c k' x hc ho=>?_⟩
  ·by_cases e:b=c
   ·subst e; exact ⟨_,_,h0b⟩
   ·exact ⟨t',cs',by rw [h0c c (htc c _ hc) e]; exact hc⟩
  ·have e:¬ b=c:=fun e=>by cases hbc c _ hc e
   exact ⟨n,by rw [h0c c (htc c _ hc) e]; exact hc,zNR _,fun _=>akept (hφc c (htc c _ hc)) rfl⟩
  ·have e:¬ b=c:=fun e=>by cases hbc c _ hc e
   exact ⟨n,by rw [h0c c (htc c _ hc) e]; exact hc,zNR _,fun _=>⟨hφc c (htc c _ hc),fun c hcc=>⟨c,hcc,rfl⟩⟩⟩
  ·have e:¬ b=c:=fun e=>by rw [hbc c _ hc e] at ho; cases ho
   exact ⟨⟨k',by rw [h0c c (htc c _ hc) e]; exact hc,ho⟩,hφc c (htc c _ hc)⟩
 have hkp:∀ x o v,w'.cell? ⟨x,o,none⟩=some v→¬ MM φ' (look s'.H) (restM φ w t S n M0) x o→w'.cell? ⟨x,o,none⟩=some v∧¬ MM (updF φ' t tf) h0 M0 x o∧(Unm w' x→Unm w' x):=fun x o v h1 h2=>⟨h1,fun hm=>h2 (hMM x o (cell_lt h1) hm),id⟩
 have hnew:RepA (updF φ' t tf) h0 w' (MM (updF φ' t tf) h0 M0) (.tsl S es t) u:=by
  simp only [RepA] at hold ⊢
  obtain ⟨p1,ty2,n2,p2,p3,p4⟩:=hold
  rw [hat] at p2
  cases p2
  refine ⟨(repP_keep (w:=w) (w':=w') (M:=MM φ (look s.H) M0) (fun x o v g1 g2=>?_)).1 _ _ p1,ty,n,h0t,by omega,fun _=>?_⟩
  rotate_left
  ·rcases p4 hn with ⟨z1,z2,z3⟩ | ⟨cap,c2,q1,q2,q3,q4,q5⟩
   ·have hlt:¬ φ t < w.heap.size:=fun h=>by have:=le_of_none z3; omega
    exact .inl ⟨z1,z2,by rw [hφtt]; exact none_of_le (hph hlt)⟩
   ·have hlt:φ t < w.heap.size:=(zGS.1 q2).1
    exact .inr ⟨cap,c2,by rw [hφtt,hreal hlt]; exact q1,by rw [hφtt,hreal hlt,hsame hlt]; exact q2,q3,q4,q5⟩
  obtain ⟨g3,g4,g5⟩:=E'.keeps (restM φ w t S n M0) x o v g1 (fun hm=>g2 (hMd x o hm))
  obtain ⟨g6,g7,_⟩:=hkp x o v g3 g4
  exact ⟨g6,g7,g5⟩
 refine ⟨updF φ' t tf,⟨?_,r'.siz,⟨?_,?_,?_,fun x o hx=>r'.hp.lt x o (.inl hx),r'.hp.gm.w,fun g hg o hm=>r'.hp.gm.m g hg o (hMM g o (gmW_lt r'.hp.gm.w g hg) hm)⟩,fun c x hcx=>⟨(r'.tm c x hcx).1,(repA_keep hkp X).1 _ _ (r'.tm c x hcx).2⟩⟩,?_,(repA_keep hkp X).1⟩
 ·obtain ⟨g0,ms,g1,g2,g3⟩:=r'.dfs
  refine ⟨g0,ms,g1,g2,fun x hx=>?_⟩
  obtain ⟨g4,g5,g6⟩:=g3 x hx
  refine ⟨g4,g5,fun c hc e=>?_⟩
  by_cases e1:t=c
  ·subst e1
   rw [hφtt] at e
   by_cases hlt:φ t < w.heap.size
   ·rw [hreal hlt] at e
    rcases r.hp.blk t _ hat with ⟨_,q1⟩ | ⟨c2,cap,q1,_⟩
    ·rw [← e,hsame hlt,q1] at g5
     cases g5
    ·rw [← e,hsame hlt,q1] at g5
     cases g5
   ·have h1:=hph hlt
    have h2:=(zGS.1 g5).1
    omega
  ·rw [hφc c e1] at e
   refine g6 c ?_ e
   by_cases e2:b=c
   ·subst e2; rw [hb]; simp
   ·rw [← h0c c e1 e2]; exact hc
 ·have hd0:∀ c,h0 c ≠ none→¬ t=c→look s'.H c ≠ none:=fun c hc e1=>by
   by_cases e2:b=c
   ·subst e2; rw [hb]; simp
   ·rw [← h0c c e1 e2]; exact hc
  intro c d hc hd e
  by_cases e1:t=c <;> by_cases e2:t=d
  ·exact e1.symm.trans e2
  ·subst e1
   rw [hφtt,hφc d e2] at e
   exact absurd e.symm (hfr d (hd0 d hd e2))
  ·subst e2
   rw [hφtt,hφc c e1] at e
   exact absurd e (hfr c (hd0 c hc e1))
  ·rw [hφc c e1,hφc d e2] at e
   exact r'.hp.inj c d (hd0 c hc e1) (hd0 d hd e2) e
 ·intro c q hc
  by_cases e1:t=c
  ·subst e1
   have:q=.arr ty S n:=Option.some.inj (hc.symm.trans h0t)
   subst this
   rw [hφtt]
   by_cases hlt:φ t < w.heap.size
   ·rw [hreal hlt]
    rcases r.hp.blk t _ hat with ⟨q0,q1⟩ | ⟨c2,cap,q1,q2⟩
    ·exact .inl ⟨q0,by rw [hsame hlt]; exact q1⟩
    ·exact .inr ⟨c2,cap,by rw [hsame hlt]; exact q1,q2⟩
   ·exact .inl ⟨hph0 hlt,none_of_le (hph hlt)⟩
  ·rw [hφc c e1]
   by_cases e2:b=c
   ·subst e2
    have:q=.box ty1 (cs.set k (.tsl S es t)):=Option.some.inj (hc.symm.trans h0b)
    subst this
    obtain ⟨c1,g1,g2⟩:=r'.hp.blk b _ hb
    obtain ⟨u',g3,g4⟩:=repAs_ath g2 hcs
    simp only [RepA,RepP] at g4
    subst g4
    exact ⟨c1,g1,repAs_seth ((repA_keep hkp X).2 _ _ g2) g3 hnew⟩
   ·have hc':look s'.H c=some q:=by rw [← h0c c e1 e2]; exact hc
    exact relB_keep hkp X rfl (r'.hp.blk c q hc')
 ·intro c hc o hm
  by_cases e1:t=c
  ·subst e1
   rw [hφtt] at hm
   by_cases hlt:φ t < w.heap.size
   ·rw [hreal hlt] at hm
    exact r.hp.fr t (by rw [hat]; simp) o hm
   ·have h1:=hph hlt
    have h2:=r'.hp.lt _ _ (.inl hm)
    omega
  ·rw [hφc c e1] at hm
   refine r'.hp.fr c ?_ o (.inl hm)
   by_cases e2:b=c
   ·subst e2; rw [hb]; simp
   ·rw [← h0c c e1 e2]; exact hc
 ·have hkk:∀ c q,1000≤c→¬ t=c→look s.H c=some q→∃ q',look (shr K s).H c=some q'∧leB q q':=by
   intro c q hc e1 hq
   have hf:look (s.H.filter fun p=>p.1 != t) c=some q:=by
    rw [look_keepF (f:=fun x=>x != t) (by simpa using fun e=>e1 e.symm)]
    exact hq
   obtain ⟨q',h1⟩:=keepsAll_spec hK c _ hc hf
   obtain ⟨q2,h2,h3⟩:=hh c q' h1
   rw [hq] at h2
   cases h2
   exact ⟨q',h1,h3⟩
  refine ⟨E'.os,E'.tape,E'.output,E'.size,E'.um,fun x hx hno=>E'.same x hx (fun c hc=>hno c (hdom c hc)),fun x o hx hm=>E'.cell x o hx (fun h=>hm (hmutd x o h)),?_,?_,?_,?_,?_⟩
  ·intro x o hx hm
   rcases hmut0 x o hm with h | ⟨h1,h⟩
   ·exact hmutd x o (E'.mu x o hx h)
   ·by_cases hlt:φ t < w.heap.size
    ·rw [hreal hlt] at h1
     exact ⟨t,_,hat,h1.symm,h⟩
    ·have:=hph hlt
     have:=E'.size
     omega
  ·intro c t' q hc hq
   have e1:¬ t=c:=fun e=>by subst e; rw [hat] at hq; cases hq
   obtain ⟨q',h1,h2⟩:=hkk c _ hc e1 hq
   simp only [leB] at h2
   obtain ⟨cs',rfl,_⟩:=h2
   obtain ⟨⟨cs2,h3⟩,h4⟩:=E'.kb c t' cs' hc h1
   refine ⟨?_,by rw [hφc c e1]; exact h4⟩
   by_cases e2:b=c
   ·subst e2
    rw [hb] at h3
    cases h3
    exact ⟨_,h0b⟩
   ·exact ⟨cs2,(h0c c e1 e2).trans h3⟩
  ·intro c t' S' n' hc hq
   by_cases e1:t=c
   ·subst e1
    rw [hat] at hq
    cases hq
    refine ⟨n,h0t,zNR _,fun _=>?_⟩
    by_cases hlt:φ t < w.heap.size
    ·exact akept (hφtt.trans (hreal hlt)) (hsame hlt)
    ·exact akept_none (none_of_le zo) (by rw [hφtt]; exact none_of_le (hph hlt))
   ·obtain ⟨q',h1,h2⟩:=hkk c _ hc e1 hq
    simp only [leB] at h2
    subst h2
    obtain ⟨n2,h3,h4,h5⟩:=E'.kt c t' S' n' hc h1
    have e2:¬ b=c:=fun e=>by cases hbc c _ h3 e
    exact ⟨n2,(h0c c e1 e2).trans h3,h4,fun e=>by rw [hφc c e1]; exact h5 e⟩
  ·intro c t' S' es' hc hq
   have e1:¬ t=c:=fun e=>by subst e; rw [hat] at hq; cases hq
   obtain ⟨q',h1,h2⟩:=hkk c _ hc e1 hq
   simp only [leB] at h2
   subst h2
   obtain ⟨n2,h3,h4,h5⟩:=E'.kv c t' S' es' hc h1
   have e2:¬ b=c:=fun e=>by cases hbc c _ h3 e
   exact ⟨n2,(h0c c e1 e2).trans h3,h4,fun e=>⟨by rw [hφc c e1]; exact (h5 e).1,(h5 e).2⟩⟩
  ·intro c q x hc hq ho
   have e1:¬ t=c:=fun e=>by subst e; rw [hat] at hq; cases hq; cases ho
   obtain ⟨q',h1,h2⟩:=hkk c _ hc e1 hq
   obtain ⟨⟨q2,h3,h4⟩,h5⟩:=E'.ko c q' x hc h1 (leB_ob h2 ho)
   have e2:¬ b=c:=fun e=>by rw [hbc c _ h3 e] at h4; cases h4
   exact ⟨⟨q2,(h0c c e1 e2).trans h3,h4⟩,by rw [hφc c e1]; exact h5⟩
section
variable {R:Type} {a:Option R} {P:Program} {N:Nat} {f:FuncId} {args:List AV} {dst:Option Tmp} {s:St} {K:R→St→Prop} {Q:R→AX→St→Prop}
def holdK {R:Type} (b k t:Nat) (x:AV) (q:Blk) (u:Value) (K:R→St→Prop):R→St→Prop:=fun r=>holdP b k t x q u (K r)
def holdQ {R:Type} (b k t:Nat) (x:AV) (q:Blk) (u:Value) (Q:R→AX→St→Prop):R→AX→St→Prop:=fun r e=>holdP b k t x q u (Q r e)
theorem sc_hold (b k t ty S n:Nat) (es:List (List PV)) (C:Keep) (hb:cellAt b k s=some (.tsl S es t)) (hat:look s.H t=some (.arr ty S n)) (hn:es.length=n) (hok:∀ aw al ac,(restOk t (setC b k (.p (.val (.slice aw al ac))) s) (shr C (setC b k (.p (.val (.slice aw al ac))) s))&&okRefs (look (shr C (setC b k (.p (.val (.slice aw al ac))) s)).H) args)=true)
  (h:∀ aw al ac,SimC a P N f args dst (shr C (setC b k (.p (.val (.slice aw al ac))) s)) (holdK b k t (.tsl S es t) (.arr ty S n) (.slice aw al ac) K) (holdQ b k t (.tsl S es t) (.arr ty S n) (.slice aw al ac) Q)):SimC a P N f args dst s K Q:=by
 refine ⟨fun r hr=>?_⟩
 intro φ M0 D ac w vs r1 ha
 obtain ⟨ty0,cs,hq,hq2⟩:=cellAt_spec hb
 obtain ⟨c,g1,g2⟩:=r1.hp.blk b _ hq
 obtain ⟨u,g3,g4⟩:=repAs_ath g2 hq2
 have hsl:∃ aw al ac,u=.slice aw al ac:=by
  have g5:=g4
  simp only [RepA] at g5
  obtain ⟨p1,ty2,n2,p2,p3,p4⟩:=g5
  rw [hat] at p2
  cases p2
  rcases p4 hn with ⟨_,q1,_⟩ | ⟨cap,c2,q1,_⟩
  ·exact ⟨_,_,_,q1⟩
  ·exact ⟨_,_,_,q1⟩
 obtain ⟨aw,al,ac1,hsl⟩:=hsl
 have hbt:¬ b=t:=fun e=>by subst e; rw [hq] at hat; cases hat
 have hU:look (setC b k (.p (.val u)) s).H=upd (look s.H) b (.box ty0 (cs.set k (.p (.val u)))):=setC_upd hq
 have hk:∀ x o v,w.cell? ⟨x,o,none⟩=some v→¬ MM φ (look s.H) M0 x o→w.cell? ⟨x,o,none⟩=some v∧¬ MM φ (upd (look s.H) b (.box ty0 (cs.set k (.p (.val u))))) M0 x o∧(Unm w x→Unm w x):=fun x o v g1 g2=>⟨g1,fun hm=>g2 (hm.imp (upd_mut hq x o) id),id⟩
 have r2:Rel φ M0 N D (look (setC b k (.p (.val u)) s).T) (look (setC b k (.p (.val u)) s).H) ac w:=by
  rw [hU]
  refine rel_upd r1 hq fun c2 hc2=>?_
  rw [g1] at hc2
  cases hc2
  exact repAs_seth g2 g3 (by simp [RepA,RepP])
 have hut:look (setC b k (.p (.val u)) s).H t=some (.arr ty S n):=by rw [hU]; simp [upd,hbt,hat]
 have hold:RepA φ (look (setC b k (.p (.val u)) s).H) w (MM φ (look (setC b k (.p (.val u)) s).H) M0) (.tsl S es t) u:=by
  rw [hU]
  exact (repA_keep hk (upd_hext hq)).1 _ _ g4
 have E1:Evol φ (look s.H) w φ (look (setC b k (.p (.val u)) s).H) w:=by rw [hU]; exact upd_evol hq
 have ha2:RepAs φ (look (setC b k (.p (.val u)) s).H) w (MM φ (look (setC b k (.p (.val u)) s).H) M0) args vs:=by
  rw [hU]
  exact (repA_keep hk (upd_hext hq)).2 _ _ ha
 have hok0:=hok aw al ac1
 rw [← hsl] at hok0
 simp only [bae] at hok0
 obtain ⟨hok1,hok2⟩:=hok0
 obtain ⟨r3,c1,hh,hMd⟩:=rel_rest r2 hut hok1
 have ha3:=(repA_sub (φ:=φ) (w:=w) hMd hh).2 _ _ hok2 ha2
 have hu:=h aw al ac1
 rw [← hsl] at hu
 refine Calls.mono (hu.h r hr φ _ D ac w vs r3 ha3) fun e w' he=>?_
 cases e with
 | returned v =>
  obtain ⟨φ',s',⟨k1,k2,k3⟩,r',E'⟩:=he
  obtain ⟨φ'',r4,E4,_⟩:=rel_wake r2 hut hok1 hn hbt hold k1 k2 r' E'
  exact ⟨φ'',_,k3,r4,E1.trans E4⟩
 | panicked chain =>
  obtain ⟨φ',x,s',⟨k1,k2,k3⟩,r',E',hx⟩:=he
  obtain ⟨φ'',r4,E4,hX⟩:=rel_wake r2 hut hok1 hn hbt hold k1 k2 r' E'
  refine ⟨φ'',x,_,k3,r4,E1.trans E4,?_⟩
  cases x with
  | panic v =>
   obtain ⟨y,e1,e2⟩:=hx
   exact ⟨y,e1,hX _ _ e2⟩
  | _=>exact hx
 | outgrown=>exact he
theorem k_hold {b k t:Nat} {x:AV} {q:Blk} {u:Value} {s':St} (s0:St) (e:wake b k t x q s'=s0) (hb:cellAt b k s'=some (.p (.val u))) (ht:look s'.H t=none) (h:SimK a K s0):SimK a (holdK b k t x q u K) s':=by
 subst e
 exact ⟨fun r hr=>⟨hb,ht,h.h r hr⟩⟩
theorem q_hold {b k t:Nat} {x:AV} {q:Blk} {u:Value} {s':St} {ex:AX} (s0:St) (e:wake b k t x q s'=s0) (hb:cellAt b k s'=some (.p (.val u))) (ht:look s'.H t=none) (h:SimQ a Q ex s0):SimQ a (holdQ b k t x q u Q) ex s':=by
 subst e
 exact ⟨fun r hr=>⟨hb,ht,h.h r hr⟩⟩
end
section
variable {P:Program} {o:Oper} {T:Nat→Option AV} {h:Heap}
theorem extract_mkS (l:List UInt8) (a b:Nat):(mkS l).extract a b=mkS ((l.take b).drop a):=by
 apply ByteArray.ext
 simp [mkS,ByteArray.data_extract,List.drop_take]
theorem size_mkS (l:List UInt8):(mkS l).size=l.length:=by simp [mkS,ByteArray.size]
theorem pureRun_bind {α β:Type} {P:Program} {s:Sem α} {a:α} (f:α→Sem β) (h:pureRun P s=some a):pureRun P (s >>= f)=pureRun P (f a):=by
 induction s with
 | pure b=>simp only [pureRun,sie] at h; subst h; rfl
 | program k ih=>exact ih P h
 | mark m k ih=>exact ih h
 | _=>simp [pureRun] at h
theorem pr_underlying {t:TypeId} {d:TypeDesc} (h:P.underlying t=some d):pureRun P (underlying t)=some d:=by
 unfold underlying
 rw [pureRun_bind (a:=P) _ rfl,h]
 rfl
theorem pr_bound {k:IntKind} {i:Int} {y:Nat} {c:BoundsCode} (h0:0≤i) (h1:i≤y):pureRun P (Instr.sliceBound (.int k i) y c)=some i.toNat:=by
 simp [Instr.sliceBound,asIntOf,h0,h1]
 rfl
def vOf (T:Nat→Option AV) (x:Option Operand):Option Value:=x.map fun y=>(known T y).getD undef
theorem natA_v {x:Operand} {d n:Int} (h:natA T d (some x)=some n):∃ k,known T x=some (.int k n):=by
 simp only [natA] at h
 split at h
 ·rename_i k m hx
  cases h
  exact ⟨k,by simp [known,hx]; rfl⟩
 ·cases h
theorem pr_bounds {lo hi:Option Operand} {len:Nat} {a b:Int} (hlo:natA T 0 lo=some a) (hhi:natA T len hi=some b) (h0:0≤a) (h1:a≤b) (h2:b≤len):pureRun P (Instr.sliceBounds false len len (vOf T lo) (vOf T hi) none)=some (a.toNat,b.toNat,len):=by
 have hb:(b.toNat:Int)=b:=by omega
 cases hi with
 | none =>
  simp only [natA,sie] at hhi
  subst hhi
  cases lo with
  | none =>
   simp only [natA,sie] at hlo
   subst hlo
   simp [Instr.sliceBounds,vOf]
   rfl
  | some x =>
   obtain ⟨k,hk⟩:=natA_v hlo
   simp only [Instr.sliceBounds,vOf,Option.map_some,Option.map_none,hk,Option.getD_some,pure_bind]
   rw [pureRun_bind _ (pr_bound h0 h1)]
   rfl
 | some y =>
  obtain ⟨k',hk'⟩:=natA_v hhi
  cases lo with
  | none =>
   simp only [natA,sie] at hlo
   subst hlo
   simp only [Instr.sliceBounds,vOf,Option.map_some,Option.map_none,hk',Option.getD_some,pure_bind]
   rw [pureRun_bind _ (pr_bound zo h2)]
   rfl
  | some x =>
   obtain ⟨k,hk⟩:=natA_v hlo
   simp only [Instr.sliceBounds,vOf,Option.map_some,hk,hk',Option.getD_some,pure_bind]
   rw [pureRun_bind _ (pr_bound zo h2)]
   rw [pureRun_bind _ (pr_bound h0 zo)]
   rfl
theorem aop_sslice {t:TypeId} {x:Operand} {lo hi:Option Operand} {l:List UInt8} {a b:Int} (ho:o.op=.slice t x lo hi none) (ht:P.underlying t=some .string) (hx:evO T x=some (.p (.val (.string (mkS l))))) (hlo:natA T 0 lo=some a) (hhi:natA T l.length hi=some b)
  (hc:sliceB a b l.length=true):aop P o T h=some (.p (.val (.string (mkS ((l.take b.toNat).drop a.toNat)))),none,[]):=by
 simp only [sliceB,zDT] at hc
 obtain ⟨c1,c2,c3⟩:=hc
 have h1:aSlice P T t x lo hi none=none:=by simp [aSlice,ht,hx]
 have hk:known T x=some (.string (mkS l)):=by simp [known,hx]; rfl
 have hall:(allKnown T o.op.operands.toList&&notSelect o.op)=true:=by
  rw [ho]
  have e1:∀ y,lo=some y→(known T y).isSome=true:=by
   rintro y rfl
   obtain ⟨k,hk⟩:=natA_v hlo
   rw [hk]; rfl
  have e2:∀ y,hi=some y→(known T y).isSome=true:=by
   rintro y rfl
   obtain ⟨k,hk⟩:=natA_v hhi
   rw [hk]; rfl
  cases lo with
  | none =>
   cases hi with
   | none=>simp [Op.operands,allKnown,notSelect,hk]
   | some y=>simp [Op.operands,allKnown,notSelect,hk,e2 y rfl]
  | some x =>
   cases hi with
   | none=>simp [Op.operands,allKnown,notSelect,hk,e1 x rfl]
   | some y=>simp [Op.operands,allKnown,notSelect,hk,e1 x rfl,e2 y rfl]
 have hrun:pureRun P (execOp (fun x=>(known T x).getD undef) o)=some (.value (.string (mkS ((l.take b.toNat).drop a.toNat)))):=by
  unfold execOp
  rw [ho]
  dsimp only
  have:pureRun P (Instr.sliceAt t ((known T x).getD undef) (vOf T lo) (vOf T hi) none)=some (.string (mkS ((l.take b.toNat).drop a.toNat))):=by
   rw [hk]
   unfold Instr.sliceAt
   rw [pureRun_bind _ (pr_underlying ht)]
   show pureRun P (Instr.slice t (.string (mkS l)) (vOf T lo) (vOf T hi) none)=_
   unfold Instr.slice
   rw [pureRun_bind _ (pr_underlying ht)]
   have hB:=pr_bounds (P:=P) (T:=T) hlo hhi c1 c2 c3
   rw [← size_mkS l] at hB
   have:pureRun P (Instr.sliceBounds false (mkS l).size (mkS l).size (vOf T lo) (vOf T hi) none >>= fun x=>(pure (.string ((mkS l).extract x.1 x.2.1)):Sem Value))=some (.string (mkS ((l.take b.toNat).drop a.toNat))):=by
    rw [pureRun_bind _ hB,extract_mkS]
    rfl
   exact this
  exact (pureRun_bind _ this)
 simp only [aop,ho,h1,orE]
 unfold aPure
 rw [if_pos hall,hrun]
 rfl
end
def nilA:AV→Bool
 | .p (.val (.slice none 0 0))=>true
 | .vnil=>true
 | _=>false
theorem nilA_rep {φ:Nat→Nat} {h:Heap} {w:World} {M:Mset} {x:AV} {v:Value} (hx:nilA x=true) (hr:RepA φ h w M x v):v=.slice none 0 0:=by
 unfold nilA at hx
 split at hx
 ·simpa [RepA,RepP] using hr
 ·simpa [RepA] using hr
 ·cases hx
def pnC (S t:Nat):List (Nat × Nat)→St→St
 | [],s=>s
 | (b,k) :: l,s=>pnC S t l (setC b k (.tsl S [] t) s)
def pnCk (S t:Nat):List (Nat × Nat)→St→Bool
 | [],_=>true
 | (b,k) :: l,s=>(match cellAt b k s with | some x=>nilA x | none=>false)&&pnCk S t l (setC b k (.tsl S [] t) s)
def pnS (ty S t:Nat) (ts:List Nat) (bs:List (Nat × Nat)) (s:St):St:=pnC S t bs ⟨ts.map (fun x=>(x,AV.tsl S [] t))++s.T,(t, .arr ty S 0) :: s.H⟩
def pnOk (ty S t:Nat) (ts:List Nat) (bs:List (Nat × Nat)) (s:St):Bool :=
 (look s.H t).isNone&&ts.all (fun x=>match look s.T x with | some v=>nilA v | none=>false)&&pnCk S t bs ⟨ts.map (fun x=>(x,AV.tsl S [] t))++s.T,(t, .arr ty S 0) :: s.H⟩
def PnAt (φ:Nat→Nat) (h:Heap) (w:World) (ty S t:Nat):Prop:=w.heap[φ t]?=none∧h t=some (.arr ty S 0)
theorem pn_rep {φ:Nat→Nat} {h:Heap} {w:World} {M:Mset} {ty S t:Nat} (p:PnAt φ h w ty S t):RepA φ h w M (.tsl S [] t) (.slice none 0 0):=by
 simp only [RepA,RepP]
 exact ⟨.inr ⟨trivial,none,0,rfl⟩,ty,0,p.2,zNR _,fun _=>.inl (by simp [p.1])⟩
theorem pnC_ok {N:Nat} {D:DB} {φ:Nat→Nat} {M0:Mset} {a:Act} {w:World} {ty S t:Nat}:∀ (bs:List (Nat × Nat)) (s:St),pnCk S t bs s=true→PnAt φ (look s.H) w ty S t→Rel φ M0 N D (look s.T) (look s.H) a w →
  Rel φ M0 N D (look (pnC S t bs s).T) (look (pnC S t bs s).H) a w∧Evol φ (look s.H) w φ (look (pnC S t bs s).H) w
 | [],s,_,_,r=>⟨r,Evol.refl _ _ _⟩
 | (b,k) :: bs,s,h,p,r=>by
  simp only [pnCk,bae] at h
  obtain ⟨h1,h2⟩:=h
  cases hc:cellAt b k s with
  | none=>rw [hc] at h1; cases h1
  | some x =>
   rw [hc] at h1
   obtain ⟨ty0,cs,hb,hcs⟩:=cellAt_spec hc
   have hU:=setC_upd (k:=k) (x:=.tsl S [] t) hb
   have hbt:¬ b=t:=fun e=>by rw [e,p.2] at hb; cases hb
   have p':PnAt φ (look (setC b k (.tsl S [] t) s).H) w ty S t:=⟨p.1,by rw [hU]; simp [upd,hbt,p.2]⟩
   have r':Rel φ M0 N D (look (setC b k (.tsl S [] t) s).T) (look (setC b k (.tsl S [] t) s).H) a w:=by
    rw [hU]
    refine rel_upd r hb fun c hcc=>?_
    obtain ⟨c0,g1,g2⟩:=r.hp.blk b _ hb
    rw [g1] at hcc
    cases hcc
    obtain ⟨u,g3,g4⟩:=repAs_ath g2 hcs
    rw [nilA_rep h1 g4] at g3
    exact repAs_seth g2 g3 (pn_rep p)
   obtain ⟨r2,E2⟩:=pnC_ok bs (setC b k (.tsl S [] t) s) h2 p' r'
   have E1:Evol φ (look s.H) w φ (look (setC b k (.tsl S [] t) s).H) w:=by rw [hU]; exact upd_evol hb
   exact ⟨r2,E1.trans E2⟩
theorem look_pnT {S t:Nat} {T:List (Nat × AV)}:∀ (ts:List Nat) (x:Nat),look (ts.map (fun x=>(x,AV.tsl S [] t))++T) x=if x ∈ ts then some (.tsl S [] t) else look T x
 | [],x=>by simp
 | y :: ts,x=>by
  simp only [zMC,List.cons_append,look,List.mem_cons]
  by_cases e:y=x
  ·simp [e]
  ·have e':¬ x=y:=fun h=>e h.symm
   simp only [e,e',if_false,false_or]
   exact look_pnT ts x
theorem weak_pn {N:Nat} {s:St} (ty S t:Nat) (ts:List Nat) (bs:List (Nat × Nat)) (hok:pnOk ty S t ts bs s=true):Weak N s (pnS ty S t ts bs s):=by
 intro φ M0 D a w r
 simp only [pnOk,bae] at hok
 obtain ⟨⟨h1,h2⟩,h3⟩:=hok
 have hn:look s.H t=none:=by cases e:look s.H t with | none=>rfl | some x=>rw [e] at h1; cases h1
 obtain ⟨f,hf⟩:∃ f,f=w.heap.size+((s.H.map (·.1)).map φ).foldr max 0+1:=⟨_,rfl⟩
 have hfn:∀ c,look s.H c ≠ none→φ c ≠ f:=by
  intro c hc e
  have:=le_foldr_max ((s.H.map (·.1)).map φ) (φ c) (List.mem_map_of_mem (look_mem.1 hc))
  omega
 have hff:w.heap.size≤f:=by omega
 have hne:∀ c q,look s.H c=some q→¬ t=c:=fun c q hc e=>by rw [e] at hn; rw [hn] at hc; cases hc
 have hφt:updF φ t f t=f:=by simp [updF]
 have X:HExt φ (look s.H) w (updF φ t f) (upd (look s.H) t (.arr ty S 0)) w:=by
  refine ⟨fun c t' cs' hc=>?_,fun c t' S n hc=>?_,fun c t' S n hc=>?_,fun c k' x hc ho=>?_⟩
  ·have:=hne c _ hc
   exact ⟨⟨t',cs',by simp [upd,this,hc]⟩,by simp [updF,this]⟩
  ·have:=hne c _ hc
   exact ⟨n,by simp [upd,this,hc],zNR _,fun _=>akept (by simp [updF,this]) rfl⟩
  ·have:=hne c _ hc
   exact ⟨n,by simp [upd,this,hc],zNR _,fun _=>⟨by simp [updF,this],fun c hcc=>⟨c,hcc,rfl⟩⟩⟩
  ·have:=hne c _ hc
   exact ⟨⟨k',by simp [upd,this,hc],ho⟩,by simp [updF,this]⟩
 have hmut:∀ x o,x < w.heap.size→Mut (updF φ t f) (upd (look s.H) t (.arr ty S 0)) x o→Mut φ (look s.H) x o:=by
  rintro x o hx ⟨c,q,g1,g2,g3⟩
  by_cases e:t=c
  ·simp only [updF,e,if_true] at g2
   omega
  ·simp only [upd,updF,e,if_false] at g1 g2
   exact ⟨c,q,g1,g2,g3⟩
 have E:Evol φ (look s.H) w (updF φ t f) (upd (look s.H) t (.arr ty S 0)) w :=
  ⟨rfl,rfl,rfl,zNR _,fun _ _ h=>h,fun _ _ _=>rfl,fun _ _ _ _=>rfl,fun x o hx hm=>hmut x o hx hm,
   fun c t' cs _ hc=>by have:=hne c _ hc; exact ⟨⟨cs,by simp [upd,this,hc]⟩,by simp [updF,this]⟩,fun c t' S n _ hc=>X.t c t' S n hc,fun c t' S n _ hc=>X.v c t' S n hc,fun c k x _ hc ho=>X.o c k x hc ho⟩
 have hp:RelH (updF φ t f) (upd (look s.H) t (.arr ty S 0)) w M0:=by
  refine ⟨fun c d hc hd e=>?_,fun c q hc=>?_,fun c hc o hm=>?_,r.hp.lt,r.hp.gm.evol E⟩
  ·by_cases e1:t=c <;> by_cases e2:t=d
   ·exact e1.symm.trans e2
   ·have e3:¬ c=d:=fun x=>e2 (e1.trans x)
    simp only [updF,e1,if_true,e3,if_false] at e
    simp only [upd,e2,if_false] at hd
    exact absurd e.symm (hfn d hd)
   ·have e3:¬ d=c:=fun x=>e1 (e2.trans x)
    simp only [updF,e2,if_true,e3,if_false] at e
    simp only [upd,e1,if_false] at hc
    exact absurd e (hfn c hc)
   ·simp only [updF,e1,e2,if_false] at e
    simp only [upd,e1,e2,if_false] at hc hd
    exact r.hp.inj c d hc hd e
  ·by_cases e:t=c
   ·have:q=.arr ty S 0:=by simpa [upd,e] using hc.symm
    subst this
    rw [← e,hφt]
    exact .inl ⟨rfl,none_of_le hff⟩
   ·have hc':look s.H c=some q:=by simpa [upd,e] using hc
    have h3:updF φ t f c=φ c:=by simp [updF,e]
    rw [h3]
    exact relB_keep (E.keeps M0) X rfl (r.hp.blk c q hc')
  ·by_cases e:t=c
   ·rw [← e,hφt] at hm
    have:=r.hp.lt _ _ hm
    omega
   ·have h3:updF φ t f c=φ c:=by simp [updF,e]
    rw [h3] at hm
    exact r.hp.fr c (by simpa [upd,e] using hc) o hm
 have r1:=r.keep E X hp
 have pa:PnAt (updF φ t f) (upd (look s.H) t (.arr ty S 0)) w ty S t:=⟨by rw [hφt]; exact none_of_le hff,by simp [upd]⟩
 let s1:St:=⟨ts.map (fun x=>(x,AV.tsl S [] t))++s.T,(t, .arr ty S 0) :: s.H⟩
 have r2:Rel (updF φ t f) M0 N D (look s1.T) (look s1.H) a w:=by
  refine ⟨r1.dfs,r1.siz,r1.hp,fun x v hx=>?_⟩
  rw [look_pnT] at hx
  by_cases hm:x ∈ ts
  ·rw [if_pos hm] at hx
   cases hx
   have h4:=zAT.1 h2 x hm
   cases hl:look s.T x with
   | none=>rw [hl] at h4; cases h4
   | some y =>
    rw [hl] at h4
    obtain ⟨g1,g2⟩:=r1.tm x y hl
    refine ⟨g1,?_⟩
    rw [nilA_rep h4 g2]
    exact pn_rep pa
  ·rw [if_neg hm] at hx
   exact r1.tm x v hx
 obtain ⟨r3,E3⟩:=pnC_ok (ty:=ty) bs s1 h3 pa r2
 exact ⟨_,r3,E.trans E3⟩
end Go.Abs
namespace Go.Abs
open Go Go.ChangeShapes Go.WideShapes
def tilesOk (P:Program) (total:Nat):Nat→List Field→Bool
 | off,[]=>off == total
 | off,f :: r=>f.offset == off&&tilesOk P total (off+P.cellsOf f.type) r
def ShFs (S:TypeId→List PV→Prop):List Field→List PV→Prop
 | [],cs=>cs=[]
 | f :: r,cs=>∃ a b,cs=a++b∧S f.type a∧ShFs S r b
def ShN (S:List PV→Prop):Nat→List PV→Prop
 | 0,cs=>cs=[]
 | n+1,cs=>∃ a b,cs=a++b∧S a∧ShN S n b
def Sh (P:Program):Nat→TypeId→List PV→Prop
 | 0,_,_=>False
 | d+1,t,cs=>match P.underlying t with
  | some .bool=>∃ b,cs=[.val (.bool b)]
  | some (.int k)=>∃ n,cs=[.val (.int k n)]∧(Lit.int k n).wf=true
  | some .string=>∃ s:List UInt8,cs=[.val (.string (mkS s))]∧s.length≤maxLen
  | some (.slice e)=>∃ es,cs=[.sl (P.cellsOf e) es]∧es.length≤maxLen∧∀ x ∈ es,Sh P d e x
  | some (.struct fs)=>ShFs (Sh P d) fs.toList cs
  | some (.array n e)=>ShN (Sh P d e) n cs
  | _=>False
section
variable {H:Type} {enc:TypeId × Value→H} {P:Program} {w:World} {held:Bool} {φ:Nat→Nat} {M:Mset}
theorem cells?_get {base:Nat} {a:Addr} {n:Nat} {vs:List Value} (h:w.cells? base a n=some vs):vs.length=n∧∀ i,i < n→w.cell? (a.add i)=vs[i]?:=by
 unfold World.cells? at h
 split at h
 ·have h1:=mapM_some_length h
  refine ⟨by simpa using h1,fun i hi=>?_⟩
  exact mapM_some_get h i i (by simp [hi])
 ·cases h
theorem add_zero (a:Addr):a.add 0=a:=rfl
theorem add_some {b off n:Nat}:(⟨b,off,none⟩:Addr).add n=⟨b,off+n,none⟩:=by
 unfold Addr.add
 split
 ·rename_i h; subst h; rfl
 ·rfl
theorem cell?_spot {a:Addr} {v:Value} (h:w.cell? a=some v):a.spot=none:=by
 unfold World.cell? at h
 split at h
 ·split at h
  ·cases h
  ·rename_i h2; cases hs:a.spot with
   | none=>rfl
   | some s=>simp [hs] at h2
 ·cases h
theorem pick_list {Q:Nat→List PV→Prop}:∀ (n:Nat),(∀ i,i < n→∃ c,Q i c)→∃ es:List (List PV),es.length=n∧∀ i c,es[i]?=some c→Q i c
 | 0,_=>⟨[],rfl,by simp⟩
 | n+1,h=>by
  obtain ⟨es,h1,h2⟩:=pick_list n (fun i hi=>h i zo)
  obtain ⟨c,hc⟩:=h n zo
  refine ⟨es++[c],by simp [h1],fun i c' hi=>?_⟩
  rcases Nat.lt_or_ge i n with hlt | hge
  ·rw [List.getElem?_append_left zo] at hi
   exact h2 i c' hi
  ·have:i < n+1:=by have:=(zLG.1 hi).1; simp [h1] at this; omega
   obtain rfl:i=n:=by omega
   rw [List.getElem?_append_right zo] at hi
   simp [h1] at hi
   subst hi
   exact hc
end
end Go.Abs
namespace Go.Abs
open Go Go.ChangeShapes Go.WideShapes Go.ChangeAt Go.RowKit
def one1:List PV→AV
 | [c]=>.p c
 | cs=>ag cs
def avOf (P:Program) (t:TypeId) (cs:List PV):AV :=
 match P.underlying t with
 | some (.struct _)=>ag cs
 | some (.array _ _)=>ag cs
 | _=>one1 cs
section
variable {H:Type} {enc:TypeId × Value→H} {P:Program} {w:World} {φ:Nat→Nat} {M:Mset}
structure Over (w w':World):Prop where
 os:w'.os=w.os
 output:w'.output=w.output
 same:∀ r,r < w.heap.size→w'.heap[r]?=w.heap[r]?
theorem over_of_evol {φ φ':Nat→Nat} {h':Heap} {w w':World} (E:Evol φ emp w φ' h' w'):Over w w' :=
 ⟨E.os,E.output,fun r hr=>E.same r hr (fun b hb=>absurd rfl hb)⟩
theorem Over.kept {w w':World} (o:Over w w') (may:MemPlace→Prop):w.keptBut w' may:=by
 refine ⟨o.os,o.output,fun i hi=>?_⟩
 rw [o.same i hi]
 cases h:w.heap[i]? with
 | none=>rfl
 | some x=>cases x <;> simp
theorem Over.at {w w':World} (o:Over w w') {p:MemPlace} (h:p.block < w.heap.size):w.sameAt w' p:=by
 cases p with
 | cell b off=>simp only [World.sameAt,World.cell?]; rw [o.same b h]
 | map b=>exact o.same b h
theorem Over.frozen {w w':World} (o:Over w w') {a:Addr} (h:a.block < w.heap.size):w'.frozen? a=w.frozen? a:=by
 simp only [World.frozen?]; rw [o.same _ h]
theorem trodAll_over {w w':World} (hl:laidOutB P=true) {sp:Nat→Bool} (hsp:∀ b,b < w.heap.size→sp b=true) (o:Over w w'):∀ {ts:List TypeId} {vs:List Value} {ds:List (DataW H)} {ps:List MemPlace},ts.all (fun t=>P.readableRec t&&Nat.blt t P.types.size)=true→(∀ p ∈ ps,p.block < w.heap.size) →
  DataW.TrodAll enc P w 0 (fun _=>true) true ts vs ds ps→DataW.TrodAll enc P w' 0 sp true ts vs ds ps
 | [],vs,ds,ps,_,_,h=>by
  obtain ⟨rfl,rfl,rfl⟩:=trodAll_nil h
  exact rfl
 | t :: ts,vs,ds,ps,hp,hb,h=>by
  obtain ⟨v,vs',d',ds',p,q,rfl,rfl,rfl,h1,h2⟩:=trodAll_cons h
  simp only [List.all_cons,bae,Nat.blt_eq] at hp
  refine ⟨p,q,Go.WideElems.Trod_stays hl hp.1.1 hp.1.2 h1 (fun p hp=>o.at (hb p (by simp [hp]))) (fun p hp=>hsp _ (hb p (by simp [hp]))),trodAll_over hl hsp o (by simpa using hp.2) (fun p hp=>hb p (by simp [hp])) h2,rfl⟩
end
def i64b (x:Int):Prop:=-9223372036854775808≤x∧x≤9223372036854775807
def strb (l:List UInt8):Prop:=l.length≤maxLen
section
variable {P:Program} {d:Nat} {t:TypeId} {cs:List PV}
theorem sh_i64 (hu:P.underlying t=some (.int .i64)) (h:Sh P (d+1) t cs):∃ n,cs=[.val (.int .i64 n)]∧i64b n:=by
 simp only [Sh,hu] at h
 obtain ⟨n,rfl,hw⟩:=h
 exact ⟨n,rfl,by simpa [Lit.wf,IntKind.min,IntKind.max,IntKind.signed,IntKind.bits,i64b] using hw⟩
theorem sh_str (hu:P.underlying t=some .string) (h:Sh P (d+1) t cs):∃ s:List UInt8,cs=[.val (.string (mkS s))]∧strb s:=by
 simp only [Sh,hu] at h
 exact h
theorem sh_struct {fs:Array Field} (hu:P.underlying t=some (.struct fs)) (h:Sh P (d+1) t cs):ShFs (Sh P d) fs.toList cs:=by
 simpa only [Sh,hu] using h
theorem avOf_struct {fs:Array Field} (hu:P.underlying t=some (.struct fs)):avOf P t cs=ag cs:=by simp only [avOf,hu]
end
theorem shFs_mono {S S':TypeId→List PV→Prop} (h:∀ t cs,S t cs→S' t cs):∀ {fs:List Field} {cs:List PV},ShFs S fs cs→ShFs S' fs cs
 | [],_,g=>g
 | _ :: _,_,⟨a,b,e,g1,g2⟩=>⟨a,b,e,h _ _ g1,shFs_mono h g2⟩
theorem shN_mono {S S':List PV→Prop} (h:∀ cs,S cs→S' cs):∀ {n:Nat} {cs:List PV},ShN S n cs→ShN S' n cs
 | 0,_,g=>g
 | _+1,_,⟨a,b,e,g1,g2⟩=>⟨a,b,e,h _ g1,shN_mono h g2⟩
theorem sh_succ {P:Program}:∀ (d:Nat) (t:TypeId) (cs:List PV),Sh P d t cs→Sh P (d+1) t cs:=by
 intro d
 induction d with
 | zero=>intro t cs h; exact h.elim
 | succ d ih =>
  intro t cs h
  unfold Sh at h ⊢
  cases hu:P.underlying t with
  | none=>simp [hu] at h
  | some td =>
   rw [hu] at h
   cases td with
   | slice e=>obtain ⟨es,h1,h2,h3⟩:=h; exact ⟨es,h1,h2,fun x hx=>ih e x (h3 x hx)⟩
   | struct fs=>exact shFs_mono ih h
   | array n e=>exact shN_mono (ih e) h
   | _=>exact h
theorem sh_add {P:Program} {d:Nat} {t:TypeId} {cs:List PV} (h:Sh P d t cs):∀ k,Sh P (d+k) t cs
 | 0=>h
 | k+1=>sh_succ _ _ _ (sh_add h k)
end Go.Abs
namespace Go.Abs
open Go
section
variable {R:Type} {a:Option R} {P:Program} {N:Nat} {ops:Array Oper} {o:Oper} {l:List Oper} {acc:List Foot} {s:St} {Q:R→AX→St→Prop}
theorem xs_sem (hw:wantA ops o (look s.T)=some true) (hp:(plain o.op&&dstLt N o.dst)=true) (hnd:∀ c,o.op ≠ .defer c)
  (h:∀ φ M0 D ac w,Rel φ M0 N D (look (mk ops o s true).T) (look s.H) ac w→∃ x s',look s'.T=look (mk ops o s true).T∧SimR a P N ops Q false ((none,[]) :: acc) l (St.put s' o.dst x)∧Yield P o φ M0 (look s.H) ac w x (look s'.H)):SimR a P N ops Q false acc (o :: l) s:=by
 simp only [bae] at hp
 refine ⟨fun r hr=>?_⟩
 show ExOps P N ops (Q r) (o :: l) s
 simp only [ExOps,hw,splitB_true,yieldOf_plain hp.1]
 show ExOp P N o _ _ _
 unfold ExOp
 have key:SemOp P N o (mk ops o s true) (ExOps P N ops (Q r) l):=by
  refine ⟨hnd,hp.2,fun φ M0 D ac w hrel=>?_⟩
  ·obtain ⟨x,s',h1,h2,h3⟩:=h φ M0 D ac w hrel
   exact ⟨x,s',h1,h2.h r hr,h3⟩
 have hp:=hp.1
 split
 ·rename_i ho; rw [ho] at hp; cases hp
 ·rename_i ho; rw [ho] at hp; cases hp
 ·rename_i ho; rw [ho] at hp; cases hp
 ·exact .inr key
theorem xs_none:SimR (none:Option R) P N ops Q false acc l s:=⟨fun r hr=>by cases hr⟩
end
def flatT (P:Program) (t:TypeId):Bool:=match P.underlying t with
 | some (.pointer _)=>true
 | some (.int _)=>true
 | some .string=>true
 | some .bool=>true
 | _=>false
def flatKey (P:Program) (kt:TypeId) (n:Nat):Bool:=match P.underlying kt with
 | some (.struct fs)=>fs.toList.all fun f=>flatT P f.type&&decide (f.offset < n)
 | _=>false
section
variable {P:Program} {w:World}
theorem flatT_check {t:TypeId} {v:Value} (h:flatT P t=true) (e:Bool) (n:Nat):(Instr.checkKey e (n+1) t v).run P w=.ok () w:=by
 unfold flatT at h
 unfold Instr.checkKey
 cases hd:P.underlying t with
 | none=>simp [hd] at h
 | some d =>
  simp only [Sem.run_bind,run_underlying hd,Result.andThen]
  rw [hd] at h
  cases d <;> cases v <;> simp_all
theorem flatT_part {t:TypeId} {v:Value} (h:flatT P t=true) {l:List Value} {i:Nat} (hi:l[i]?=some v):(part t l.toArray i).run P w=.ok v w:=by
 unfold flatT at h
 cases hd:P.underlying t with
 | none=>simp [hd] at h
 | some d =>
  rw [hd] at h
  have:isAggD d=false:=by cases d <;> simp_all <;> rfl
  simp [part,run_isAgg hd,this,hi]
theorem flatFs_check:∀ (fs:List Field) (l:List Value) (e:Bool) (n:Nat),(fs.all fun f=>flatT P f.type&&decide (f.offset < l.length))=true →
  (forIn fs PUnit.unit fun f _=>(do
   if f.name ≠ "_" then Instr.checkKey e (n+1) f.type (← part f.type l.toArray f.offset)
   pure (ForInStep.yield PUnit.unit):Sem (ForInStep PUnit))).run P w=.ok PUnit.unit w
 | [],l,e,n,_=>by simp
 | f :: fs,l,e,n,h=>by
  simp only [List.all_cons,bae,zDT] at h
  have hi:l[f.offset]?=some l[f.offset]:=List.getElem?_eq_getElem h.1.2
  have hrec:=flatFs_check fs l e n (by simpa using h.2)
  simp only [List.forIn_cons,Sem.run_bind]
  by_cases hn:f.name ≠ "_"
  ·simp only [hn,ne_eq,not_false_eq_true,if_true,Sem.run_bind,flatT_part h.1.1 hi,Result.andThen_ok,flatT_check h.1.1,Sem.run_pure]
   exact hrec
  ·simp only [hn,if_false,Sem.run_pure,Result.andThen_ok]
   exact hrec
theorem flatKey_check {kt:TypeId} {l:List Value} (h:flatKey P kt l.length=true) (e:Bool):(Instr.checkKey e 10000 kt (.agg l.toArray)).run P w=.ok () w:=by
 unfold flatKey at h
 cases hd:P.underlying kt with
 | none=>simp [hd] at h
 | some d =>
  rw [hd] at h
  cases d <;> simp only [Bool.false_eq_true] at h
  rename_i fs
  rw [show (10000:Nat)=9999+1 from rfl,Instr.checkKey]
  simp only [Sem.run_bind,run_underlying hd,Result.andThen_ok]
  rw [← Array.forIn_toList]
  rw [flatFs_check fs.toList l e 9998 h]
  rfl
end
def sumB (a b:List UInt8):Bool:=decide (a.length+b.length≤9223372036854775807)
theorem aop_sadd {P:Program} {o:Oper} {T:Nat→Option AV} {h:Heap} {tx ty:TypeId} {x y:Operand} {a b:List UInt8} (ho:o.op=.binOp .add tx x y ty) (hx:evO T x=some (.p (.val (.string (mkS a))))) (hy:evO T y=some (.p (.val (.string (mkS b))))) (hc:sumB a b=true) :
  aop P o T h=some (.p (.val (.string (mkS (a++b)))),none,[]):=by
 unfold sumB at hc
 have hc:=of_decide_eq_true hc
 simp [aop,orE,ho,aBin,hx,hy,strRes,byt_mkS,hc]
def dropT (d:Option Tmp) (s:St):St:=⟨s.T.filter fun p=>some p.1 != d,s.H⟩
theorem drop_drop (d:Option Tmp) (s:St):dropT d (dropT d s)=dropT d s:=by simp [dropT,List.filter_filter]
abbrev FV:=Fn × Array Value × Array Value
def fv (x:FV):Value:=.func x.1 x.2.1 x.2.2
def kOf (s:St):Keep:=⟨s.T.map (·.1),s.H.map (·.1),[],[]⟩
section
variable {R V:Type} {o:Option R} {P:Program} {N:Nat} {ro:Option Nat} {c y:Code} {s:St} {Q:R→AX→St→Prop} {ops:Array Oper} {draw:Bool} {id:Nat}
theorem sRK (hm:P.follows .mixedOrders=true) (s':St) (h1:(regRun P N ops draw s).bind (shrQ (kOf s'))=some s') (h:SimE o P N ro y s' Q):SimE o P N ro (.seq (.region id ops draw) y) s Q:=sR hm _ s' h1 h
theorem sNK (s':St) (hw:shrQ (kOf s') s=some s') (h:SimE o P N ro y s' Q):SimQ o (seqQ P N ro y Q) .normal s:=sN _ s' hw h
theorem sPK (s':St) (hw:shrQ (kOf s') s=some s') (h:SimE o P N ro c s' Q):SimE o P N ro c s Q:=sP _ s' hw h
theorem nqK {S:V→St} (v:V) (hw:shrQ (kOf (S v)) s=some (S v)):SimQ (some v) (nrmQ N S) .normal s:=nq_n v _ hw
theorem kqK {k:V→Option R} {S:V→St} (v:V) (hw:shrQ (kOf (S v)) s=some (S v)):SimQ (k v) (kQ N k S Q) .normal s:=kq_n v _ hw
theorem wsK {s':St} (h:shrQ (kOf s') s=some s'):Weak N s s':=weak_shr h
end
inductive Cn (S:Nat):PV→Prop
 | int (k:IntKind) (n:Int):Cn S (.val (.int k n))
 | str (s:ByteArray):Cn S (.val (.string s))
 | sl (es:List (List PV)) (h:∀ e ∈ es,∀ c ∈ e,Cn S c):Cn S (.sl S es)
section
variable {w:World} {M:Mset}
theorem repEs_uniq {S r o:Nat} {es es':List (List PV)} (h1:RepEs w M S r o es) (h2:RepEs w M S r o es') (hl:es.length=es'.length)
  (hc:∀ e ∈ es,∀ c ∈ e,∀ e' ∈ es',∀ c' ∈ e',∀ v,RepP w M c v→RepP w M c' v→c=c'):es=es':=by
 refine List.ext_getElem hl fun i g1 g2=>?_
 obtain ⟨a1,a2⟩:=repEs_get h1 (List.getElem?_eq_getElem g1)
 obtain ⟨b1,b2⟩:=repEs_get h2 (List.getElem?_eq_getElem g2)
 rw [repCs_iff] at a2 b2
 refine List.ext_getElem zo fun j g3 g4=>?_
 obtain ⟨v,k1,_,_,k2⟩:=a2 j _ (List.getElem?_eq_getElem g3)
 obtain ⟨v',l1,_,_,l2⟩:=b2 j _ (List.getElem?_eq_getElem g4)
 rw [k1] at l1
 cases l1
 exact hc _ (List.getElem_mem g1) _ (List.getElem_mem g3) _ (List.getElem_mem g2) _ (List.getElem_mem g4) v k2 l2
theorem cn_uniq {S:Nat} {x:PV} (hx:Cn S x):∀ {y:PV} {v:Value},Cn S y→RepP w M x v→RepP w M y v→x=y:=by
 induction hx with
 | int k n =>
  intro y v hy h1 h2
  simp only [RepP] at h1
  subst h1
  cases hy with
  | sl es h=>simp [RepP] at h2
  | _=>simp only [RepP] at h2; cases h2; try rfl
 | str s =>
  intro y v hy h1 h2
  simp only [RepP] at h1
  subst h1
  cases hy with
  | sl es h=>simp [RepP] at h2
  | _=>simp only [RepP] at h2; cases h2; try rfl
 | sl es h ih =>
  intro y v hy h1 h2
  cases hy with
  | int k n=>simp only [RepP] at h2; subst h2; simp [RepP] at h1
  | str s=>simp only [RepP] at h2; subst h2; simp [RepP] at h1
  | sl es' h' =>
   simp only [RepP] at h1 h2
   rcases h1 with ⟨r,o,cap,rfl,_,a1,_⟩ | ⟨rfl,a,cap,rfl⟩
   ·rcases h2 with ⟨r',o',cap',e2,_,b1,_⟩ | ⟨rfl,a,cap',e2⟩
    ·simp only [Value.slice.injEq,sie,Addr.mk.injEq] at e2
     obtain ⟨⟨rfl,rfl,_⟩,e3,_⟩:=e2
     rw [repEs_uniq a1 b1 e3 fun e he c hc e' he' c' hc' v g1 g2=>ih e he c hc (h' e' he' c' hc') g1 g2]
    ·simp only [Value.slice.injEq] at e2
     rw [List.eq_nil_of_length_eq_zero e2.2.1]
   ·rcases h2 with ⟨r',o',cap',e2,_,b1,_⟩ | ⟨rfl,a',cap',e2⟩
    ·simp only [Value.slice.injEq] at e2
     rw [List.eq_nil_of_length_eq_zero e2.2.1.symm]
    ·rfl
theorem ad_uniq {S:Nat} {es es':List (List PV)} {v:Value} (h1:RepP w M (.ad S es) v) (h2:RepP w M (.ad S es') v) (hl:es.length=es'.length) (g1:∀ e ∈ es,∀ c ∈ e,Cn S c) (g2:∀ e ∈ es',∀ c ∈ e,Cn S c):es=es':=by
 simp only [RepP] at h1 h2
 obtain ⟨_,r,o,rfl,a1,_⟩:=h1
 obtain ⟨_,r',o',e2,b1,_⟩:=h2
 simp only [Value.pointer.injEq,sie,Addr.mk.injEq] at e2
 obtain ⟨rfl,rfl,_⟩:=e2
 exact repEs_uniq a1 b1 hl fun e he c hc e' he' c' hc' v k1 k2=>cn_uniq (g1 e he c hc) (g2 e' he' c' hc') k1 k2
theorem ad_block {S:Nat} {es:List (List PV)} {v:Value} (h:RepP w M (.ad S es) v):∃ r o c e,v=.pointer (some ⟨r,o,none⟩)∧w.heap[r]?=some (.cells c e (0,0)):=by
 simp only [RepP] at h
 obtain ⟨hne,r,o,rfl,a1,hS,hu⟩:=h
 obtain ⟨e,es',rfl⟩:=List.exists_cons_of_ne_nil hne
 simp only [RepEs] at a1
 obtain ⟨⟨hl,hc⟩,_⟩:=a1
 have hp:=clS_pos hS
 cases e with
 | nil=>simp at hl; omega
 | cons c cs =>
  simp only [RepCs] at hc
  obtain ⟨⟨v,hv,_⟩,_⟩:=hc
  unfold World.cell? at hv
  simp only at hv
  split at hv
  ·rename_i q e0 fz hw
   have:=hu _ _ _ hw
   subst this
   exact ⟨r,o,_,_,rfl,hw⟩
  ·cases hv
end
def keyT (P:Program) (kt:TypeId):Bool:=match P.underlying kt with
 | some (.struct fs)=>!P.stoodInHeld kt&&(match fs.toList with
  | [f,g]=>f.name != "_"&&g.name != "_"&&f.offset == 0&&g.offset == 1&&(match P.underlying f.type,P.underlying g.type with
   | some (.pointer te),some (.int .i64)=>(match P.info? te with | some i=>i.size != 0 | none=>false)
   | _,_=>false)
  | _=>false)
 | _=>false
section
variable {P:Program} {w:World}
theorem key_eq {kt:TypeId} (hk:keyT P kt=true) {a b:Addr} {n m:Int} {ca cb:Array Value} {ta tb:TypeId} (ha:w.heap[a.block]?=some (.cells ca ta (0,0))) (hb:w.heap[b.block]?=some (.cells cb tb (0,0))) (d:Nat) :
  (Op.equalIn (d+2) kt (.agg #[.pointer (some a), .int .i64 n]) (.agg #[.pointer (some b), .int .i64 m])).run P w=.ok (decide (a=b∧n=m)) w:=by
 unfold keyT at hk
 split at hk
 rotate_left
 ·cases hk
 rename_i fs hu
 simp only [bae] at hk
 obtain ⟨hst,hk⟩:=hk
 split at hk
 rotate_left
 ·cases hk
 rename_i f g hfs
 simp only [bae,beq_iff_eq,bne_iff_ne] at hk
 obtain ⟨⟨⟨⟨hf,hg⟩,hfo⟩,hgo⟩,hk⟩:=hk
 split at hk
 rotate_left
 ·cases hk
 rename_i te hpf hig
 split at hk
 rotate_left
 ·cases hk
 rename_i i hi
 simp only [bne_iff_ne] at hk
 have hst:P.stoodInHeld kt=false:=by simpa using hst
 have e1:(Op.equalIn (d+1) f.type (.pointer (some a)) (.pointer (some b))).run P w=.ok (decide (a=b)) w:=by
  by_cases e:a=b
  ·subst e
   simp [Op.equalIn,run_underlying hpf,sizeOf,typeInfo,hi,run_sameAddr_same]
  ·simp [Op.equalIn,run_underlying hpf,sizeOf,typeInfo,hi,hk,run_sameAddr_other w e ha hb,e]
 have e2:(Op.equalIn (d+1) g.type (.int .i64 n) (.int .i64 m)).run P w=.ok (decide (n=m)) w:=by
  simp [Op.equalIn,run_underlying hig]
  rfl
 have p1:∀ (x y:Value),(part f.type #[x,y] 0).run P w=.ok x w:=fun x y=>by simp [part,run_isAgg hpf,isAggD]
 have p2:∀ (x y:Value),(part g.type #[x,y] 1).run P w=.ok y w:=fun x y=>by simp [part,run_isAgg hig,isAggD]
 have hfs':fs=#[f,g]:=by rw [← Array.toArray_toList (xs:=fs),hfs]
 subst hfs'
 rw [Op.equalIn]
 simp [run_underlying hu,program,Sem.run,hst,hf,hg,hfo,hgo,p1,e1,Result.andThen]
 rcases Decidable.em (a=b) with e3 | e3 <;> rcases Decidable.em (n=m) with e4 | e4
 ·subst e3; subst e4; simp [p2,e2,Result.andThen]
 ·subst e3; simp [e4,p2,e2,Result.andThen]
 ·subst e4; simp [e3]
 ·simp [e3]
theorem key_equal {kt:TypeId} (hk:keyT P kt=true) {a b:Addr} {n m:Int} {ca cb:Array Value} {ta tb:TypeId} (ha:w.heap[a.block]?=some (.cells ca ta (0,0))) (hb:w.heap[b.block]?=some (.cells cb tb (0,0))) :
  (Op.equal kt (.agg #[.pointer (some a), .int .i64 n]) (.agg #[.pointer (some b), .int .i64 m])).run P w=.ok (decide (a=b∧n=m)) w:=key_eq hk ha hb 9998
theorem findAsking_ok {kt:TypeId} (hk:keyT P kt=true) {a:Addr} {n:Int} {ca:Array Value} {ta:TypeId} (ha:w.heap[a.block]?=some (.cells ca ta (0,0))):∀ (l:List MapEntry) (i0:Nat),
  (∀ e ∈ l,∃ b m c t,e.key=.agg #[.pointer (some b), .int .i64 m]∧w.heap[b.block]?=some (.cells c t (0,0))) →
  ∃ r,(Instr.findAsking kt (.agg #[.pointer (some a), .int .i64 n]) l i0).run P w=.ok r w∧(r=none∨∃ j e,l[j]?=some e∧r=some (i0+j,e.val)∧e.key=.agg #[.pointer (some a), .int .i64 n])
 | [],i0,_=>⟨none,by simp [Instr.findAsking], .inl rfl⟩
 | e :: l,i0,h=>by
  obtain ⟨b,m,c,t,he,hb⟩:=h e zq
  by_cases hq:a=b∧n=m
  ·obtain ⟨rfl,rfl⟩:=hq
   refine ⟨some (i0,e.val),?_, .inr ⟨0,e,rfl,rfl,he⟩⟩
   simp [Instr.findAsking,he,key_equal hk ha hb,Result.andThen]
  ·obtain ⟨r,h1,h2⟩:=findAsking_ok hk ha l (i0+1) (fun e' he'=>h e' (by simp [he']))
   refine ⟨r,?_,?_⟩
   ·simp only [Instr.findAsking,Sem.run_bind,he,key_equal hk ha hb,Result.andThen_ok]
    rw [dzF hq]
    simpa using h1
   ·rcases h2 with h2 | ⟨j,e',g1,g2,g3⟩
    ·exact .inl h2
    ·exact .inr ⟨j+1,e',by simpa using g1,by rw [g2]; congr 2; omega,g3⟩
theorem keyT_struct {kt:TypeId} (hk:keyT P kt=true):∃ fs,P.underlying kt=some (.struct fs):=by
 unfold keyT at hk
 split at hk
 ·exact ⟨_,by assumption⟩
 ·cases hk
theorem findKeyM_ok {kt:TypeId} (hk:keyT P kt=true) {a:Addr} {n:Int} {ca:Array Value} {ta:TypeId} (ha:w.heap[a.block]?=some (.cells ca ta (0,0))) {l:List MapEntry}
  (h:∀ e ∈ l,∃ b m c t,e.key=.agg #[.pointer (some b), .int .i64 m]∧w.heap[b.block]?=some (.cells c t (0,0))) :
  ∃ r,(Instr.findKey kt (.agg #[.pointer (some a), .int .i64 n]) l).run P w=.ok r w∧(r=none∨∃ j e,l[j]?=some e∧r=some (j,e.val)∧e.key=.agg #[.pointer (some a), .int .i64 n]):=by
 obtain ⟨fs,hu⟩:=keyT_struct hk
 cases l with
 | nil=>exact ⟨none,by simp [Instr.findKey,run_underlying hu,Instr.findNow,Result.andThen], .inl rfl⟩
 | cons e l =>
  obtain ⟨r,h1,h2⟩:=findAsking_ok hk ha (e :: l) 0 h (n:=n)
  refine ⟨r,?_,?_⟩
  ·simp only [Instr.findKey,Sem.run_bind,run_underlying hu,Result.andThen_ok,Instr.findNow,Instr.sameNow]
   exact h1
  ·simpa using h2
theorem mm_entries {φ:Nat→Nat} {h:Heap} {w:World} {M:Mset} {S:Nat} {en:List MapEntry} {L:List (List (List PV) × PV)} {ks:List Value}
  (hk:en.map (·.key)=List.zipWith (fun k p=>.agg #[k, .int .i64 p.1.length]) ks L) (ha:RepAs φ h w M (L.map fun p=>.p (.ad S p.1)) ks) (hv:RepAs φ h w M (L.map fun p=>.p p.2) (en.map (·.val))) :
  ∀ (j:Nat) e,en[j]?=some e→∃ p k,L[j]?=some p∧ks[j]?=some k∧e.key=.agg #[k, .int .i64 p.1.length]∧RepP w M (.ad S p.1) k∧RepP w M p.2 e.val:=by
 intro j e he
 have h1:(en.map (·.key))[j]?=some e.key:=by rw [List.getElem?_map,he]; rfl
 rw [hk,List.getElem?_zipWith] at h1
 split at h1
 ·rename_i k p h2 h3
  simp only [sie] at h1
  refine ⟨p,k,h3,h2,h1.symm,?_,?_⟩
  ·have e1:(L.map fun p=>AV.p (.ad S p.1))=(L.map fun p=>PV.ad S p.1).map .p:=by simp
   rw [e1] at ha
   obtain ⟨v,g1,g2⟩:=repAs_getP ha j (.ad S p.1) (by rw [List.getElem?_map,h3]; rfl)
   rw [h2] at g1
   cases g1
   exact g2
  ·have e1:(L.map fun p=>AV.p p.2)=(L.map fun p=>p.2).map .p:=by simp
   rw [e1] at hv
   obtain ⟨v,g1,g2⟩:=repAs_getP hv j p.2 (by rw [List.getElem?_map,h3]; rfl)
   rw [List.getElem?_map,he] at g1
   cases g1
   exact g2
 ·cases h1
end
theorem upd_self {h:Heap} {b:Nat} {k:Blk} (hb:h b=some k):upd h b k=h:=by
 funext c
 by_cases e:b=c
 ·subst e; simp [upd,hb]
 ·simp [upd,e]
section
variable {R:Type} {a:Option R} {P:Program} {N:Nat} {ops:Array Oper} {o:Oper} {l:List Oper} {acc:List Foot} {s:St} {Q:R→AX→St→Prop}
theorem xs_ad {α:Type} {enc:α→List PV} {k:α→Option R} {t e:TypeId} {x ix:Operand} {sv:AV} {S:Nat} {l0:List α} {ki:IntKind} (hw:wantA ops o (look s.T)=some true) (ho:o.op=.indexAddr t x ix) (hd:dstLt N o.dst=true)
  (ht:P.underlying t=some (.slice e)) (hi:(P.info? e).map (·.size)=some S) (hx:evO (look (mk ops o s true).T) x=some sv) (hn:evO (look (mk ops o s true).T) ix=some (.p (.val (.int ki 0)))) (he:elemsS sv=some (S,List.map enc l0)) (hS:clS S=true)
  (h:∀ c,SimR (k c) P N ops Q false ((none,[]) :: acc) l (St.put (mk ops o s true) o.dst (.p (.ad S (List.map enc l0))))):SimR ((getI l0 0).bind k) P N ops Q false acc (o :: l) s:=by
 refine ⟨fun r hr=>?_⟩
 obtain ⟨c,hc,hk⟩:=zBS.1 hr
 have hne:List.map enc l0 ≠ []:=by
  intro h0
  have:l0=[]:=by simpa using h0
  subst this
  simp [getI] at hc
 obtain ⟨inf,hi1,hi2⟩:=zMS.1 hi
 refine (xs_sem (a:=k c) hw (by rw [ho,hd]; rfl) (fun c hc=>by rw [ho] at hc; cases hc) fun φ M0 D ac w r=>⟨_,mk ops o s true,rfl,h c,?_⟩).h r hk
 have hiv:=r.ev hn
 simp only [RepA,RepP] at hiv
 have h2:=elemsS_rep he (r.ev hx)
 simp only [RepP] at h2
 rcases h2 with ⟨rr,oo,cap,hv,hle,hes,hu⟩ | ⟨h0,_⟩
 ·refine yield_still r (v:=.pointer (some ⟨rr,oo,none⟩)) ?_ ?_
  ·have hlen:0 < (List.map enc l0).length:=List.length_pos_iff.2 hne
   have hin:(0:Int)≤0∧(0:Int) < ((List.map enc l0).length:Int):=⟨Int.le_refl _,by omega⟩
   simp only [zLM] at hin hlen
   simp [execOp,ho,Instr.indexAt,hiv,asIntOf,run_underlying ht,hv,hlen,run_sizeOf' hi1,Addr.add_lit]
  ·simp only [RepA,RepP]
   exact ⟨hne,rr,oo,rfl,hes,hS,hu hS⟩
 ·exact absurd h0 hne
theorem xs_lookM {t kt e:TypeId} {x ix:Operand} {ok:Bool} {b S:Nat} {G:List (List PV)→PV→Prop} {es:List (List PV)} {n:Int} {z:Value} (hw:wantA ops o (look s.T)=some true) (ho:o.op=.lookup t x ix ok) (hd:dstLt N o.dst=true)
  (ht:P.underlying t=some (.map kt e)) (hx:evO (look (mk ops o s true).T) x=some (.mv b)) (hi:evO (look (mk ops o s true).T) ix=some (.agg [.p (.ad S es), .p (.val (.int .i64 n))])) (hn:n=(es.length:Int)) (hb:look s.H b=some (.mm S G))
  (hk:keyT P kt=true) (hkf:flatKey P kt 2=true) (hz:(P.info? e).bind (·.zero)=some z) (hG:∀ es' v,G es' v→∀ e ∈ es',∀ c ∈ e,Cn S c) (hc:∀ e ∈ es,∀ c ∈ e,Cn S c)
  (h0:SimR a P N ops Q false ((none,[]) :: acc) l (St.put (mk ops o s true) o.dst (tupOk ok (ofV z) false)))
  (h1:∀ v,G es v→SimR a P N ops Q false ((none,[]) :: acc) l (St.put (mk ops o s true) o.dst (tupOk ok (.p v) true))):SimR a P N ops Q false acc (o :: l) s:=by
 refine xs_sem hw (by rw [ho,hd]; rfl) (fun c hc=>by rw [ho] at hc; cases hc) fun φ M0 D ac w r=>?_
 have hxr:=r.ev hx
 simp only [RepA] at hxr
 have hir:=r.ev hi
 simp only [RepA,RepAs] at hir
 obtain ⟨ls,hir1,kp,_,rfl,hkp,nv,_,rfl,hnv,rfl⟩:=hir
 simp only [RepP] at hnv
 subst hnv
 obtain ⟨ra,oa,ca,ta,hkp1,hra⟩:=ad_block hkp
 obtain ⟨en,clock,L,ks,hwm,hkeys,hads,hvals,hGL⟩:=r.hp.blk b _ hb
 have hent:=mm_entries hkeys hads hvals
 have hget:(getObj (φ b)).run P w=.ok (.map en clock) w:=by simp [getObj,Sem.run,hwm]
 obtain ⟨inf,hi2,hz2⟩:=zBS.1 hz
 have hchk:=flatKey_check (P:=P) (w:=w) (kt:=kt) (l:=[kp, .int .i64 n]) hkf en.isEmpty
 have hall:∀ e ∈ en.toList,∃ b m c t,e.key=.agg #[.pointer (some b), .int .i64 m]∧w.heap[b.block]?=some (.cells c t (0,0)):=by
  intro e he
  obtain ⟨j,hj,rfl⟩:=List.getElem_of_mem he
  obtain ⟨p,k,_,_,g1,g2,_⟩:=hent j _ (List.getElem?_eq_getElem hj)
  obtain ⟨rb,ob,cb,tb,rfl,hrb⟩:=ad_block g2
  exact ⟨_,_,cb,tb,g1,hrb⟩
 obtain ⟨res,hf1,hf2⟩:=findKeyM_ok (n:=n) hk (a:=⟨ra,oa,none⟩) hra hall
 subst hkp1
 rcases hf2 with rfl | ⟨j,e',hj,rfl,hke⟩
 ·refine ⟨_,mk ops o s true,rfl,h0,yield_still r (v:=if ok then .tuple #[z, .bool false] else z) ?_ ?_⟩
  ·simp [execOp,ho,Instr.lookup,run_underlying ht,hxr.1,hget,hir1,hchk,hf1,Result.andThen,zeroValue,typeInfo,program,Sem.run,hi2,hz2]
  ·unfold tupOk
   cases ok
   ·exact rep_ofV z
   ·simp only [if_true,RepA]
    exact ⟨[z, .bool false],by simp,_,_,rfl,rep_ofV z,_,_,rfl,by simp [RepA,RepP],rfl⟩
 ·obtain ⟨p,k,hp,_,g1,g2,g3⟩:=hent j e' hj
  rw [hke] at g1
  simp only [Value.agg.injEq,Array.mk.injEq,List.cons.injEq,Value.int.injEq,and_true,true_and] at g1
  obtain ⟨rfl,g4⟩:=g1
  have hpG:=hGL p (List.mem_of_getElem? hp)
  have:p.1=es:=ad_uniq g2 hkp zo (hG _ _ hpG) hc
  rw [this] at hpG
  refine ⟨_,mk ops o s true,rfl,h1 p.2 hpG,yield_still r (v:=if ok then .tuple #[e'.val, .bool true] else e'.val) ?_ ?_⟩
  ·simp [execOp,ho,Instr.lookup,run_underlying ht,hxr.1,hget,hir1,hchk,hf1,Result.andThen]
  ·unfold tupOk
   cases ok
   ·simpa [RepA] using g3
   ·simp only [if_true,RepA]
    exact ⟨[e'.val, .bool true],by simp,_,_,rfl,by simpa [RepA] using g3,_,_,rfl,by simp [RepA,RepP],rfl⟩
theorem set_same {α:Type} {l:List α} {j:Nat} {x:α} (h:l[j]?=some x):l.set j x=l:=by
 refine List.ext_getElem? fun i=>?_
 rw [List.getElem?_set]
 by_cases e:j=i
 ·subst e
  have h2:=(zLG.1 h)
  simp [h2.1,h2.2]
 ·simp [e]
theorem key_stays {P:Program} {w:World} (a:Addr) (n:Int):(Instr.keyThatStays (.agg #[.pointer (some a), .int .i64 n]) (.agg #[.pointer (some a), .int .i64 n])).run P w=.ok (.agg #[.pointer (some a), .int .i64 n]) w:=by
 have:Instr.sameBits 10000 (.agg #[.pointer (some a), .int .i64 n]) (.agg #[.pointer (some a), .int .i64 n])=true:=by
  show Instr.sameBits (9999+1) _ _=true
  simp [Instr.sameBits]
 simp [Instr.keyThatStays,this]
theorem xs_setM {t kt e:TypeId} {x ix y:Operand} {b S:Nat} {G:List (List PV)→PV→Prop} {es:List (List PV)} {n:Int} {v:PV} (hw:wantA ops o (look s.T)=some true) (ho:o.op=.mapUpdate t x ix y) (hd:dstLt N o.dst=true)
  (ht:P.underlying t=some (.map kt e)) (hx:evO (look (mk ops o s true).T) x=some (.mv b)) (hi:evO (look (mk ops o s true).T) ix=some (.agg [.p (.ad S es), .p (.val (.int .i64 n))])) (hy:evO (look (mk ops o s true).T) y=some (.p v)) (hn:n=(es.length:Int)) (hb:look s.H b=some (.mm S G))
  (hk:keyT P kt=true) (hkf:flatKey P kt 2=true) (hG:∀ es' v,G es' v→∀ e ∈ es',∀ c ∈ e,Cn S c) (hv:G es v)
  (h:SimR a P N ops Q false ((none,[]) :: acc) l (St.put (mk ops o s true) o.dst (.p (.val undef)))):SimR a P N ops Q false acc (o :: l) s:=by
 refine xs_sem hw (by rw [ho,hd]; rfl) (fun c hc=>by rw [ho] at hc; cases hc) fun φ M0 D ac w r=>⟨.p (.val undef),mk ops o s true,rfl,h,?_⟩
 have hxr:=r.ev hx
 simp only [RepA] at hxr
 have hir:=r.ev hi
 simp only [RepA,RepAs] at hir
 obtain ⟨ls,hir1,kp,_,rfl,hkp,nv,_,rfl,hnv,rfl⟩:=hir
 simp only [RepP] at hnv
 subst hnv
 have hyr:=r.ev hy
 obtain ⟨ra,oa,ca,ta,hkp1,hra⟩:=ad_block hkp
 obtain ⟨en,clock,L,ks,hwm,hkeys,hads,hvals,hGL⟩:=r.hp.blk b _ hb
 have hent:=mm_entries hkeys hads hvals
 have hget:(getObj (φ b)).run P w=.ok (.map en clock) w:=by simp [getObj,Sem.run,hwm]
 have hset:∀ ob,(setObj (φ b) ob).run P w=.ok () (w.putObj (φ b) ob):=fun ob=>by simp [setObj,Sem.run,hwm,World.putObj]
 have hchk:=flatKey_check (P:=P) (w:=w) (kt:=kt) (l:=[kp, .int .i64 n]) hkf false
 have hall:∀ e ∈ en.toList,∃ b m c t,e.key=.agg #[.pointer (some b), .int .i64 m]∧w.heap[b.block]?=some (.cells c t (0,0)):=by
  intro e he
  obtain ⟨j,hj,rfl⟩:=List.getElem_of_mem he
  obtain ⟨p,k,_,_,g1,g2,_⟩:=hent j _ (List.getElem?_eq_getElem hj)
  obtain ⟨rb,ob,cb,tb,rfl,hrb⟩:=ad_block g2
  exact ⟨_,_,cb,tb,g1,hrb⟩
 obtain ⟨res,hf1,hf2⟩:=findKeyM_ok (n:=n) hk (a:=⟨ra,oa,none⟩) hra hall
 have hlk:=repAs_length hads
 have hlv:=repAs_length hvals
 simp only [zLM] at hlk hlv
 have fin:∀ (en':Array MapEntry) (clock':Nat),(∃ (L':List (List (List PV) × PV)) (ks':List Value),en'.toList.map (·.key)=List.zipWith (fun k p=>.agg #[k, .int .i64 p.1.length]) ks' L'∧RepAs φ (look s.H) w (MM φ (look s.H) M0) (L'.map fun p=>.p (.ad S p.1)) ks'∧RepAs φ (look s.H) w (MM φ (look s.H) M0) (L'.map fun p=>.p p.2) (en'.toList.map (·.val))∧∀ p ∈ L',G p.1 p.2) →
   (execOp ac.eval o).run P w=.ok .skip (w.putObj (φ b) (.map en' clock'))→Yield P o φ M0 (look s.H) ac w (.p (.val undef)) (look (mk ops o s true).H):=by
  rintro en' clock' ⟨L',ks',g1,g2,g3,g4⟩ hrun
  obtain ⟨E,X⟩:=evol_ob (k1:=.mm S G) (ob:=.map en' clock') hb rfl rfl r.hp
  have H2:=relH_ob (k1:=.mm S G) (ob:=.map en' clock') hb rfl rfl r.hp ⟨en',clock',L',ks',World.putObj_heap_same (relH_lt r.hp hb (fun _ _ e=>by cases e)),g1,(repA_keep (E.keeps M0) X).2 _ _ g2,(repA_keep (E.keeps M0) X).2 _ _ g3,g4⟩
  rw [upd_self hb] at E X H2
  exact ⟨.skip,undef,_,φ,hrun, .inr ⟨rfl,rfl⟩,by simp [RepA,RepP],H2,E,X⟩
 subst hkp1
 rcases hf2 with rfl | ⟨j,e',hj,rfl,hke⟩
 ·refine fin (en.push { key:=.agg #[.pointer (some ⟨ra,oa,none⟩), .int .i64 n],val:=ac.eval y,born:=clock }) (clock+1) ⟨L++[(es,v)],ks++[.pointer (some ⟨ra,oa,none⟩)],?_,?_,?_,?_⟩ ?_
  ·rw [Array.toList_push,List.map_append,hkeys,List.zipWith_append zo]
   simp [hn]
  ·rw [List.map_append]
   exact repAs_snoc hads (by simpa [RepA] using hkp)
  ·rw [Array.toList_push,List.map_append,List.map_append]
   exact repAs_snoc hvals hyr
  ·intro p hp
   rcases List.mem_append.1 hp with hp | hp
   ·exact hGL p hp
   ·simp only [List.mem_singleton] at hp
    subst hp
    exact hv
  ·simp [execOp,ho,Instr.mapUpdate,run_underlying ht,hxr.1,hget,hir1,hchk,hf1,Result.andThen,hset]
 ·obtain ⟨p,k,hp,hkj,g1,g2,g3⟩:=hent j e' hj
  have hke':=hke
  rw [hke] at g1
  simp only [Value.agg.injEq,Array.mk.injEq,List.cons.injEq,Value.int.injEq,and_true,true_and] at g1
  obtain ⟨rfl,g4⟩:=g1
  have hpG:=hGL p (List.mem_of_getElem? hp)
  have hpe:p.1=es:=ad_uniq g2 hkp zo (hG _ _ hpG) (hG _ _ hv)
  have hjl:j < en.size:=by simpa using (zLG.1 hj).1
  have hjL:j < L.length:=(zLG.1 hp).1
  have hej:en[j]?=some e':=by rw [← Array.getElem?_toList]; exact hj
  refine fin (en.modify j fun e=>{ e with key:=.agg #[.pointer (some ⟨ra,oa,none⟩), .int .i64 n],val:=ac.eval y }) clock ⟨L.set j (es,v),ks,?_,?_,?_,?_⟩ ?_
  ·rw [modify_set (.agg #[.pointer (some ⟨ra,oa,none⟩), .int .i64 n]) (ac.eval y) hj,List.map_set,set_same (by rw [List.getElem?_map,hj]; simp [hke']),hkeys]
   refine List.ext_getElem? fun i=>?_
   simp only [List.getElem?_zipWith,List.getElem?_set]
   by_cases hij:j=i
   ·subst hij
    rw [hkj,hp,if_pos rfl,if_pos hjL]
    simp only [hpe]
   ·simp [hij]
  ·rw [List.map_set,set_same (by rw [List.getElem?_map,hp]; simp [hpe])]
   exact hads
  ·rw [modify_set (.agg #[.pointer (some ⟨ra,oa,none⟩), .int .i64 n]) (ac.eval y) hj,List.map_set,List.map_set]
   exact repAs_set hvals hyr
  ·intro q hq
   rcases List.mem_or_eq_of_mem_set hq with hq | rfl
   ·exact hGL q hq
   ·exact hv
  ·simp [execOp,ho,Instr.mapUpdate,run_underlying ht,hxr.1,hget,hir1,hchk,hf1,Result.andThen,hset,hej,hke',key_stays]
end
section
variable {R:Type} {a:Option R} {P:Program} {N:Nat} {ops:Array Oper} {o:Oper} {l:List Oper} {acc:List Foot} {s:St} {Q:R→AX→St→Prop}
theorem xs_mkM {t:TypeId} {d:Nat} {S:Nat} {G:List (List PV)→PV→Prop} (hw:wantA ops o (look s.T)=some true) (ho:o.op=.makeMap t none) (hd:dstLt N o.dst=true) (hf:look s.H d=none)
  (h:SimR a P N ops Q false ((none,[]) :: acc) l (St.put ⟨(mk ops o s true).T,(d, .mm S G) :: s.H⟩ o.dst (.mv d))):SimR a P N ops Q false acc (o :: l) s:=by
 refine xs_sem hw (by rw [ho,hd]; rfl) (fun c hc=>by rw [ho] at hc; cases hc) fun φ M0 D ac w r=>⟨_,⟨(mk ops o s true).T,(d, .mm S G) :: s.H⟩,rfl,h,?_⟩
 have hH:look ((d, .mm S G) :: s.H)=upd (look s.H) d (.mm S G):=by
  funext c
  simp [look,upd]
 show Yield P o φ M0 (look s.H) ac w (.mv d) (look ((d, .mm S G) :: s.H))
 rw [hH]
 refine Yield.of_lift r 1 fun φ r E0 X0 hC=>?_
 obtain ⟨E,X⟩:=evol_new (w':=w.alloc (.map #[] 0)) (o:=.map #[] 0) (b:=d) (k:=.mm S G) (M0:=M0) rfl rfl rfl rfl hf r.hp hC
 have hnew:RelB (updF φ d w.heap.size) (upd (look s.H) d (.mm S G)) (w.alloc (.map #[] 0)) (MM (updF φ d w.heap.size) (upd (look s.H) d (.mm S G)) M0) w.heap.size (.mm S G) :=
  ⟨#[],0,[],[],by show (w.heap.push _)[w.heap.size]?=_; simp,rfl,by simp [RepAs],by simp [RepAs],fun p hp=>by cases hp⟩
 refine ⟨_, .map (some w.heap.size),_,updF φ d w.heap.size,?_, .inl rfl,?_,relH_new rfl hf r.hp hC E X hnew,E,X⟩
 ·simp [execOp,ho,Instr.makeMap,newObj,Sem.run]
 ·simp only [RepA]
  exact ⟨by simp [updF], .mm S G,by simp [upd],rfl⟩
end
section
variable {R ι:Type} {a b:Option R} {P:Program} {N:Nat} {ro:Option Nat} {c:Code} {s s':St} {Q:R→AX→St→Prop} {K:St→Prop}
theorem simR_imp {ops:Array Oper} {acc:List Foot} {l:List Oper} {dr:Bool} (hi:∀ r,a=some r→b=some r) (h:SimR b P N ops Q dr acc l s):SimR a P N ops Q dr acc l s:=⟨fun r hr=>h.h r (hi r hr)⟩
end
def anyO {R:Type} [DecidableEq R] (a b:Option R):Option R:=if a=b then a else none
theorem anyO_l {R:Type} [DecidableEq R] {a b:Option R} {r:R} (h:anyO a b=some r):a=some r:=by
 unfold anyO at h
 split at h
 ·exact h
 ·cases h
theorem anyO_r {R:Type} [DecidableEq R] {a b:Option R} {r:R} (h:anyO a b=some r):b=some r:=by
 unfold anyO at h
 split at h
 ·rename_i e; rw [← e]; exact h
 ·cases h
theorem anyO_self {R:Type} [DecidableEq R] (a:Option R):anyO a a=a:=if_pos rfl
section
variable {R V:Type} {P:Program} {N:Nat} {ro:Option Nat} {x y:Code} {s:St} {Q:R→AX→St→Prop}
theorem xs_anyL [DecidableEq R] {a b:Option R} {ops:Array Oper} {acc:List Foot} {l:List Oper} {dr:Bool} (h:SimR a P N ops Q dr acc l s):SimR (anyO a b) P N ops Q dr acc l s:=simR_imp (fun _=>anyO_l) h
theorem xs_anyR [DecidableEq R] {a b:Option R} {ops:Array Oper} {acc:List Foot} {l:List Oper} {dr:Bool} (h:SimR b P N ops Q dr acc l s):SimR (anyO a b) P N ops Q dr acc l s:=simR_imp (fun _=>anyO_r) h
end
def gSeen (es:List (List PV)) (v:PV):Prop:=(∀ e ∈ es,∀ c ∈ e,Cn 5 c)∧v=.val (.bool true)
end Go.Abs
namespace Go.Abs
open Go Go.ChangeShapes Go.WideShapes Go.ChangeAt Go.RowKit
def okTsW (P:Program) (TS:List TypeId) (t:TypeId):Bool :=
 match P.underlying t with
 | some .bool=>P.cellsOf t == 1
 | some (.int _)=>P.cellsOf t == 1
 | some .string=>P.cellsOf t == 1
 | some (.slice e)=>P.cellsOf t == 1&&Nat.blt 0 (P.cellsOf e)&&TS.contains e
 | some (.struct fs)=>tilesOk P (P.cellsOf t) 0 fs.toList&&fs.toList.all (fun f=>TS.contains f.type)
 | some (.array n e)=>n * P.cellsOf e == P.cellsOf t&&TS.contains e
 | _=>false
def closedW (P:Program) (TS:List TypeId):Bool:=TS.all (okTsW P TS)
theorem closedW_at {P:Program} {TS:List TypeId} {t:TypeId} (h:closedW P TS=true) (ht:TS.contains t=true):okTsW P TS t=true :=
 zAT.1 h t (by simpa using ht)
def ArgsShU (P:Program) (d:Nat):List TypeId→List AV→Prop
 | [],aas=>aas=[]
 | t :: ts,aas=>∃ cs r,aas=avOf P t (uC cs) :: r∧Sh P d t cs∧ArgsShU P d ts r
theorem argsShU_add {P:Program} {d:Nat} (k:Nat):∀ {ts:List TypeId} {aas:List AV},ArgsShU P d ts aas→ArgsShU P (d+k) ts aas
 | [],_,h=>h
 | _ :: _,_,⟨cs,r,e,h1,h2⟩=>⟨cs,r,e,sh_add h1 k,argsShU_add k h2⟩
section
variable {w:World} {M:Mset}
def RepWs (w:World) (M:Mset):List PV→List Value→Prop
 | [],l=>l=[]
 | c :: cs,l=>∃ y ys,l=y :: ys∧RepW w M c y∧RepWs w M cs ys
theorem repWs_app:∀ {a b:List PV} {l m:List Value},RepWs w M a l→RepWs w M b m→RepWs w M (a++b) (l++m)
 | [],_,_,_,h,h'=>by simp only [RepWs] at h; subst h; exact h'
 | _ :: a,b,_,m,⟨y,ys,e,h1,h2⟩,h'=>by subst e; exact ⟨y,ys++m,rfl,h1,repWs_app h2 h'⟩
theorem repWs_length:∀ {a:List PV} {l:List Value},RepWs w M a l→a.length=l.length
 | [],_,h=>by simp only [RepWs] at h; subst h; rfl
 | _ :: a,_,⟨y,ys,e,_,h2⟩=>by subst e; simp [repWs_length h2]
theorem repWs_get:∀ {a:List PV} {l:List Value},RepWs w M a l→∀ (j:Nat) (c:PV),a[j]?=some c→∃ v,l[j]?=some v∧RepW w M c v
 | [],_,_,j,c,hj=>by simp at hj
 | x :: a,_,⟨y,ys,e,h1,h2⟩,0,c,hj=>by
  subst e
  simp only [List.getElem?_cons_zero,sie] at hj
  subst hj
  exact ⟨y,rfl,h1⟩
 | x :: a,_,⟨y,ys,e,h1,h2⟩,j+1,c,hj=>by
  subst e
  simp only [List.getElem?_cons_succ] at hj ⊢
  exact repWs_get h2 j c hj
theorem repWCs_iff {r:Nat}:∀ (cs:List PV) (o:Nat),RepWCs w M r o cs↔∀ j c,cs[j]?=some c→∃ v,w.cell? ⟨r,o+j,none⟩=some v∧¬ M r (o+j)∧v.oneCell'=true∧RepW w M c v
 | [],o=>by simp [RepWCs]
 | c :: cs,o=>by
  simp only [RepWCs,repWCs_iff cs (o+1)]
  constructor
  ·rintro ⟨h0,h1⟩ j x hj
   cases j with
   | zero=>simp at hj; subst hj; exact h0
   | succ j =>
    have:=h1 j x (by simpa using hj)
    rw [show o+(j+1)=o+1+j from by omega]
    exact this
  ·intro h
   refine ⟨h 0 c rfl,fun j x hj=>?_⟩
   have:=h (j+1) x (by simpa using hj)
   rw [show o+(j+1)=o+1+j from by omega] at this
   exact this
theorem repWEs_mk {S r:Nat}:∀ (es:List (List PV)) (o:Nat),(∀ (i:Nat) c,es[i]?=some c→c.length=S∧RepWCs w M r (o+i * S) c)→RepWEs w M S r o es
 | [],o,_=>by simp [RepWEs]
 | e :: es,o,h=>by
  simp only [RepWEs]
  refine ⟨by simpa using h 0 e rfl,repWEs_mk es (o+S) fun i c hi=>?_⟩
  have:=h (i+1) c (by simpa using hi)
  rw [show o+(i+1) * S=o+S+i * S from by rw [Nat.add_mul]; omega] at this
  exact this
theorem repWs_u {φ:Nat→Nat} {h:Heap}:∀ {cs:List PV} {l:List Value},RepWs w M cs l→RepAs φ h w M ((uC cs).map .p) l
 | [],_,h=>by simp only [RepWs] at h; subst h; simp [uC,RepAs]
 | c :: cs,_,⟨y,ys,e,h1,h2⟩=>by
  subst e
  have h3:=repWs_u (φ:=φ) (h:=h) h2
  show RepAs φ h w M (.p (uP c) :: (uC cs).map .p) (y :: ys)
  simp only [RepAs]
  refine ⟨y,ys,rfl,?_,h3⟩
  cases c with
  | val x=>simpa [RepA,RepW,RepP,uP] using h1
  | sl S es=>simp only [RepW] at h1; simp only [uP,RepA,RepP]; exact h1
  | ad S es=>simp only [RepW] at h1
  | slu S es=>simp only [RepW] at h1
def GotW (P:Program) (w:World) (M:Mset) (d:Nat) (t:TypeId) (vs:List Value):Prop :=
 ∃ cs:List PV,Sh P d t cs∧RepWs w M cs vs∧(∀ v ∈ vs,v.oneCell'=true)
theorem gotW_one {P:Program} {d:Nat} {t:TypeId} {c:PV} {v:Value} (h1:Sh P d t [c]) (h2:RepW w M c v) (h3:v.oneCell'=true):GotW P w M d t [v] :=
 ⟨[c],h1,⟨v,[],rfl,h2,rfl⟩,by simpa using h3⟩
end
section
variable {H:Type} {enc:TypeId × Value→H} {P:Program} {w:World} {held:Bool} {φ:Nat→Nat} {M:Mset}
theorem trod_gotW (hM:∀ r o,¬ M r o) {TS:List TypeId} (hc:closedW P TS=true):∀ (d:Nat) (t:TypeId) (vs:List Value) (x:DataW H × List MemPlace),TS.contains t=true→DataW.trod enc P w 0 (fun _=>true) held d t vs=some x→GotW P w M d t vs∧vs.length=P.cellsOf t:=by
 intro d
 induction d with
 | zero=>intro t vs x hp h; simp [DataW.trod] at h
 | succ d ih =>
  intro t vs x hp h
  have hp:=closedW_at hc hp
  have hfs:∀ (fs:List Field) (off total:Nat) (vs:List Value),vs.length=total→tilesOk P total off fs=true→fs.all (fun f=>TS.contains f.type)=true →
    (∀ f ∈ fs,∃ y,DataW.trod enc P w 0 (fun _=>true) held d f.type ((vs.drop f.offset).take (P.cellsOf f.type))=some y)→∃ cs,ShFs (Sh P d) fs cs∧RepWs w M cs (vs.drop off)∧(∀ v ∈ vs.drop off,v.oneCell'=true):=by
   intro fs
   induction fs with
   | nil =>
    intro off total vs hl ht _ _
    simp only [tilesOk,beq_iff_eq] at ht
    have:vs.drop off=[]:=List.drop_eq_nil_of_le zo
    exact ⟨[],rfl,by rw [this]; simp [RepWs],by rw [this]; simp⟩
   | cons f fs ihf =>
    intro off total vs hl ht ha hm
    simp only [tilesOk,bae,beq_iff_eq] at ht
    simp only [List.all_cons,bae] at ha
    obtain ⟨y,hy⟩:=hm f zq
    rw [ht.1] at hy
    obtain ⟨⟨c1,g1,g2,g3⟩,_⟩:=ih f.type _ y ha.1 hy
    obtain ⟨c2,k1,k2,k3⟩:=ihf (off+P.cellsOf f.type) total vs hl ht.2 ha.2 (fun f hf=>hm f (by simp [hf]))
    have e:vs.drop off=(vs.drop off).take (P.cellsOf f.type)++vs.drop (off+P.cellsOf f.type):=by
     rw [← List.drop_drop]; exact (List.take_append_drop _ _).symm
    refine ⟨c1++c2,⟨c1,c2,rfl,g1,k1⟩,?_,?_⟩
    ·rw [e]; exact repWs_app g2 k2
    ·rw [e]; intro v hv
     rcases List.mem_append.1 hv with hv | hv
     ·exact g3 v hv
     ·exact k3 v hv
  have har:∀ (e:TypeId) (n k:Nat) (vs:List Value),vs.length=(k+n) * P.cellsOf e→TS.contains e=true →
    (∀ i,k≤i→i < k+n→∃ y,DataW.trod enc P w 0 (fun _=>true) held d e ((vs.drop (i * P.cellsOf e)).take (P.cellsOf e))=some y)→∃ cs,ShN (Sh P d e) n cs∧RepWs w M cs (vs.drop (k * P.cellsOf e))∧(∀ v ∈ vs.drop (k * P.cellsOf e),v.oneCell'=true):=by
   intro e n
   induction n with
   | zero =>
    intro k vs hl _ _
    have:vs.drop (k * P.cellsOf e)=[]:=List.drop_eq_nil_of_le (by simp at hl; omega)
    exact ⟨[],rfl,by rw [this]; simp [RepWs],by rw [this]; simp⟩
   | succ n ihn =>
    intro k vs hl hpe hm
    obtain ⟨y,hy⟩:=hm k zo zo
    obtain ⟨⟨c1,g1,g2,g3⟩,_⟩:=ih e _ y hpe hy
    obtain ⟨c2,k1,k2,k3⟩:=ihn (k+1) vs (by rw [hl]; congr 1; omega) hpe (fun i h1 h2=>hm i zo zo)
    have e':vs.drop (k * P.cellsOf e)=(vs.drop (k * P.cellsOf e)).take (P.cellsOf e)++vs.drop ((k+1) * P.cellsOf e):=by
     rw [Nat.add_mul,Nat.one_mul,← List.drop_drop]; exact (List.take_append_drop _ _).symm
    refine ⟨c1++c2,⟨c1,c2,rfl,g1,k1⟩,?_,?_⟩
    ·rw [e']; exact repWs_app g2 k2
    ·rw [e']; intro v hv
     rcases List.mem_append.1 hv with hv | hv
     ·exact g3 v hv
     ·exact k3 v hv
  unfold okTsW at hp
  cases hu:P.underlying t with
  | none=>rw [hu] at hp; cases hp
  | some td =>
   rw [hu] at hp
   cases td with
   | bool =>
    obtain ⟨b,rfl,_⟩:=DataW.trod_bool hu h
    simp only [beq_iff_eq] at hp
    exact ⟨gotW_one (c:=.val (.bool b)) (by simp only [Sh,hu]; exact ⟨b,rfl⟩) (by simp [RepW]) rfl,by simp [hp]⟩
   | int k =>
    obtain ⟨n,rfl,_,hw⟩:=DataW.trod_int hu h
    simp only [beq_iff_eq] at hp
    exact ⟨gotW_one (c:=.val (.int k n)) (by simp only [Sh,hu]; exact ⟨n,rfl,hw⟩) (by simp [RepW]) rfl,by simp [hp]⟩
   | string =>
    obtain ⟨b,rfl,_,hw⟩:=DataW.trod_string hu h
    simp only [beq_iff_eq] at hp
    refine ⟨gotW_one (c:=.val (.string b)) ?_ (by simp [RepW]) rfl,by simp [hp]⟩
    simp only [Sh,hu]
    exact ⟨b.data.toList,by simp [mkS],by simpa using hw⟩
   | slice e =>
    simp only [bae,beq_iff_eq,Nat.blt_eq] at hp
    rcases DataW.trod_slice hu h with ⟨rfl,_⟩ | ⟨a,len,cap,elems,rest,n,en,rfl,_,_,hlc,hcm,hel,hrest⟩
    ·refine ⟨gotW_one (c:=.sl (P.cellsOf e) []) ?_ (by simp only [RepW]; exact .inr ⟨trivial,none,0,rfl⟩) rfl,by simp [hp.1.1]⟩
     simp only [Sh,hu]
     exact ⟨[],rfl,by simp,by simp⟩
    ·obtain rfl:d=n:=by omega
     have hget:=hrest.1
     have hone:∀ i,i < len→∃ (vs:List Value) (cs:List PV),w.cells? 0 (a.add (i * P.cellsOf e)) (P.cellsOf e)=some vs∧Sh P d e cs∧RepWs w M cs vs∧(∀ v ∈ vs,v.oneCell'=true):=by
      intro i hi
      have h1:elems[i]?=some elems[i]:=List.getElem?_eq_getElem zo
      have h2:=hget i hi
      rw [h1] at h2
      obtain ⟨vs,h3,h4⟩:=zBS.1 h2
      obtain ⟨⟨cs,g1,g2,g3⟩,_⟩:=ih e vs _ hp.2 h4
      exact ⟨vs,cs,h3,g1,g2,g3⟩
     obtain ⟨es,hes,hq⟩:=pick_list (Q:=fun i cs=>∃ vs,w.cells? 0 (a.add (i * P.cellsOf e)) (P.cellsOf e)=some vs∧Sh P d e cs∧RepWs w M cs vs∧(∀ v ∈ vs,v.oneCell'=true)) len (fun i hi=>by
      obtain ⟨vs,cs,h1,h2⟩:=hone i hi
      exact ⟨cs,vs,h1,h2⟩)
     refine ⟨gotW_one (c:=.sl (P.cellsOf e) es) ?_ ?_ rfl,by simp [hp.1.1]⟩
     ·simp only [Sh,hu]
      refine ⟨es,rfl,by omega,fun x hx=>?_⟩
      obtain ⟨i,hi,rfl⟩:=List.getElem_of_mem hx
      obtain ⟨vs,_,h2,_⟩:=hq i es[i] (List.getElem?_eq_getElem hi)
      exact h2
     ·simp only [RepW]
      by_cases h0:len=0
      ·subst h0
       exact .inr ⟨List.eq_nil_of_length_eq_zero hes,some a,cap,rfl⟩
      ·have hspot:a.spot=none:=by
        obtain ⟨vs,h1,_⟩:=hq 0 es[0] (List.getElem?_eq_getElem zo)
        obtain ⟨g1,g2⟩:=cells?_get h1
        have h3:=g2 0 hp.1.2
        simp only [Nat.zero_mul,add_zero] at h3
        rw [List.getElem?_eq_getElem zo] at h3
        exact cell?_spot h3
       obtain ⟨ab,ao,aas⟩:=a
       simp only at hspot
       subst hspot
       refine .inl ⟨ab,ao,cap,by rw [hes],by omega,repWEs_mk es ao (fun i c hi=>?_)⟩
       obtain ⟨vs,h1,h2,h3,h4⟩:=hq i c hi
       obtain ⟨g1,g2⟩:=cells?_get h1
       have hlen:=repWs_length h3
       refine ⟨by omega,?_⟩
       rw [repWCs_iff]
       intro j q hj
       obtain ⟨v,k1,k2⟩:=repWs_get h3 j q hj
       have hj':j < P.cellsOf e:=by have:=(zLG.1 k1).1; omega
       have k3:=g2 j hj'
       rw [add_some,add_some,k1] at k3
       exact ⟨v,k3,hM _ _,h4 v (List.mem_of_getElem? k1),k2⟩
   | struct fs =>
    simp only [bae] at hp
    obtain ⟨xs,n,en,_,hl,hx,hall⟩:=DataW.trod_struct hu h
    obtain rfl:d=n:=by omega
    obtain ⟨cs,g1,g2,g3⟩:=hfs fs.toList 0 (P.cellsOf t) vs hl hp.1 hp.2 (by
     intro f hf
     obtain ⟨i,hi,rfl⟩:=List.getElem_of_mem hf
     have h1:fs[i]?=some fs.toList[i]:=by simp
     have h2:=hall i _ h1
     have h3:i < xs.length:=by rw [hx]; simpa using hi
     exact ⟨xs[i],by rw [h2]; exact List.getElem?_eq_getElem h3⟩)
    simp only [List.drop_zero] at g2 g3
    exact ⟨⟨cs,by simp only [Sh,hu]; exact g1,g2,g3⟩,hl⟩
   | array n e =>
    simp only [bae,beq_iff_eq] at hp
    obtain ⟨xs,m,en,_,hl,hx,hall⟩:=DataW.trod_array hu h
    obtain rfl:d=m:=by omega
    obtain ⟨cs,g1,g2,g3⟩:=har e n 0 vs (by rw [hl,Nat.zero_add,hp.1]) hp.2 (by
     intro i _ hi
     have hi':i < n:=by omega
     have h3:i < xs.length:=by omega
     exact ⟨xs[i],by rw [hall i hi']; exact List.getElem?_eq_getElem h3⟩)
    simp only [Nat.zero_mul,List.drop_zero] at g2 g3
    exact ⟨⟨cs,by simp only [Sh,hu]; exact g1,g2,g3⟩,hl⟩
   | _=>cases hp
end
section
variable {H:Type} {enc:TypeId × Value→H} {P:Program} {w:World} {φ:Nat→Nat} {M:Mset}
theorem arg_gotW (hM:∀ r o,¬ M r o) {TS:List TypeId} (hc:closedW P TS=true) {base:Nat} {t:TypeId} {v:Value} {x:DataW H} {ps:List MemPlace} (hp:TS.contains t=true) (hv:Value.okWide P w .any base t v)
  (h:DataW.Trod enc P w 0 (fun _=>true) true t v x ps):∃ d cs,Sh P d t cs∧RepA φ emp w M (avOf P t (uC cs)) v:=by
 obtain ⟨fuel,h⟩:=h
 obtain ⟨⟨cs,h1,h2,h3⟩,hl⟩:=trod_gotW hM hc fuel t _ _ hp h
 refine ⟨fuel,cs,h1,?_⟩
 have h2:=repWs_u (φ:=φ) (h:=emp) h2
 generalize uC cs=cs at h2 ⊢
 have hp:=closedW_at hc hp
 show RepA φ emp w M (avOf P t cs) v
 ·unfold Value.okWide at hv
  unfold avOf
  cases hu:P.underlying t with
  | none=>simp [okTsW,hu] at hp
  | some td =>
   rw [hu] at hv
   have one:(∀ c,v ≠ .agg c)→P.cellsOf t=1→RepA φ emp w M (one1 cs) v:=by
    intro ha hc
    have e:v.cells=#[v]:=by cases v <;> first | rfl | exact absurd rfl (ha _)
    rw [e] at h2
    match cs,h2 with
    | [c],h2 =>
     simp only [zMC,List.map_nil,RepAs] at h2
     obtain ⟨y,ys,e1,e2,e3⟩:=h2
     simp at e1
     obtain ⟨rfl,rfl⟩:=e1
     exact e2
    | [],h2=>simp [RepAs] at h2
    | _ :: _ :: _,h2 =>
     simp only [zMC,RepAs] at h2
     obtain ⟨y,ys,e1,_,z,zs,e2,_⟩:=h2
     subst e2
     simp at e1
   have agg:(∃ c,v=.agg c)→RepA φ emp w M (ag cs) v:=by
    rintro ⟨c,rfl⟩
    exact ⟨c.toList,by simp,h2⟩
   cases td with
   | bool =>
    simp only [okTsW,hu,beq_iff_eq] at hp
    exact one (fun c hc=>by subst hc; simp [Cell.okWide,Cell.ok,hu] at hv) hp
   | int k =>
    simp only [okTsW,hu,beq_iff_eq] at hp
    exact one (fun c hc=>by subst hc; simp [Cell.okWide,Cell.ok,hu] at hv) hp
   | string =>
    simp only [okTsW,hu,beq_iff_eq] at hp
    exact one (fun c hc=>by subst hc; simp [Cell.okWide,Cell.ok,hu] at hv) hp
   | slice e =>
    simp only [okTsW,hu,bae,beq_iff_eq] at hp
    exact one (fun c hc=>by subst hc; simp [Cell.okWide,Cell.ok,hu] at hv) hp.1.1
   | struct fs =>
    obtain ⟨c,rfl,_⟩:=hv
    exact agg ⟨c,rfl⟩
   | array n e =>
    obtain ⟨c,rfl,_⟩:=hv
    exact agg ⟨c,rfl⟩
   | _=>simp [okTsW,hu] at hp
theorem args_gotW (hM:∀ r o,¬ M r o) {TS:List TypeId} (hc:closedW P TS=true) {base:Nat}:∀ {ts:List TypeId} {vs:List Value} {ds:List (DataW H)} {ps:List MemPlace},ts.all (fun t=>TS.contains t)=true →
  (∀ (j:Nat) t v,ts[j]?=some t→vs[j]?=some v→Value.okWide P w .any base t v)→DataW.TrodAll enc P w 0 (fun _=>true) true ts vs ds ps→∃ d aas,ArgsShU P d ts aas∧RepAs φ emp w M aas vs
 | [],vs,ds,ps,_,_,h=>by
  obtain ⟨rfl,_,_⟩:=trodAll_nil h
  exact ⟨0,[],rfl,rfl⟩
 | t :: ts,vs,ds,ps,hp,hv,h=>by
  obtain ⟨v,vs',d',ds',p,q,rfl,rfl,rfl,h1,h2⟩:=trodAll_cons h
  simp only [List.all_cons,bae] at hp
  obtain ⟨d1,cs,g1,g2⟩:=arg_gotW (φ:=φ) hM hc hp.1 (hv 0 t v rfl rfl) h1
  obtain ⟨d2,aas,g3,g4⟩:=args_gotW hM hc hp.2 (fun j t v a b=>hv (j+1) t v (by simpa using a) (by simpa using b)) h2
  refine ⟨d1+d2,_,⟨cs,aas,rfl,sh_add g1 d2,?_⟩,v,vs',rfl,g2,g4⟩
  rw [Nat.add_comm]
  exact argsShU_add d1 g3
theorem law_contractU {f:FuncId} {fn:Func} {s:ChangeSpec} {tb:TypeId} {TS:List TypeId} {apart fresh handsOn again:Bool}
  (hl:laidOutB P=true) (hc:closedW P TS=true) (hpure:fn.params.toList.all (fun t=>TS.contains t)=true) (hread:fn.params.toList.all (fun t=>P.readableRec t&&Nat.blt t P.types.size)=true)
  (hres:fn.resultTypes=#[tb]) (htb:P.underlying tb=some .bool) (hvars:s.vars=[])
  (hspec:∀ ds:List (DataW H),ds.length=fn.params.size→s.fn H ds={ results:=[.lit (.bool true)],args:=ds })
  (hcall:∀ d aas,ArgsShU P (d+9) fn.params.toList aas→PCall P f aas (.ret (.p (.val (.bool true)))))
  {W:World} {base:Nat} {args:Array Value} {ds gs:List (DataW H)} {before:List MemPlace}
  (hval:∀ (j:Nat) t v,fn.params[j]?=some t→args[j]?=some v→Value.okWide P W .any base t v)
  (hW:DataW.Whole enc P fn.params.toList s.vars apart W args.toList ds gs before) (hg:gmW W:=by exact trivial) :
  Calls P f args W fun e W'=>∃ v,e=.returned v∧s.post enc P fn apart fresh handsOn again W args v W':=by
 have hW':=hW
 obtain ⟨p,q,hA,hV,rfl,hfz,hnd⟩:=hW
 rw [hvars] at hV
 obtain ⟨rfl,rfl⟩:=trodVars_none hV
 have hlen:ds.length=fn.params.size:=by
  have:∀ {ts:List TypeId} {vs:List Value} {ds:List (DataW H)} {ps:List MemPlace},DataW.TrodAll enc P W 0 (fun _=>true) true ts vs ds ps→ds.length=ts.length:=by
   intro ts
   induction ts with
   | nil=>intro vs ds ps h; obtain ⟨_,rfl,_⟩:=trodAll_nil h; rfl
   | cons t ts ih=>intro vs ds ps h; obtain ⟨v,vs',d',ds',p,q,rfl,rfl,rfl,h1,h2⟩:=trodAll_cons h; simp [ih h2]
  simpa using this hA
 obtain ⟨D,aas,g1,g2⟩:=args_gotW (φ:=fun x=>x) (M:=MM (fun x=>x) emp (fun _ _=>False)) (base:=base) (fun r o h=>h.elim not_mut_emp id) hc hpure
  (fun j t v a b=>hval j t v (by simpa using a) (by simpa using b)) hA
 have hc:=hcall D aas (argsShU_add 9 g1) (fun x=>x) (fun _ _=>False) W args.toList (relH_emp (fun _ _ h=>h.elim) hg (fun _ _ _ h=>h)) g2
 simp only [Array.toArray_toList] at hc
 refine hc.mono ?_
 rintro e w' ⟨φ',r',h',⟨rfl,rfl⟩,hH',E,hv⟩
 obtain ⟨v,rfl,hv⟩:=hv
 simp only [RepA,RepP] at hv
 subst hv
 have o:=over_of_evol E
 have hlt:∀ x ∈ p,x.block < W.heap.size:=fun x hx=>hW'.lt x (by simpa using hx)
 refine ⟨_,rfl,?_⟩
 have hsp:s.fn H (ds++[])={ results:=[.lit (.bool true)],args:=ds }:=by rw [List.append_nil]; exact hspec ds hlen
 have hr:∀ (b:Nat) (sp:Nat→Bool) (hd:Bool),DataW.TrodAll enc P w' b sp hd fn.resultTypes.toList ((Value.bool true).resultList fn.resultTypes.size) [.lit (.bool true)] []:=fun b sp hd=>by
  rw [hres]; exact trodAll_cons_mk (shut_bool htb _) trodAll_mk0
 refine ⟨ds,[],p++[],[],p,[],hW',by rw [hsp]; exact hr _ _ _,by rw [hsp]; exact trodAll_over hl (fun b hb=>by simpa using hb) o hread hlt hA,by rw [hsp,hvars]; rfl,o.kept _,fun _=>?_⟩
 refine ⟨ok_one hres rfl (okWide_bool_mk htb _),[.lit (.bool true)]++ds,[],([]++p)++[],⟨[]++p,[],?_,?_,rfl,?_,?_⟩,?_⟩
 ·exact trodAll_append (trodAll_over hl (fun b hb=>rfl) o hread hlt hA) (hr _ _ _)
 ·rw [hvars]; rfl
 ·intro b off hp
  rw [o.frozen (by exact hlt (.cell b off) (by simpa using hp))]
  exact hfz b off (by simpa using hp)
 ·intro ha; simpa using hnd ha
 ·intro x hx _; simpa using hx
end
end Go.Abs
namespace Go.Abs
open Go
theorem itoa_pcall {P:Program} {ρ:Go.Shelf.Ren} (L:Go.Proofs.LaysM.n171 P ρ) (ht:∀ w,gmW w→Lib.TabIs P w "internal/strconv.uint64pow10" .u64 Lib.pow10Tab) {n:Int} (h0:-9223372036854775808≤n) (h1:n≤9223372036854775807) :
  PCall P (ρ.f 171) [.p (.val (.int .i64 n))] (.ret (.p (.val (.string (mkS (Lib.itoa n)))))):=by
 intro φ M0 w vs r ha
 simp only [RepAs] at ha
 obtain ⟨y,ys,rfl,hy,rfl⟩:=ha
 simp only [RepA,RepP] at hy
 subst hy
 refine (Go.Proofs.Any.strconv_Itoa L n h0 h1 w (ht w r.gm.w)).mono ?_
 rintro e w' ⟨rfl,k,os,rfl⟩
 have hs:w.heap.size≤(Sort.grow (w.drewN k) os).heap.size:=by simp [Sort.grow,World.drewN]
 obtain ⟨E,X,R⟩:=evol_grow (φ:=φ) (h:=emp) (M0:=M0) (w:=w) (w':=Sort.grow (w.drewN k) os) rfl rfl rfl hs
  (fun x hx=>by simp only [Sort.grow,World.drewN]; rw [Array.getElem?_append,if_pos hx]) r (fun c hc=>absurd rfl hc)
 refine ⟨φ,_,emp,⟨rfl,rfl⟩,R,E,_,rfl,?_⟩
 simp only [RepA,RepP,mkS]
end Go.Abs
namespace Go.Proofs
open Go.Shelf
def Tryd.laysM171_ren:Go.Shelf.Ren:=⟨fun | 171=>27 | 243=>47 | 246=>71 | 283=>90 | 284=>91 | 285=>92 | 286=>93 | 129=>98 | 317=>97 | 318=>99 | 319=>100 | 320=>101 | 337=>102 | 338=>103 | n=>n,fun | 3=>3 | 9=>9 | 2=>2 | 4=>4 | 171=>100 | 0=>0 | 53=>101 | 37=>35 | 5=>5 | 173=>104 | 212=>108 | 51=>109 | 20=>20 | 213=>110 | 46=>112 | 232=>115 | 233=>116 | n=>n,fun | 17=>0 | 18=>1 | 19=>2 | n=>n⟩
theorem Tryd.laysM171:Go.Proofs.LaysM.n171 Tryd.prog Tryd.laysM171_ren:={
 mixed:=by kernel_rfl
 f129:=Tryd.func98.trans (congrArg some (by kernel_rfl))
 f171:=Tryd.func27.trans (congrArg some (by kernel_rfl))
 f243:=Tryd.func47.trans (congrArg some (by kernel_rfl))
 f246:=Tryd.func71.trans (congrArg some (by kernel_rfl))
 f283:=Tryd.func90.trans (congrArg some (by kernel_rfl))
 f284:=Tryd.func91.trans (congrArg some (by kernel_rfl))
 f285:=Tryd.func92.trans (congrArg some (by kernel_rfl))
 f286:=Tryd.func93.trans (congrArg some (by kernel_rfl))
 f317:=Tryd.func97.trans (congrArg some (by kernel_rfl))
 f318:=Tryd.func99.trans (congrArg some (by kernel_rfl))
 f319:=Tryd.func100.trans (congrArg some (by kernel_rfl))
 f320:=Tryd.func101.trans (congrArg some (by kernel_rfl))
 f337:=Tryd.func102.trans (congrArg some (by kernel_rfl))
 f338:=Tryd.func103.trans (congrArg some (by kernel_rfl))
 t0:=Tryd.underlying0
 a0:=Tryd.isAgg0
 z0:=Tryd.sizeOf0
 v0:=Tryd.zeroValue0
 t2:=Tryd.underlying2
 a2:=Tryd.isAgg2
 z2:=Tryd.sizeOf2
 v2:=Tryd.zeroValue2
 t3:=Tryd.underlying3
 a3:=Tryd.isAgg3
 z3:=Tryd.sizeOf3
 v3:=Tryd.zeroValue3
 t4:=Tryd.underlying4
 a4:=Tryd.isAgg4
 z4:=Tryd.sizeOf4
 v4:=Tryd.zeroValue4
 t5:=Tryd.underlying5
 a5:=Tryd.isAgg5
 z5:=Tryd.sizeOf5
 v5:=Tryd.zeroValue5
 t9:=Tryd.underlying9
 a9:=Tryd.isAgg9
 z9:=Tryd.sizeOf9
 v9:=Tryd.zeroValue9
 t20:=Tryd.underlying20
 a20:=Tryd.isAgg20
 z20:=Tryd.sizeOf20
 v20:=Tryd.zeroValue20
 t37:=Tryd.underlying35
 a37:=Tryd.isAgg35
 z37:=Tryd.sizeOf35
 v37:=Tryd.zeroValue35
 t46:=Tryd.underlying112
 a46:=Tryd.isAgg112
 z46:=Tryd.sizeOf112
 v46:=Tryd.zeroValue112
 t51:=Tryd.underlying109
 a51:=Tryd.isAgg109
 z51:=Tryd.sizeOf109
 v51:=Tryd.zeroValue109
 t53:=Tryd.underlying101
 a53:=Tryd.isAgg101
 z53:=Tryd.sizeOf101
 v53:=Tryd.zeroValue101
 t171:=Tryd.underlying100
 a171:=Tryd.isAgg100
 z171:=Tryd.sizeOf100
 v171:=Tryd.zeroValue100
 t173:=Tryd.underlying104
 a173:=Tryd.isAgg104
 z173:=Tryd.sizeOf104
 v173:=Tryd.zeroValue104
 t212:=Tryd.underlying108
 a212:=Tryd.isAgg108
 z212:=Tryd.sizeOf108
 v212:=Tryd.zeroValue108
 t213:=Tryd.underlying110
 a213:=Tryd.isAgg110
 z213:=Tryd.sizeOf110
 t232:=Tryd.underlying115
 a232:=Tryd.isAgg115
 z232:=Tryd.sizeOf115
 v232:=Tryd.zeroValue115
 t233:=Tryd.underlying116
 a233:=Tryd.isAgg116
 z233:=Tryd.sizeOf116
 v233:=Tryd.zeroValue116
 g17:=by kernel_rfl
 g18:=by kernel_rfl
 g19:=by kernel_rfl
 i0:=by kernel_rfl
 i2:=by kernel_rfl
 i3:=by kernel_rfl
 i4:=by kernel_rfl
 i5:=by kernel_rfl
 i9:=by kernel_rfl
 i20:=by kernel_rfl
 i37:=by kernel_rfl
 i46:=by kernel_rfl
 i51:=by kernel_rfl
 i53:=by kernel_rfl
 i171:=by kernel_rfl
 i173:=by kernel_rfl
 i212:=by kernel_rfl
 i232:=by kernel_rfl
 i233:=by kernel_rfl
 m17:=by kernel_rfl
 m18:=by kernel_rfl
 m19:=by kernel_rfl }
open Go Go.Abs
theorem itoaTab:∀ w,gmW w→Lib.TabIs Tryd.prog w "internal/strconv.uint64pow10" .u64 Lib.pow10Tab:=by
 rintro w ⟨ty,fz,hw⟩
 unfold Lib.TabIs World.var?
 rw [show Tryd.prog.globalNamed "internal/strconv.uint64pow10"=some 0 by kernel_rfl]
 simp only [obs,hw]
theorem gm_tab {w:World} (h:Lib.TabIs Tryd.prog w "internal/strconv.uint64pow10" .u64 Lib.pow10Tab):gmW w:=by
 unfold Lib.TabIs World.var? at h
 rw [show Tryd.prog.globalNamed "internal/strconv.uint64pow10"=some 0 by kernel_rfl] at h
 simp only [obs] at h
 split at h
 ·rename_i cs ty fz hc
  simp only [sie] at h
  subst h
  exact ⟨ty,fz,hc⟩
 ·cases h
theorem itoa_at {n:Int} (h0:-9223372036854775808≤n) (h1:n≤9223372036854775807):PCall Tryd.prog 27 [.p (.val (.int .i64 n))] (.ret (.p (.val (.string (mkS (Lib.itoa n)))))) :=
 itoa_pcall Tryd.laysM171 itoaTab h0 h1
end Go.Proofs
namespace Go.Proofs
open Go Go.Abs
set_option maxRecDepth 100000
abbrev VI (n:Int):PV:=.val (.int .i64 n)
abbrev VU (n:Int):PV:=.val (.int .u64 n)
abbrev VB (b:Bool):PV:=.val (.bool b)
abbrev VS (s:List UInt8):PV:=.val (.string (mkS s))
abbrev I (n:Int):AV:=.p (.val (.int .i64 n))
abbrev B8 (n:Int):AV:=.p (.val (.int .u8 n))
abbrev B (b:Bool):AV:=.p (.val (.bool b))
abbrev S (s:List UInt8):AV:=.p (.val (.string (mkS s)))
def ci (n:Int):List PV:=[VI n]
abbrev zS:AV:=.p (.val (.slice none 0 0))
abbrev mI:List (List PV)→List (List PV):=List.map idc
abbrev hS (w:Option Addr) (l c:Nat):Go.Abs.AV:=.p (.val (.slice w l c))
abbrev pZ0:Go.Abs.AV:=.ptr 1000 0
abbrev pZ1:Go.Abs.AV:=.ptr 1001 0
abbrev pZ2:Go.Abs.AV:=.ptr 1002 0
abbrev pZ3:Go.Abs.AV:=.ptr 1003 0
abbrev qq (n:Nat):Nat × Go.Abs.AV:=(n, .ptr n 0)
def cb (n:Bool):List PV:=[VB n]
def cstr (n:List UInt8):List PV:=[VS n]
theorem Tryd.fm:Tryd.prog.follows .mixedOrders=true:=by kernel_rfl
structure GN where
 Kind:Int
 Name:List UInt8
 N:Int
 At:Int
 Kids:List (List PV)
def GN.cs (x:GN):List PV:=[VI x.Kind,VS x.Name,VI x.N,VI x.At, .sl 5 (List.map idc x.Kids)]
def GN.of:List PV→Option GN
 | [.val (.int .i64 v0), .val (.string v1), .val (.int .i64 v2), .val (.int .i64 v3), .sl s4 v4]=>if s4=5 then some ⟨v0,byt v1,v2,v3,v4⟩ else none
 | _=>none
theorem GN.of_cs (r:List PV) (x:GN) (h:GN.of r=some x):GN.cs x=r:=by
 unfold GN.of at h
 split at h
 ·split at h
  ·rename_i hs
   cases h
   simp [GN.cs,mkS_byt,map_idc,hs]
  ·cases h
 ·cases h
def GN.csu (x:GN):List PV:=[VI x.Kind,VS x.Name,VI x.N,VI x.At, .slu 5 (List.map idc x.Kids)]
theorem GN.of_csu (r:List PV) (x:GN) (h:GN.of r=some x):GN.csu x=uC r:=by
 rw [← GN.of_cs r x h]
 rfl
structure GTk where
 Kind:Int
 Text:List UInt8
 N:Int
 At:Int
deriving DecidableEq
def GTk.cs (x:GTk):List PV:=[VI x.Kind,VS x.Text,VI x.N,VI x.At]
abbrev mTk:List GTk→List (List PV):=List.map GTk.cs
structure GDg where
 Err:Int
 At:Int
deriving DecidableEq
def GDg.cs (x:GDg):List PV:=[VI x.Err,VI x.At]
abbrev mDg:List GDg→List (List PV):=List.map GDg.cs
structure GPr where
 tks:List GTk
 pos:Int
 length:Int
 dg:List GDg
deriving DecidableEq
def GPr.cs (x:GPr):List PV:=[.sl 4 (List.map GTk.cs x.tks),VI x.pos,VI x.length, .sl 2 (List.map GDg.cs x.dg)]
def eN_ (x:List (List PV)):List PV:=[.sl 5 (List.map idc x)]
def wfB:Nat→GN→Bool
 | 0,x=>x.Kids.isEmpty
 | d+1,x=>x.Kids.all fun c=>match GN.of c with
  | some y=>wfB d y
  | none=>false
def wfK (d:Nat) (ks:List (List PV)):Bool:=ks.all fun c=>match GN.of c with
 | some y=>wfB d y
 | none=>false
theorem map_idc (l:List (List PV)):List.map idc l=l:=List.map_id l
theorem wfB_cn:∀ (d:Nat) (x:GN),wfB d x=true→∀ e ∈ x.Kids,∀ c ∈ e,Cn 5 c
 | 0,x,h,e,he,c,hc=>by
  have:x.Kids=[]:=by simpa [wfB] using h
  rw [this] at he
  cases he
 | d+1,x,h,e,he,c,hc=>by
  simp only [wfB,zAT] at h
  have h1:=h e he
  split at h1
  rotate_left
  ·cases h1
  rename_i y hy
  have h2:=GN.of_cs e y hy
  rw [← h2] at hc
  simp only [GN.cs,List.mem_cons,List.not_mem_nil,or_false] at hc
  rcases hc with rfl | rfl | rfl | rfl | rfl
  ·exact .int _ _
  ·exact .str _
  ·exact .int _ _
  ·exact .int _ _
  ·rw [map_idc]
   exact .sl _ fun e' he' c' hc'=>wfB_cn d y h1 e' he' c' hc'
theorem wfK_cn {d:Nat} {ks:List (List PV)} (h:wfK d ks=true):∀ e ∈ List.map idc ks,∀ c ∈ e,Cn 5 c:=by
 rw [map_idc]
 exact wfB_cn (d+1) ⟨0,[],0,0,ks⟩ h
def isSt:Nat→List (List PV)→List (List PV)→Bool
 | 0,ks,js=>ks.isEmpty&&js.isEmpty
 | d+1,ks,js=>decide (ks.length=js.length)&&(ks.zip js).all fun p=>match GN.of p.1,GN.of p.2 with
  | some x,some y=>decide (x.Kind=y.Kind)&&(decide (x.Name=y.Name)&&(decide (x.N=y.N)&&(decide (y.At=0)&&isSt d x.Kids y.Kids)))
  | _,_=>false
theorem isSt_uniq:∀ (d:Nat) (ks js js':List (List PV)),isSt d ks js=true→isSt d ks js'=true→js=js'
 | 0,ks,js,js',h1,h2=>by
  simp only [isSt,bae,List.isEmpty_iff] at h1 h2
  rw [h1.2,h2.2]
 | d+1,ks,js,js',h1,h2=>by
  simp only [isSt,bae,zDT,zAT] at h1 h2
  obtain ⟨l1,a1⟩:=h1
  obtain ⟨l2,a2⟩:=h2
  refine List.ext_getElem zo fun i g1 g2=>?_
  have b1:=a1 (ks[i]'zo,js[i]) (by rw [← List.getElem_zip (h:=by simp; omega)]; exact List.getElem_mem _)
  have b2:=a2 (ks[i]'zo,js'[i]) (by rw [← List.getElem_zip (h:=by simp; omega)]; exact List.getElem_mem _)
  simp only at b1 b2
  cases hx:GN.of (ks[i]'zo) with
  | none=>rw [hx] at b1; cases b1
  | some x =>
   rw [hx] at b1 b2
   cases hy:GN.of js[i] with
   | none=>rw [hy] at b1; cases b1
   | some y =>
    cases hy':GN.of js'[i] with
    | none=>rw [hy'] at b2; cases b2
    | some y' =>
     rw [hy] at b1
     rw [hy'] at b2
     simp only [bae,zDT] at b1 b2
     obtain ⟨c1,c2,c3,c4,c5⟩:=b1
     obtain ⟨d1,d2,d3,d4,d5⟩:=b2
     have hk:=isSt_uniq d _ _ _ c5 d5
     rw [← GN.of_cs _ _ hy,← GN.of_cs _ _ hy']
     have:y=y':=by
      obtain ⟨y1,y2,y3,y4,y5⟩:=y
      obtain ⟨z1,z2,z3,z4,z5⟩:=y'
      simp only at c1 c2 c3 c4 d1 d2 d3 d4 hk
      subst hk
      rw [← c1,← c2,← c3,c4,← d1,← d2,← d3,d4]
     rw [this]
theorem isSt_id {k:Nat} {ks js:List (List PV)} (h:isSt k ks js=true):isSt k (List.map idc ks) js=true:=by rw [map_idc]; exact h
def gDone (es:List (List PV)) (v:PV):Prop:=(∀ e ∈ es,∀ c ∈ e,Cn 5 c)∧∃ js,isSt 900 es js=true∧v=.sl 5 (List.map idc js)
def g_x_isGap (n:Nat) (a0b:Int):Option Bool :=
 cond (eqI a0b 32)
  (some true)
  (cond (eqI a0b 9)
   (some true)
   (some (eqI a0b 10)))
theorem g_x_isGap_ok (n:Nat) (a0b:Int):∀ r,g_x_isGap n a0b=some r→PCall Tryd.prog 41 [B8 a0b] (.ret (B r)):=by
 refine pcall_sim Tryd.func41 rfl Tryd.ntmps41 rfl ?_
 unfold g_x_isGap
 exact sRK Tryd.fm ⟨[(0,B8 a0b)],[]⟩ krf (sS (sG (xR 3 krf (xS (eqI a0b 32) (fun h1=>xN (want_ft krf h1) krf (xR 7 krf (xE (sNK ⟨[(2,B true)],[]⟩ krf (sT (qR (.id) krf krf krf)))))) (fun h1=>xO (want_ff krf h1) krf (xR 3 krf (xS (eqI a0b 9) (fun h2=>xN (want_ft krf h2) krf (xR 3 krf (xE (sNK ⟨[(2,B true)],[]⟩ krf (sT (qR (.id) krf krf krf)))))) (fun h2=>xO (want_ff krf h2) krf (xR 3 krf (xE (sNK ⟨[(2,B (eqI a0b 10))],[]⟩ krf (sT (qR (.id) krf krf krf)))))))))))))
def g_x_isLower (n:Nat) (a0b:Int):Option Bool :=
 cond (leI 97 a0b)
  (some (leI a0b 122))
  (some false)
theorem g_x_isLower_ok (n:Nat) (a0b:Int):∀ r,g_x_isLower n a0b=some r→PCall Tryd.prog 54 [B8 a0b] (.ret (B r)):=by
 refine pcall_sim Tryd.func54 rfl Tryd.ntmps54 rfl ?_
 unfold g_x_isLower
 exact sRK Tryd.fm ⟨[(0,B8 a0b)],[]⟩ krf (sS (sG (xR 3 krf (xS (leI 97 a0b) (fun h1=>xO (want_tt krf h1) krf (xR 3 krf (xE (sNK ⟨[(2,B (leI a0b 122))],[]⟩ krf (sT (qR (.id) krf krf krf)))))) (fun h1=>xN (want_tf krf h1) krf (xR 3 krf (xE (sNK ⟨[(2,B false)],[]⟩ krf (sT (qR (.id) krf krf krf))))))))))
def g_x_isDigit (n:Nat) (a0b:Int):Option Bool :=
 cond (leI 48 a0b)
  (some (leI a0b 57))
  (some false)
theorem g_x_isDigit_ok (n:Nat) (a0b:Int):∀ r,g_x_isDigit n a0b=some r→PCall Tryd.prog 55 [B8 a0b] (.ret (B r)):=by
 refine pcall_sim Tryd.func55 rfl Tryd.ntmps55 rfl ?_
 unfold g_x_isDigit
 exact sRK Tryd.fm ⟨[(0,B8 a0b)],[]⟩ krf (sS (sG (xR 3 krf (xS (leI 48 a0b) (fun h1=>xO (want_tt krf h1) krf (xR 3 krf (xE (sNK ⟨[(2,B (leI a0b 57))],[]⟩ krf (sT (qR (.id) krf krf krf)))))) (fun h1=>xN (want_tf krf h1) krf (xR 3 krf (xE (sNK ⟨[(2,B false)],[]⟩ krf (sT (qR (.id) krf krf krf))))))))))
def g_x_isPunct (n:Nat) (a0b:Int):Option Bool :=
 cond (eqI a0b 59)
  (some true)
  (cond (eqI a0b 123)
   (some true)
   (some (eqI a0b 125)))
theorem g_x_isPunct_ok (n:Nat) (a0b:Int):∀ r,g_x_isPunct n a0b=some r→PCall Tryd.prog 56 [B8 a0b] (.ret (B r)):=by
 refine pcall_sim Tryd.func56 rfl Tryd.ntmps56 rfl ?_
 unfold g_x_isPunct
 exact sRK Tryd.fm ⟨[(0,B8 a0b)],[]⟩ krf (sS (sG (xR 3 krf (xS (eqI a0b 59) (fun h1=>xN (want_ft krf h1) krf (xR 7 krf (xE (sNK ⟨[(2,B true)],[]⟩ krf (sT (qR (.id) krf krf krf)))))) (fun h1=>xO (want_ff krf h1) krf (xR 3 krf (xS (eqI a0b 123) (fun h2=>xN (want_ft krf h2) krf (xR 3 krf (xE (sNK ⟨[(2,B true)],[]⟩ krf (sT (qR (.id) krf krf krf)))))) (fun h2=>xO (want_ff krf h2) krf (xR 3 krf (xE (sNK ⟨[(2,B (eqI a0b 125))],[]⟩ krf (sT (qR (.id) krf krf krf)))))))))))))
def g_x_kindOf (n:Nat) (a0b:Int):Option Int :=
 (g_x_isGap n a0b).bind fun r1 =>
 cond r1
  (some 1)
  (cond (eqI a0b 35)
   (some 2)
   ((g_x_isLower n a0b).bind fun r2 =>
   cond r2
    (some 3)
    ((g_x_isDigit n a0b).bind fun r3 =>
    cond r3
     (some 4)
     ((g_x_isPunct n a0b).bind fun r4 =>
     cond r4
      (some 5)
      (some 0)))))
theorem g_x_kindOf_ok (n:Nat) (a0b:Int):∀ r,g_x_kindOf n a0b=some r→PCall Tryd.prog 39 [B8 a0b] (.ret (I r)):=by
 refine pcall_sim Tryd.func39 rfl Tryd.ntmps39 rfl ?_
 unfold g_x_kindOf
 refine sRK Tryd.fm ⟨[(0,B8 a0b)],[]⟩ krf (sS (sB (sS (sG (xR 1 krf ?_)))))
 refine xC [] krf (g_x_isGap_ok n a0b) krf krf kff (fun r1=>?_)
 refine xR 1 krf (xE (sNK ⟨[(0,B8 a0b),(3,B r1)],[]⟩ krf (sC r1 krf (sRK Tryd.fm ⟨[(2,I 1)],[]⟩ krf (sT (bq_r (sq_r (qR (.id) krf krf krf))))) (sRK Tryd.fm ⟨[(0,B8 a0b),(6,B (eqI a0b 35))],[]⟩ krf (sC (eqI a0b 35) krf (sRK Tryd.fm ⟨[(2,I 2)],[]⟩ krf (sT (bq_r (sq_r (qR (.id) krf krf krf))))) (sS (sG (xR 1 krf ?_))))))))
 refine xC [] krf (g_x_isLower_ok n a0b) krf krf kff (fun r2=>?_)
 refine xR 1 krf (xE (sNK ⟨[(0,B8 a0b),(9,B r2)],[]⟩ krf (sC r2 krf (sRK Tryd.fm ⟨[(2,I 3)],[]⟩ krf (sT (bq_r (sq_r (qR (.id) krf krf krf))))) (sS (sG (xR 1 krf ?_))))))
 refine xC [] krf (g_x_isDigit_ok n a0b) krf krf kff (fun r3=>?_)
 refine xR 1 krf (xE (sNK ⟨[(0,B8 a0b),(12,B r3)],[]⟩ krf (sC r3 krf (sRK Tryd.fm ⟨[(2,I 4)],[]⟩ krf (sT (bq_r (sq_r (qR (.id) krf krf krf))))) (sS (sG (xR 1 krf ?_))))))
 refine xC [] krf (g_x_isPunct_ok n a0b) krf krf kff (fun r4=>?_)
 exact xR 1 krf (xE (sNK ⟨[(15,B r4)],[]⟩ krf (sC r4 krf (sRK Tryd.fm ⟨[(2,I 5)],[]⟩ krf (sT (bq_r (sq_r (qR (.id) krf krf krf))))) (sK (bq_n (sNK ⟨[],[]⟩ krf (sRK Tryd.fm ⟨[(2,I 0)],[]⟩ krf (sT (qR (.id) krf krf krf)))))))))
def g_x_span_l1 (n:Nat) (a0z:List UInt8) (recl1:Int→Option Int) (l1:Int):Option Int :=
 (cond (ltI l1 (lenI a0z))
  ((getI a0z l1).bind fun x4 =>
  (g_x_isGap n (b2i x4)).bind fun r5 =>
  some r5)
  (some false)).bind fun j2 =>
 cond j2
  (recl1 (wi (l1+1)))
  (some l1)
def g_x_span (n:Nat) (a0z:List UInt8) (a1from:Int):Option Int :=
 loopN (fun recl1 l1=>g_x_span_l1 n a0z recl1 l1) n a1from
def tq0:=fun x0 x1 x2=>([(0,S x0),(1,I x1),(2, .p (.val x2))]:List (Nat × AV))
def tq1:=fun x0 x1 x2=>([(0,S x0),(2, .p (.val x1)),(7,I x2)]:List (Nat × AV))
def sq0:=fun x0 x1 x2=>(⟨tq1 x0 x1 x2,[]⟩:St)
def tq2:=fun x0 x1 x2 x3=>([(0,S x0),(2, .p (.val x1)),(7,I x2),(19,B x3)]:List (Nat × AV))
theorem g_x_span_ok (n:Nat) (a0z:List UInt8) (a1from:Int):∀ r,g_x_span n a0z a1from=some r→PCall Tryd.prog 40 [S a0z,I a1from, .p (.val (.func (.func 41) #[] #[]))] (.ret (I r)):=by
 refine pcall_sim Tryd.func40 rfl Tryd.ntmps40 rfl ?_
 unfold g_x_span
 refine sRK Tryd.fm ⟨tq0 a0z a1from (.func (.func 41) #[] #[]),[]⟩ krf (sRK Tryd.fm (sq0 a0z (.func (.func 41) #[] #[]) a1from) krf (sS (sB (sim_loop (fun l1=>(sq0 a0z (.func (.func 41) #[] #[]) l1):Int→St) (wsK krf) ?_))))
 rintro recl1 l1
 show SimE (g_x_span_l1 n a0z recl1 l1) _ _ _ _ _ _
 unfold g_x_span_l1
 refine sS (sBi (fun j2=>⟨tq2 a0z (.func (.func 41) #[] #[]) l1 j2,[]⟩:Bool→St) ?_ ?_)
 ·refine sG (xR 5 krf (xS (ltI l1 (lenI a0z)) (fun h3=>?_) (fun h3=>?_)))
  ·refine xO (want_tt krf h3) krf (xR 2 krf (xG krf krf (aop_sidx (l:=a0z) (k:=.i64) (n:=l1) rfl krf krf krf) (fun x4=>?_)))
   refine xC [] krf (g_x_isGap_ok n (b2i x4)) krf krf kff (fun r5=>?_)
   exact xR 1 krf (xE (nqK r5 krf))
  exact xN (want_tf krf h3) krf (xR 5 krf (xE (nqK false krf)))
 rintro j2
 exact sC j2 krf (sK (sNK (sq0 a0z (.func (.func 41) #[] #[]) l1) krf (sB (sL Tryd.fm krf (bq_n (kqK (wi (l1+1)) krf)))))) (sim_exit (sq_x (kq_x (bq_hit (sNK ⟨[(7,I l1)],[]⟩ krf (sRK Tryd.fm ⟨[(6,I l1)],[]⟩ krf (sT (qR (.id) krf krf krf))))))))
def g_x_Lex_1 (n:Nat) (a0b:Int):Option Bool :=
 some (!eqI a0b 10)
theorem g_x_Lex_1_ok (n:Nat) (a0b:Int):∀ r,g_x_Lex_1 n a0b=some r→PCall Tryd.prog 38 [B8 a0b] (.ret (B r)):=by
 refine pcall_sim Tryd.func38 rfl Tryd.ntmps38 rfl ?_
 unfold g_x_Lex_1
 exact sRK Tryd.fm ⟨[(0,B8 a0b)],[]⟩ krf (sRK Tryd.fm ⟨[(2,B (!eqI a0b 10))],[]⟩ krf (sT (qR (.id) krf krf krf)))
def g_x_span_2_l1 (n:Nat) (a0z:List UInt8) (recl1:Int→Option Int) (l1:Int):Option Int :=
 (cond (ltI l1 (lenI a0z))
  ((getI a0z l1).bind fun x4 =>
  (g_x_Lex_1 n (b2i x4)).bind fun r5 =>
  some r5)
  (some false)).bind fun j2 =>
 cond j2
  (recl1 (wi (l1+1)))
  (some l1)
def g_x_span_2 (n:Nat) (a0z:List UInt8) (a1from:Int):Option Int :=
 loopN (fun recl1 l1=>g_x_span_2_l1 n a0z recl1 l1) n a1from
theorem g_x_span_2_ok (n:Nat) (a0z:List UInt8) (a1from:Int):∀ r,g_x_span_2 n a0z a1from=some r→PCall Tryd.prog 40 [S a0z,I a1from, .p (.val (.func (.func 38) #[] #[]))] (.ret (I r)):=by
 refine pcall_sim Tryd.func40 rfl Tryd.ntmps40 rfl ?_
 unfold g_x_span_2
 refine sRK Tryd.fm ⟨tq0 a0z a1from (.func (.func 38) #[] #[]),[]⟩ krf (sRK Tryd.fm (sq0 a0z (.func (.func 38) #[] #[]) a1from) krf (sS (sB (sim_loop (fun l1=>(sq0 a0z (.func (.func 38) #[] #[]) l1):Int→St) (wsK krf) ?_))))
 rintro recl1 l1
 show SimE (g_x_span_2_l1 n a0z recl1 l1) _ _ _ _ _ _
 unfold g_x_span_2_l1
 refine sS (sBi (fun j2=>⟨tq2 a0z (.func (.func 38) #[] #[]) l1 j2,[]⟩:Bool→St) ?_ ?_)
 ·refine sG (xR 5 krf (xS (ltI l1 (lenI a0z)) (fun h3=>?_) (fun h3=>?_)))
  ·refine xO (want_tt krf h3) krf (xR 2 krf (xG krf krf (aop_sidx (l:=a0z) (k:=.i64) (n:=l1) rfl krf krf krf) (fun x4=>?_)))
   refine xC [] krf (g_x_Lex_1_ok n (b2i x4)) krf krf kff (fun r5=>?_)
   exact xR 1 krf (xE (nqK r5 krf))
  exact xN (want_tf krf h3) krf (xR 5 krf (xE (nqK false krf)))
 rintro j2
 exact sC j2 krf (sK (sNK (sq0 a0z (.func (.func 38) #[] #[]) l1) krf (sB (sL Tryd.fm krf (bq_n (kqK (wi (l1+1)) krf)))))) (sim_exit (sq_x (kq_x (bq_hit (sNK ⟨[(7,I l1)],[]⟩ krf (sRK Tryd.fm ⟨[(6,I l1)],[]⟩ krf (sT (qR (.id) krf krf krf))))))))
def g_x_isNamePart (n:Nat) (a0b:Int):Option Bool :=
 (g_x_isLower n a0b).bind fun r1 =>
 cond r1
  (some true)
  ((g_x_isDigit n a0b).bind fun r3 =>
  cond r3
   (some true)
   (some (eqI a0b 95)))
theorem g_x_isNamePart_ok (n:Nat) (a0b:Int):∀ r,g_x_isNamePart n a0b=some r→PCall Tryd.prog 57 [B8 a0b] (.ret (B r)):=by
 refine pcall_sim Tryd.func57 rfl Tryd.ntmps57 rfl ?_
 unfold g_x_isNamePart
 refine sRK Tryd.fm ⟨[(0,B8 a0b)],[]⟩ krf (sS (sG (xR 1 krf ?_)))
 refine xC [] krf (g_x_isLower_ok n a0b) krf krf kff (fun r1=>?_)
 refine xR 1 krf (xS r1 (fun h2=>xN (want_ft krf h2) krf (xR 7 krf (xE (sNK ⟨[(2,B true)],[]⟩ krf (sT (qR (.id) krf krf krf)))))) (fun h2=>xO (want_ff krf h2) krf ?_))
 refine xC [] krf (g_x_isDigit_ok n a0b) krf krf kff (fun r3=>?_)
 exact xR 2 krf (xS r3 (fun h4=>xN (want_ft krf h4) krf (xR 3 krf (xE (sNK ⟨[(2,B true)],[]⟩ krf (sT (qR (.id) krf krf krf)))))) (fun h4=>xO (want_ff krf h4) krf (xR 3 krf (xE (sNK ⟨[(2,B (eqI a0b 95))],[]⟩ krf (sT (qR (.id) krf krf krf)))))))
def g_x_span_3_l1 (n:Nat) (a0z:List UInt8) (recl1:Int→Option Int) (l1:Int):Option Int :=
 (cond (ltI l1 (lenI a0z))
  ((getI a0z l1).bind fun x4 =>
  (g_x_isNamePart n (b2i x4)).bind fun r5 =>
  some r5)
  (some false)).bind fun j2 =>
 cond j2
  (recl1 (wi (l1+1)))
  (some l1)
def g_x_span_3 (n:Nat) (a0z:List UInt8) (a1from:Int):Option Int :=
 loopN (fun recl1 l1=>g_x_span_3_l1 n a0z recl1 l1) n a1from
theorem g_x_span_3_ok (n:Nat) (a0z:List UInt8) (a1from:Int):∀ r,g_x_span_3 n a0z a1from=some r→PCall Tryd.prog 40 [S a0z,I a1from, .p (.val (.func (.func 57) #[] #[]))] (.ret (I r)):=by
 refine pcall_sim Tryd.func40 rfl Tryd.ntmps40 rfl ?_
 unfold g_x_span_3
 refine sRK Tryd.fm ⟨tq0 a0z a1from (.func (.func 57) #[] #[]),[]⟩ krf (sRK Tryd.fm (sq0 a0z (.func (.func 57) #[] #[]) a1from) krf (sS (sB (sim_loop (fun l1=>(sq0 a0z (.func (.func 57) #[] #[]) l1):Int→St) (wsK krf) ?_))))
 rintro recl1 l1
 show SimE (g_x_span_3_l1 n a0z recl1 l1) _ _ _ _ _ _
 unfold g_x_span_3_l1
 refine sS (sBi (fun j2=>⟨tq2 a0z (.func (.func 57) #[] #[]) l1 j2,[]⟩:Bool→St) ?_ ?_)
 ·refine sG (xR 5 krf (xS (ltI l1 (lenI a0z)) (fun h3=>?_) (fun h3=>?_)))
  ·refine xO (want_tt krf h3) krf (xR 2 krf (xG krf krf (aop_sidx (l:=a0z) (k:=.i64) (n:=l1) rfl krf krf krf) (fun x4=>?_)))
   refine xC [] krf (g_x_isNamePart_ok n (b2i x4)) krf krf kff (fun r5=>?_)
   exact xR 1 krf (xE (nqK r5 krf))
  exact xN (want_tf krf h3) krf (xR 5 krf (xE (nqK false krf)))
 rintro j2
 exact sC j2 krf (sK (sNK (sq0 a0z (.func (.func 57) #[] #[]) l1) krf (sB (sL Tryd.fm krf (bq_n (kqK (wi (l1+1)) krf)))))) (sim_exit (sq_x (kq_x (bq_hit (sNK ⟨[(7,I l1)],[]⟩ krf (sRK Tryd.fm ⟨[(6,I l1)],[]⟩ krf (sT (qR (.id) krf krf krf))))))))
def g_x_span_4_l1 (n:Nat) (a0z:List UInt8) (recl1:Int→Option Int) (l1:Int):Option Int :=
 (cond (ltI l1 (lenI a0z))
  ((getI a0z l1).bind fun x4 =>
  (g_x_isDigit n (b2i x4)).bind fun r5 =>
  some r5)
  (some false)).bind fun j2 =>
 cond j2
  (recl1 (wi (l1+1)))
  (some l1)
def g_x_span_4 (n:Nat) (a0z:List UInt8) (a1from:Int):Option Int :=
 loopN (fun recl1 l1=>g_x_span_4_l1 n a0z recl1 l1) n a1from
theorem g_x_span_4_ok (n:Nat) (a0z:List UInt8) (a1from:Int):∀ r,g_x_span_4 n a0z a1from=some r→PCall Tryd.prog 40 [S a0z,I a1from, .p (.val (.func (.func 55) #[] #[]))] (.ret (I r)):=by
 refine pcall_sim Tryd.func40 rfl Tryd.ntmps40 rfl ?_
 unfold g_x_span_4
 refine sRK Tryd.fm ⟨tq0 a0z a1from (.func (.func 55) #[] #[]),[]⟩ krf (sRK Tryd.fm (sq0 a0z (.func (.func 55) #[] #[]) a1from) krf (sS (sB (sim_loop (fun l1=>(sq0 a0z (.func (.func 55) #[] #[]) l1):Int→St) (wsK krf) ?_))))
 rintro recl1 l1
 show SimE (g_x_span_4_l1 n a0z recl1 l1) _ _ _ _ _ _
 unfold g_x_span_4_l1
 refine sS (sBi (fun j2=>⟨tq2 a0z (.func (.func 55) #[] #[]) l1 j2,[]⟩:Bool→St) ?_ ?_)
 ·refine sG (xR 5 krf (xS (ltI l1 (lenI a0z)) (fun h3=>?_) (fun h3=>?_)))
  ·refine xO (want_tt krf h3) krf (xR 2 krf (xG krf krf (aop_sidx (l:=a0z) (k:=.i64) (n:=l1) rfl krf krf krf) (fun x4=>?_)))
   refine xC [] krf (g_x_isDigit_ok n (b2i x4)) krf krf kff (fun r5=>?_)
   exact xR 1 krf (xE (nqK r5 krf))
  exact xN (want_tf krf h3) krf (xR 5 krf (xE (nqK false krf)))
 rintro j2
 exact sC j2 krf (sK (sNK (sq0 a0z (.func (.func 55) #[] #[]) l1) krf (sB (sL Tryd.fm krf (bq_n (kqK (wi (l1+1)) krf)))))) (sim_exit (sq_x (kq_x (bq_hit (sNK ⟨[(7,I l1)],[]⟩ krf (sRK Tryd.fm ⟨[(6,I l1)],[]⟩ krf (sT (qR (.id) krf krf krf))))))))
def g_x_value_l4 (a0text:List UInt8) (recl4:(Int × Int)→Option (Int × Int)) (l4_1:Int) (l4_2:Int):Option (Int × Int) :=
 cond (ltI l4_2 (lenI a0text))
  ((getI a0text l4_2).bind fun x5 =>
  cond (ltI 1000000 (wi ((wi (10 * l4_1))+(wi (w8 ((b2i x5) - 48))))))
   (some (0,3))
   (recl4 (wi ((wi (10 * l4_1))+(wi (w8 ((b2i x5) - 48)))),wi (l4_2+1))))
  (some (l4_1,0))
def g_x_value (n:Nat) (a0text:List UInt8):Option (Int × Int) :=
 (cond (ltI 1 (lenI a0text))
  ((getI a0text 0).bind fun x3 =>
  some (eqI (b2i x3) 48))
  (some false)).bind fun j1 =>
 cond j1
  (some (0,7))
  (loopN (fun recl4 (l4_1,l4_2)=>g_x_value_l4 a0text recl4 l4_1 l4_2) n (0,0))
def tq3:=fun x0 x1 x2=>([(0,S x0),(4,I x1),(5,I x2)]:List (Nat × AV))
theorem g_x_value_ok (n:Nat) (a0text:List UInt8):∀ r,g_x_value n a0text=some r→PCall Tryd.prog 58 [S a0text] (.ret (.tup [I r.1,I r.2])):=by
 refine pcall_sim Tryd.func58 rfl Tryd.ntmps58 rfl ?_
 unfold g_x_value
 refine sRK Tryd.fm ⟨[(0,S a0text)],[]⟩ krf (sS (sBi (fun j1=>⟨[(0,S a0text),(13,B j1)],[]⟩:Bool→St) (sG (xR 4 krf (xS (ltI 1 (lenI a0text)) (fun h2=>xO (want_tt krf h2) krf (xG krf krf (aop_sidx (l:=a0text) (k:=.i64) (n:=0) rfl krf krf krf) (fun x3=>xR 2 krf (xE (nqK (eqI (b2i x3) 48) krf))))) (fun h2=>xN (want_tf krf h2) krf (xR 3 krf (xE (nqK false krf))))))) ?_))
 rintro j1
 refine sC j1 krf (sRK Tryd.fm ⟨[(2,I 0),(3,I 7)],[]⟩ krf (sT (sq_r (qR (.id) krf krf krf)))) (sK (sNK ⟨[(0,S a0text)],[]⟩ krf (sRK Tryd.fm ⟨[(0,S a0text),(4,I 0)],[]⟩ krf (sS (sRK Tryd.fm ⟨[(0,S a0text),(4,I 0),(5,I 0)],[]⟩ krf (sB (sim_loop (fun (l4_1,l4_2)=>⟨tq3 a0text l4_1 l4_2,[]⟩:(Int × Int)→St) (wsK krf) ?_)))))))
 rintro recl4 ⟨l4_1,l4_2⟩
 show SimE (g_x_value_l4 a0text recl4 l4_1 l4_2) _ _ _ _ _ _
 unfold g_x_value_l4
 exact sS (sRK Tryd.fm ⟨[(0,S a0text),(4,I l4_1),(5,I l4_2),(17,B (ltI l4_2 (lenI a0text)))],[]⟩ krf (sC (ltI l4_2 (lenI a0text)) krf (sK (sNK ⟨tq3 a0text l4_1 l4_2,[]⟩ krf (sS (sB (sS (sG (xR 4 krf (xG krf krf (aop_sidx (l:=a0text) (k:=.i64) (n:=l4_2) rfl krf krf krf) (fun x5=>xR 4 krf (xE (sNK ⟨tq3 a0text (wi ((wi (10 * l4_1))+(wi (w8 ((b2i x5) - 48))))) l4_2,[]⟩ krf (sRK Tryd.fm ⟨[(0,S a0text),(4,I (wi ((wi (10 * l4_1))+(wi (w8 ((b2i x5) - 48)))))),(5,I l4_2),(29,B (ltI 1000000 (wi ((wi (10 * l4_1))+(wi (w8 ((b2i x5) - 48)))))))],[]⟩ krf (sC (ltI 1000000 (wi ((wi (10 * l4_1))+(wi (w8 ((b2i x5) - 48)))))) krf (sRK Tryd.fm ⟨[(2,I 0),(3,I 3)],[]⟩ krf (sT (bq_r (sq_r (kq_r (bq_r (sq_r (qR (.id) krf krf krf)))))))) (sK (bq_n (sNK ⟨tq3 a0text (wi ((wi (10 * l4_1))+(wi (w8 ((b2i x5) - 48))))) l4_2,[]⟩ krf (sL Tryd.fm krf (kqK (wi ((wi (10 * l4_1))+(wi (w8 ((b2i x5) - 48)))),wi (l4_2+1)) krf)))))))))))))))))) (sim_exit (sq_x (kq_x (bq_hit (sNK ⟨[(4,I l4_1)],[]⟩ krf (sRK Tryd.fm ⟨[(2,I l4_1),(3,I 0)],[]⟩ krf (sT (qR (.id) krf krf krf))))))))))
def g_x_token (n:Nat) (a0z:List UInt8) (a1at:Int) (a2kind:Int):Option (GTk × Int × Int) :=
 cond (eqI a2kind 3)
  ((g_x_span_3 n a0z a1at).bind fun r1 =>
  cond (ltI 12 (wi (r1 - a1at)))
   (some ((⟨0,[],0,0⟩:GTk),r1,3))
   (cond (sliceB a1at r1 (List.length a0z)) (
    some ((⟨1,List.drop (Int.toNat a1at) (List.take (Int.toNat r1) a0z),0,a1at⟩:GTk),r1,0)) none))
  (cond (eqI a2kind 4)
   ((g_x_span_4 n a0z a1at).bind fun r2 =>
   cond (sliceB a1at r2 (List.length a0z)) (
    (g_x_value n (List.drop (Int.toNat a1at) (List.take (Int.toNat r2) a0z))).bind fun r3 =>
    cond (!eqI r3.2 0)
     (some ((⟨0,[],0,0⟩:GTk),r2,r3.2))
     (some ((⟨2,[],r3.1,a1at⟩:GTk),r2,0))) none)
   (cond (eqI a2kind 5)
    (cond (sliceB a1at (wi (a1at+1)) (List.length a0z)) (
     some ((⟨3,List.drop (Int.toNat a1at) (List.take (Int.toNat (wi (a1at+1))) a0z),0,a1at⟩:GTk),wi (a1at+1),0)) none)
    (some ((⟨0,[],0,0⟩:GTk),a1at,7))))
def hq0:=fun x0 x1 x2=>([(6, .box 43 [I x0,S [],I x1,I x2])]:List (Nat × Blk))
def sq1:=fun x0 x1 x2 x3 x4=>(⟨[(6, .ptr 6 0),(7,I x0),(8,I x1)],hq0 x2 x3 x4⟩:St)
def bq0:=fun x0 x1 x2 x3=>(.box 43 [I x0,S x1,I x2,I x3]:Blk)
theorem g_x_token_ok (n:Nat) (a0z:List UInt8) (a1at:Int) (a2kind:Int):∀ r,g_x_token n a0z a1at a2kind=some r→PCall Tryd.prog 42 [S a0z,I a1at,I a2kind] (.ret (.tup [ag (GTk.cs r.1),I r.2.1,I r.2.2])):=by
 refine pcall_sim Tryd.func42 rfl Tryd.ntmps42 rfl ?_
 unfold g_x_token
 refine sRK Tryd.fm ⟨[(0,S a0z),(1,I a1at),(2,I a2kind),qq 6],hq0 0 0 0⟩ krf (sS (sRK Tryd.fm ⟨[(0,S a0z),(1,I a1at),qq 6,(13,I a2kind)],hq0 0 0 0⟩ krf (sB (sRK Tryd.fm ⟨[(0,S a0z),(1,I a1at),qq 6,(13,I a2kind),(14,B (eqI a2kind 3))],hq0 0 0 0⟩ krf (sC (eqI a2kind 3) krf ?_ ?_)))))
 ·refine sS (sG (xR 2 krf ?_))
  refine xC [] krf (g_x_span_3_ok n a0z a1at) krf krf kff (fun r1=>?_)
  exact xR 1 krf (xE (sNK ⟨[(0,S a0z),(1,I a1at),qq 6,(9,I r1)],hq0 0 0 0⟩ krf (sS (sRK Tryd.fm ⟨[(0,S a0z),(1,I a1at),qq 6,(9,I r1),(22,B (ltI 12 (wi (r1 - a1at))))],hq0 0 0 0⟩ krf (sC (ltI 12 (wi (r1 - a1at))) krf (sRK Tryd.fm (sq1 r1 3 0 0 0) krf (sT (sq_r (bq_r (sq_r (qR (.id) krf krf krf)))))) (sK (sNK ⟨[(0,S a0z),(1,I a1at),qq 6,(9,I r1)],hq0 0 0 0⟩ krf (sS (sG (xR 3 krf (xF krf krf (aop_sslice (l:=a0z) (a:=a1at) (b:=r1) rfl krf krf krf krf) (xR 6 krf (xE (sNK ⟨[qq 6,(7,I r1),(8,I 0)],[(6,(bq0 1 (List.drop (Int.toNat a1at) (List.take (Int.toNat r1) a0z)) 0 a1at))]⟩ krf (sT (bq_r (sq_r (qR (.id) krf krf krf))))))))))))))))))
 refine sRK Tryd.fm ⟨[(0,S a0z),(1,I a1at),qq 6,(13,I a2kind),(32,B (eqI a2kind 4))],hq0 0 0 0⟩ krf (sC (eqI a2kind 4) krf (sS (sG (xR 2 krf ?_))) (sRK Tryd.fm ⟨[(0,S a0z),(1,I a1at),qq 6,(54,B (eqI a2kind 5))],hq0 0 0 0⟩ krf (sC (eqI a2kind 5) krf (sS (sG (xR 4 krf (xF krf krf (aop_sslice (l:=a0z) (a:=a1at) (b:=wi (a1at+1)) rfl krf krf krf krf) (xR 7 krf (xE (sNK ⟨[qq 6,(7,I (wi (a1at+1))),(8,I 0)],[(6,(bq0 3 (List.drop (Int.toNat a1at) (List.take (Int.toNat (wi (a1at+1))) a0z)) 0 a1at))]⟩ krf (sT (bq_r (sq_r (qR (.id) krf krf krf))))))))))) (sK (bq_n (sNK ⟨[(1,I a1at),qq 6],hq0 0 0 0⟩ krf (sRK Tryd.fm (sq1 a1at 7 0 0 0) krf (sT (qR (.id) krf krf krf)))))))))
 refine xC [] krf (g_x_span_4_ok n a0z a1at) krf krf kff (fun r2=>?_)
 refine xR 1 krf (xE (sNK ⟨[(0,S a0z),(1,I a1at),qq 6,(10,I r2)],hq0 0 0 0⟩ krf (sS (sG (xR 3 krf (xF krf krf (aop_sslice (l:=a0z) (a:=a1at) (b:=r2) rfl krf krf krf krf) ?_))))))
 refine xC [] krf (g_x_value_ok n (List.drop (Int.toNat a1at) (List.take (Int.toNat r2) a0z))) krf krf kff (fun r3=>?_)
 exact xR 5 krf (xE (sNK ⟨[(1,I a1at),qq 6,(10,I r2),(11,I r3.1),(12,I r3.2)],hq0 0 0 0⟩ krf (sS (sRK Tryd.fm ⟨[(1,I a1at),qq 6,(10,I r2),(11,I r3.1),(12,I r3.2),(46,B (!eqI r3.2 0))],hq0 0 0 0⟩ krf (sC (!eqI r3.2 0) krf (sRK Tryd.fm (sq1 r2 r3.2 0 0 0) krf (sT (sq_r (bq_r (sq_r (qR (.id) krf krf krf)))))) (sK (sNK ⟨[(1,I a1at),qq 6,(10,I r2),(11,I r3.1)],hq0 0 0 0⟩ krf (sRK Tryd.fm (sq1 r2 0 2 r3.1 a1at) krf (sT (bq_r (sq_r (qR (.id) krf krf krf))))))))))))
def g_x_Lex_l1 (n:Nat) (a0z:List UInt8) (recl1:((List GTk) × Int)→Option ((List GTk) × Int × Int)) (l1_1:List GTk) (l1_2:Int):Option ((List GTk) × Int × Int) :=
 cond (ltI l1_2 (lenI a0z))
  ((getI a0z l1_2).bind fun x2 =>
  (g_x_kindOf n (b2i x2)).bind fun r3 =>
  cond (eqI r3 1)
   ((g_x_span n a0z l1_2).bind fun r4 =>
   recl1 (l1_1,r4))
   (cond (eqI r3 2)
    ((g_x_span_2 n a0z l1_2).bind fun r5 =>
    recl1 (l1_1,r5))
    (cond (eqI (lenI (List.map GTk.cs l1_1)) 2000)
     (some ([],2,l1_2))
     ((g_x_token n a0z l1_2 r3).bind fun r6 =>
     cond (!eqI r6.2.2 0)
      (some ([],r6.2.2,l1_2))
      (cond (roomB (List.length (l1_1++[r6.1])) 40) (
       recl1 (l1_1++[r6.1],r6.2.1)) none)))))
  (some (l1_1,0,0))
def g_x_Lex (n:Nat) (a0z:List UInt8):Option ((List GTk) × Int × Int) :=
 cond (ltI 8000 (lenI a0z))
  (some ([],2,0))
  (loopN (fun recl1 (l1_1,l1_2)=>g_x_Lex_l1 n a0z recl1 l1_1 l1_2) n ([],0))
def tq4:=fun x0 x1=>([(2, .p (.val (.slice none 0 0))),(3,I x0),(4,I x1)]:List (Nat × AV))
def tq5:=fun x0=>([(0,S x0),(5, .p (.val (.slice none 0 0))),(6, .p (.val (.func (.func 38) #[] #[]))),(7,I 0)]:List (Nat × AV))
def tq6:=fun x0 x1 x2=>([(0,S x0),(5, .tsl 4 (List.map GTk.cs x1) 54),(6, .p (.val (.func (.func 38) #[] #[]))),(7,I x2)]:List (Nat × AV))
def bq1:=fun x0=>(.arr 43 4 (List.map GTk.cs x0).length:Blk)
def hq1:=fun x0=>([(54,(bq1 x0))]:List (Nat × Blk))
def tq7:=fun x0 x1 x2 x3=>([(0,S x0),(5, .tsl 4 (List.map GTk.cs x1) 54),(6, .p (.val (.func (.func 38) #[] #[]))),(7,I x2),(8,I x3)]:List (Nat × AV))
def hq2:=fun x0 x1=>([(9, .box 43 (bxc (GTk.cs x0))),(54,(bq1 x1))]:List (Nat × Blk))
theorem g_x_Lex_ok (n:Nat) (a0z:List UInt8):∀ r,g_x_Lex n a0z=some r→PCall Tryd.prog 22 [S a0z] (.ret (.tup [.p (.sl 4 (mTk r.1)),I r.2.1,I r.2.2])):=by
 refine pcall_sim Tryd.func22 rfl Tryd.ntmps22 rfl ?_
 unfold g_x_Lex
 refine sRK Tryd.fm ⟨[(0,S a0z)],[]⟩ krf (sim_scope (sS (sRK Tryd.fm ⟨[(0,S a0z),(14,B (ltI 8000 (lenI a0z)))],[]⟩ krf (sC (ltI 8000 (lenI a0z)) krf (sRK Tryd.fm ⟨tq4 2 0,[]⟩ krf (sT (sq_r (qR (.agg [.sl 4, .id, .id]) krf krf krf)))) (sK (sNK ⟨[(0,S a0z)],[]⟩ krf (sRK Tryd.fm ⟨[(0,S a0z),(5,zS)],[]⟩ krf (sRK Tryd.fm ⟨[(0,S a0z),(5,zS),(6, .p (.val (.func (.func 38) #[] #[])))],[]⟩ krf (sRK Tryd.fm ⟨tq5 a0z,[]⟩ krf (sS (sim_label (sNK ⟨tq5 a0z,[]⟩ krf (sS (sB (sPK ⟨tq5 a0z,[]⟩ krf (sim_weak (weak_pn 43 4 54 [5] [] krf) (sim_loop (fun (l1_1,l1_2)=>⟨tq6 a0z l1_1 l1_2,hq1 l1_1⟩:((List GTk) × Int)→St) (wsK krf) ?_)))))))))))))))))
 rintro recl1 ⟨l1_1,l1_2⟩
 show SimE (g_x_Lex_l1 n a0z recl1 l1_1 l1_2) _ _ _ _ _ _
 unfold g_x_Lex_l1
 refine sS (sRK Tryd.fm ⟨[(0,S a0z),(5, .tsl 4 (mTk l1_1) 54),(6, .p (.val (.func (.func 38) #[] #[]))),(7,I l1_2),(18,B (ltI l1_2 (lenI a0z)))],hq1 l1_1⟩ krf (sC (ltI l1_2 (lenI a0z)) krf (sK (sNK ⟨tq6 a0z l1_1 l1_2,hq1 l1_1⟩ krf (sB (sS (sG (xR 2 krf (xG krf krf (aop_sidx (l:=a0z) (k:=.i64) (n:=l1_2) rfl krf krf krf) (fun x2=>?_)))))))) (sim_exit (sq_x (kq_x (bq_hit (sNK ⟨[(5, .tsl 4 (mTk l1_1) 54)],hq1 l1_1⟩ krf (sRK Tryd.fm ⟨[(2, .tsl 4 (mTk l1_1) 54),(3,I 0),(4,I 0)],hq1 l1_1⟩ krf (sT (qR (.agg [.sl 4, .id, .id]) krf krf krf))))))))))
 refine xC [] krf (g_x_kindOf_ok n (b2i x2)) krf krf kff (fun r3=>?_)
 refine xR 1 krf (xE (sNK ⟨tq7 a0z l1_1 l1_2 r3,hq1 l1_1⟩ krf (sS (sRK Tryd.fm ⟨[(0,S a0z),(5, .tsl 4 (mTk l1_1) 54),(6, .p (.val (.func (.func 38) #[] #[]))),(7,I l1_2),(8,I r3),(23,I r3)],hq1 l1_1⟩ krf (sB (sRK Tryd.fm ⟨[(0,S a0z),(5, .tsl 4 (mTk l1_1) 54),(6, .p (.val (.func (.func 38) #[] #[]))),(7,I l1_2),(8,I r3),(23,I r3),(24,B (eqI r3 1))],hq1 l1_1⟩ krf (sC (eqI r3 1) krf ?_ ?_)))))))
 ·refine sS (sG (xR 2 krf ?_))
  refine xC [] krf (g_x_span_ok n a0z l1_2) krf krf kff (fun r4=>?_)
  exact xR 1 krf (xE (sNK ⟨tq6 a0z l1_1 r4,hq1 l1_1⟩ krf (sim_exit (bq_miss rfl (sq_x (bq_hit (kqK (l1_1,r4) krf)))))))
 refine sRK Tryd.fm ⟨[(0,S a0z),(5, .tsl 4 (mTk l1_1) 54),(6, .p (.val (.func (.func 38) #[] #[]))),(7,I l1_2),(8,I r3),(29,B (eqI r3 2))],hq1 l1_1⟩ krf (sC (eqI r3 2) krf ?_ ?_)
 ·refine sS (sG (xR 3 krf ?_))
  refine xC [] krf (g_x_span_2_ok n a0z l1_2) krf krf kff (fun r5=>?_)
  exact xR 1 krf (xE (sNK ⟨tq6 a0z l1_1 r5,hq1 l1_1⟩ krf (sim_exit (bq_miss rfl (sq_x (bq_hit (kqK (l1_1,r5) krf)))))))
 refine sK (bq_n (sNK ⟨tq7 a0z l1_1 l1_2 r3,hq1 l1_1⟩ krf (sS (sRK Tryd.fm ⟨[(0,S a0z),(5, .tsl 4 (mTk l1_1) 54),(6, .p (.val (.func (.func 38) #[] #[]))),(7,I l1_2),(8,I r3),(37,B (eqI (lenI (mTk l1_1)) 2000))],hq1 l1_1⟩ krf (sC (eqI (lenI (mTk l1_1)) 2000) krf (sRK Tryd.fm ⟨tq4 2 l1_2,[]⟩ krf (sT (sq_r (bq_r (kq_r (bq_r (sq_r (qR (.agg [.sl 4, .id, .id]) krf krf krf)))))))) (sK (sNK ⟨tq7 a0z l1_1 l1_2 r3,hq1 l1_1⟩ krf (sS (sG (xR 3 krf ?_))))))))))
 refine xC [] krf (g_x_token_ok n a0z l1_2 r3) krf krf kff (fun r6=>?_)
 exact xR 8 krf (xE (sNK ⟨[(0,S a0z),(5, .tsl 4 (mTk l1_1) 54),(6, .p (.val (.func (.func 38) #[] #[]))),(7,I l1_2),qq 9,(10,I r6.2.1),(11,I r6.2.2)],hq2 r6.1 l1_1⟩ krf (sS (sRK Tryd.fm ⟨[(0,S a0z),(5, .tsl 4 (mTk l1_1) 54),(6, .p (.val (.func (.func 38) #[] #[]))),(7,I l1_2),qq 9,(10,I r6.2.1),(11,I r6.2.2),(48,B (!eqI r6.2.2 0))],hq2 r6.1 l1_1⟩ krf (sC (!eqI r6.2.2 0) krf (sRK Tryd.fm ⟨tq4 r6.2.2 l1_2,[]⟩ krf (sT (sq_r (bq_r (kq_r (bq_r (sq_r (qR (.agg [.sl 4, .id, .id]) krf krf krf)))))))) (sK (sNK ⟨[(0,S a0z),(5, .tsl 4 (mTk l1_1) 54),(6, .p (.val (.func (.func 38) #[] #[]))),qq 9,(10,I r6.2.1)],hq2 r6.1 l1_1⟩ krf (sS (sG (xR 3 krf (xF krf krf (aop_app (e:=43) (S:=4) (by_:=40) (enc:=GTk.cs) (tk:=54) (l:=l1_1) (l2:=[r6.1]) (xv:=.tsl 4 (mTk [r6.1]) 53) rfl krf krf rfl krf krf krf rfl krf) (xR 1 krf (xE (sNK ⟨[(0,S a0z),(5, .tsl 4 (mTk (l1_1++[r6.1])) 54),(6, .p (.val (.func (.func 38) #[] #[]))),(10,I r6.2.1)],hq1 (l1_1++[r6.1])⟩ krf (sL Tryd.fm krf (bq_n (kqK (l1_1++[r6.1],r6.2.1) krf)))))))))))))))))
def g_r_full (n:Nat) (a0r:GPr):Option Bool :=
 some (leI 20 (lenI (List.map GDg.cs a0r.dg)))
theorem g_r_full_ok (n:Nat) (a0r:GPr):∀ r,g_r_full n a0r=some r→PCall Tryd.prog 43 [.eptr (GPr.cs a0r)] (.ret (B r)):=by
 refine pcall_sim Tryd.func43 rfl Tryd.ntmps43 rfl ?_
 unfold g_r_full
 exact sRK Tryd.fm ⟨[(0, .eptr (GPr.cs a0r))],[]⟩ krf (sRK Tryd.fm ⟨[(2,B (leI 20 (lenI (mDg a0r.dg))))],[]⟩ krf (sT (qR (.id) krf krf krf)))
def g_r_peek (n:Nat) (a0r:GPr):Option GTk :=
 cond (ltI a0r.pos (lenI (List.map GTk.cs a0r.tks)))
  ((getI a0r.tks a0r.pos).bind fun x1 =>
  some x1)
  (some (⟨0,[],0,a0r.length⟩:GTk))
def tq8:=fun x0=>([(0,x0),(2, .ptr 2 0)]:List (Nat × AV))
def hq3:=fun x0 x1 x2 x3=>([(2, .box 43 [I x0,S x1,I x2,I x3])]:List (Nat × Blk))
def hq4:=fun x0=>([(2, .box 43 (bxc (GTk.cs x0)))]:List (Nat × Blk))
theorem g_r_peek_ok (n:Nat) (a0r:GPr) (h03w:Option Addr) (h03l h03c:Nat):∀ r,g_r_peek n a0r=some r→PCall Tryd.prog 82 [.eptr [.sl 4 (mTk a0r.tks),VI a0r.pos,VI a0r.length, .val (.slice h03w h03l h03c)]] (.ret (ag (GTk.cs r))):=by
 refine pcall_sim Tryd.func82 rfl Tryd.ntmps82 rfl ?_
 unfold g_r_peek
 exact sRK Tryd.fm ⟨tq8 (.eptr [.sl 4 (mTk a0r.tks),VI a0r.pos,VI a0r.length, .val (.slice h03w h03l h03c)]),hq3 0 [] 0 0⟩ krf (sS (sRK Tryd.fm ⟨[(0, .eptr [.sl 4 (mTk a0r.tks),VI a0r.pos,VI a0r.length, .val (.slice h03w h03l h03c)]),qq 2,(12,B (ltI a0r.pos (lenI (mTk a0r.tks))))],hq3 0 [] 0 0⟩ krf (sC (ltI a0r.pos (lenI (mTk a0r.tks))) krf (sS (sDr Tryd.fm rfl (xR 8 krf (xG krf krf (aop_idx (e:=43) (S:=4) (enc:=GTk.cs) (l:=a0r.tks) (k:=.i64) (n:=a0r.pos) (sv:=.p (.sl 4 (mTk a0r.tks))) rfl krf krf krf krf krf) (fun x1=>xR 2 krf (xED krf (sNK ⟨[qq 2],hq4 x1⟩ krf (sT (sq_r (qR (.id) krf krf krf)))))))))) (sK (sNK ⟨tq8 (.eptr [.sl 4 (mTk a0r.tks),VI a0r.pos,VI a0r.length, .val (.slice h03w h03l h03c)]),hq3 0 [] 0 0⟩ krf (sRK Tryd.fm ⟨[qq 2],hq3 0 [] 0 a0r.length⟩ krf (sT (qR (.id) krf krf krf))))))))
def g_p_kindOf (n:Nat) (a0w:List UInt8):Option Int :=
 cond (eqS a0w [102,101,101,100,101,114])
  (some 1)
  (cond (eqS a0w [99,97,98,108,101])
   (some 2)
   (cond (eqS a0w [111,119,110,101,114])
    (some 3)
    (cond (eqS a0w [99,111,110,116,114,97,99,116])
     (some 4)
     (cond (eqS a0w [99,104,97,114,103,101,114])
      (some 5)
      (cond (eqS a0w [98,97,121])
       (some 6)
       (cond (eqS a0w [116,97,114,105,102,102])
        (some 7)
        (some 0)))))))
def tq9:=fun x0 x1=>([(3,S x0),(4,B x1)]:List (Nat × AV))
def sq2:=fun x0 x1=>(⟨tq9 x0 x1,[]⟩:St)
theorem g_p_kindOf_ok (n:Nat) (a0w:List UInt8):∀ r,g_p_kindOf n a0w=some r→PCall Tryd.prog 64 [S a0w] (.ret (I r)):=by
 refine pcall_sim Tryd.func64 rfl Tryd.ntmps64 rfl ?_
 unfold g_p_kindOf
 exact sRK Tryd.fm ⟨[(0,S a0w)],[]⟩ krf (sS (sRK Tryd.fm ⟨[(3,S a0w)],[]⟩ krf (sB (sRK Tryd.fm (sq2 a0w (eqS a0w [102,101,101,100,101,114])) krf (sC (eqS a0w [102,101,101,100,101,114]) krf (sRK Tryd.fm ⟨[(2,I 1)],[]⟩ krf (sT (bq_r (sq_r (qR (.id) krf krf krf))))) (sRK Tryd.fm ⟨[(3,S a0w),(6,B (eqS a0w [99,97,98,108,101]))],[]⟩ krf (sC (eqS a0w [99,97,98,108,101]) krf (sRK Tryd.fm ⟨[(2,I 2)],[]⟩ krf (sT (bq_r (sq_r (qR (.id) krf krf krf))))) (sRK Tryd.fm ⟨[(3,S a0w),(8,B (eqS a0w [111,119,110,101,114]))],[]⟩ krf (sC (eqS a0w [111,119,110,101,114]) krf (sRK Tryd.fm ⟨[(2,I 3)],[]⟩ krf (sT (bq_r (sq_r (qR (.id) krf krf krf))))) (sRK Tryd.fm ⟨[(3,S a0w),(10,B (eqS a0w [99,111,110,116,114,97,99,116]))],[]⟩ krf (sC (eqS a0w [99,111,110,116,114,97,99,116]) krf (sRK Tryd.fm ⟨[(2,I 4)],[]⟩ krf (sT (bq_r (sq_r (qR (.id) krf krf krf))))) (sRK Tryd.fm ⟨[(3,S a0w),(12,B (eqS a0w [99,104,97,114,103,101,114]))],[]⟩ krf (sC (eqS a0w [99,104,97,114,103,101,114]) krf (sRK Tryd.fm ⟨[(2,I 5)],[]⟩ krf (sT (bq_r (sq_r (qR (.id) krf krf krf))))) (sRK Tryd.fm ⟨[(3,S a0w),(14,B (eqS a0w [98,97,121]))],[]⟩ krf (sC (eqS a0w [98,97,121]) krf (sRK Tryd.fm ⟨[(2,I 6)],[]⟩ krf (sT (bq_r (sq_r (qR (.id) krf krf krf))))) (sRK Tryd.fm ⟨[(16,B (eqS a0w [116,97,114,105,102,102]))],[]⟩ krf (sC (eqS a0w [116,97,114,105,102,102]) krf (sRK Tryd.fm ⟨[(2,I 7)],[]⟩ krf (sT (bq_r (sq_r (qR (.id) krf krf krf))))) (sK (bq_n (sNK ⟨[],[]⟩ krf (sRK Tryd.fm ⟨[(2,I 0)],[]⟩ krf (sT (qR (.id) krf krf krf)))))))))))))))))))))))
def g_r_item_1 (n:Nat) (a0text:List UInt8):Option Bool :=
 (g_p_kindOf n a0text).bind fun r1 =>
 some (!eqI r1 0)
theorem g_r_item_1_ok (n:Nat) (a0text:List UInt8):∀ r,g_r_item_1 n a0text=some r→PCall Tryd.prog 63 [S a0text] (.ret (B r)):=by
 refine pcall_sim Tryd.func63 rfl Tryd.ntmps63 rfl ?_
 unfold g_r_item_1
 refine sRK Tryd.fm ⟨[(0,S a0text)],[]⟩ krf (sS (sG (xR 1 krf ?_)))
 refine xC [] krf (g_p_kindOf_ok n a0text) krf krf kff (fun r1=>?_)
 exact xR 2 krf (xE (sNK ⟨[(2,B (!eqI r1 0))],[]⟩ krf (sT (qR (.id) krf krf krf))))
def g_r_fail (n:Nat) (a0r:GPr):Option (Except Int Unit) :=
 (g_r_peek n (⟨a0r.tks,a0r.pos,a0r.length,[]⟩:GPr)).bind fun r1 =>
 some (.error r1.At)
theorem g_r_fail_ok (n:Nat) (a0r:GPr) (h03w:Option Addr) (h03l h03c:Nat):∀ r,g_r_fail n a0r=some r→PCall Tryd.prog 83 [.eptr [.sl 4 (mTk a0r.tks),VI a0r.pos,VI a0r.length, .val (.slice h03w h03l h03c)]] (excE (fun r:Unit=>(.tup []:AV)) (fun e:Int=>(.ifc 87 (.agg [I e]):AV)) r):=by
 refine pcall_sim Tryd.func83 rfl Tryd.ntmps83 rfl ?_
 unfold g_r_fail
 refine sG (xR 1 krf ?_)
 refine xC [] krf (g_r_peek_ok n (⟨a0r.tks,a0r.pos,a0r.length,[]⟩:GPr) h03w h03l h03c) krf krf kff (fun r1=>?_)
 exact xR 3 krf (xPa 87 (.agg [I r1.At]) krf rfl krf (rq_p krf krf))
def g_p_isAttr (n:Nat) (a0w:List UInt8):Option Bool :=
 (cond (eqS a0w [108,105,109,105,116])
  (some (eqS a0w [108,105,109,105,116]))
  (cond (eqS a0w [110,101,117,116,114,97,108])
   (some (eqS a0w [110,101,117,116,114,97,108]))
   (cond (eqS a0w [102,117,115,101])
    (some (eqS a0w [102,117,115,101]))
    (cond (eqS a0w [116,104,101,114,109,97,108])
     (some (eqS a0w [116,104,101,114,109,97,108]))
     (cond (eqS a0w [102,114,111,109])
      (some (eqS a0w [102,114,111,109]))
      (cond (eqS a0w [97,116])
       (some (eqS a0w [97,116]))
       (cond (eqS a0w [112,104,97,115,101,115])
        (some (eqS a0w [112,104,97,115,101,115]))
        (cond (eqS a0w [97,109,112,115])
         (some (eqS a0w [97,109,112,115]))
         (cond (eqS a0w [102,97,108,108,98,97,99,107])
          (some (eqS a0w [102,97,108,108,98,97,99,107]))
          (cond (eqS a0w [111,119,110,101,114])
           (some (eqS a0w [111,119,110,101,114]))
           (cond (eqS a0w [99,97,114,100])
            (some (eqS a0w [99,97,114,100]))
            (cond (eqS a0w [114,97,110,107])
             (some (eqS a0w [114,97,110,107]))
             (some (eqS a0w [99,104,97,114,103,101,114])))))))))))))).bind fun j1 =>
 cond j1
  (some true)
  (some false)
theorem g_p_isAttr_ok (n:Nat) (a0w:List UInt8):∀ r,g_p_isAttr n a0w=some r→PCall Tryd.prog 74 [S a0w] (.ret (B r)):=by
 refine pcall_sim Tryd.func74 rfl Tryd.ntmps74 rfl ?_
 unfold g_p_isAttr
 refine sRK Tryd.fm ⟨[(0,S a0w)],[]⟩ krf (sS (sRK Tryd.fm ⟨[(3,S a0w)],[]⟩ krf (sB (sBi (fun j1=>⟨[(4,B j1)],[]⟩:Bool→St) ?_ ?_))))
 rotate_left
 ·rintro j1
  exact sC j1 krf (sRK Tryd.fm ⟨[(2,B true)],[]⟩ krf (sT (bq_r (sq_r (qR (.id) krf krf krf))))) (sK (bq_n (sNK ⟨[],[]⟩ krf (sRK Tryd.fm ⟨[(2,B false)],[]⟩ krf (sT (qR (.id) krf krf krf))))))
 exact sRK Tryd.fm (sq2 a0w (eqS a0w [108,105,109,105,116])) krf (sC (eqS a0w [108,105,109,105,116]) krf (sK (nqK (eqS a0w [108,105,109,105,116]) krf)) (sRK Tryd.fm (sq2 a0w (eqS a0w [110,101,117,116,114,97,108])) krf (sC (eqS a0w [110,101,117,116,114,97,108]) krf (sK (nqK (eqS a0w [110,101,117,116,114,97,108]) krf)) (sRK Tryd.fm (sq2 a0w (eqS a0w [102,117,115,101])) krf (sC (eqS a0w [102,117,115,101]) krf (sK (nqK (eqS a0w [102,117,115,101]) krf)) (sRK Tryd.fm (sq2 a0w (eqS a0w [116,104,101,114,109,97,108])) krf (sC (eqS a0w [116,104,101,114,109,97,108]) krf (sK (nqK (eqS a0w [116,104,101,114,109,97,108]) krf)) (sRK Tryd.fm (sq2 a0w (eqS a0w [102,114,111,109])) krf (sC (eqS a0w [102,114,111,109]) krf (sK (nqK (eqS a0w [102,114,111,109]) krf)) (sRK Tryd.fm ⟨tq9 a0w (eqS a0w [97,116]),[]⟩ krf (sC (eqS a0w [97,116]) krf (sK (nqK (eqS a0w [97,116]) krf)) (sRK Tryd.fm (sq2 a0w (eqS a0w [112,104,97,115,101,115])) krf (sC (eqS a0w [112,104,97,115,101,115]) krf (sK (nqK (eqS a0w [112,104,97,115,101,115]) krf)) (sRK Tryd.fm (sq2 a0w (eqS a0w [97,109,112,115])) krf (sC (eqS a0w [97,109,112,115]) krf (sK (nqK (eqS a0w [97,109,112,115]) krf)) (sRK Tryd.fm (sq2 a0w (eqS a0w [102,97,108,108,98,97,99,107])) krf (sC (eqS a0w [102,97,108,108,98,97,99,107]) krf (sK (nqK (eqS a0w [102,97,108,108,98,97,99,107]) krf)) (sRK Tryd.fm (sq2 a0w (eqS a0w [111,119,110,101,114])) krf (sC (eqS a0w [111,119,110,101,114]) krf (sK (nqK (eqS a0w [111,119,110,101,114]) krf)) (sRK Tryd.fm (sq2 a0w (eqS a0w [99,97,114,100])) krf (sC (eqS a0w [99,97,114,100]) krf (sK (nqK (eqS a0w [99,97,114,100]) krf)) (sRK Tryd.fm (sq2 a0w (eqS a0w [114,97,110,107])) krf (sC (eqS a0w [114,97,110,107]) krf (sK (nqK (eqS a0w [114,97,110,107]) krf)) (sL Tryd.fm krf (nqK (eqS a0w [99,104,97,114,103,101,114]) krf)))))))))))))))))))))))))
def g_p_isArticle (n:Nat) (a0w:List UInt8):Option Bool :=
 (cond (eqS a0w [115,116,97,114,116])
  (some (eqS a0w [115,116,97,114,116]))
  (cond (eqS a0w [101,110,101,114,103,121])
   (some (eqS a0w [101,110,101,114,103,121]))
   (cond (eqS a0w [116,105,109,101])
    (some (eqS a0w [116,105,109,101]))
    (cond (eqS a0w [105,100,108,101])
     (some (eqS a0w [105,100,108,101]))
     (cond (eqS a0w [99,97,112])
      (some (eqS a0w [99,97,112]))
      (some (eqS a0w [116,97,120]))))))).bind fun j1 =>
 cond j1
  (some true)
  (some false)
theorem g_p_isArticle_ok (n:Nat) (a0w:List UInt8):∀ r,g_p_isArticle n a0w=some r→PCall Tryd.prog 75 [S a0w] (.ret (B r)):=by
 refine pcall_sim Tryd.func75 rfl Tryd.ntmps75 rfl ?_
 unfold g_p_isArticle
 refine sRK Tryd.fm ⟨[(0,S a0w)],[]⟩ krf (sS (sRK Tryd.fm ⟨[(3,S a0w)],[]⟩ krf (sB (sBi (fun j1=>⟨[(4,B j1)],[]⟩:Bool→St) ?_ ?_))))
 rotate_left
 ·rintro j1
  exact sC j1 krf (sRK Tryd.fm ⟨[(2,B true)],[]⟩ krf (sT (bq_r (sq_r (qR (.id) krf krf krf))))) (sK (bq_n (sNK ⟨[],[]⟩ krf (sRK Tryd.fm ⟨[(2,B false)],[]⟩ krf (sT (qR (.id) krf krf krf))))))
 exact sRK Tryd.fm (sq2 a0w (eqS a0w [115,116,97,114,116])) krf (sC (eqS a0w [115,116,97,114,116]) krf (sK (nqK (eqS a0w [115,116,97,114,116]) krf)) (sRK Tryd.fm (sq2 a0w (eqS a0w [101,110,101,114,103,121])) krf (sC (eqS a0w [101,110,101,114,103,121]) krf (sK (nqK (eqS a0w [101,110,101,114,103,121]) krf)) (sRK Tryd.fm (sq2 a0w (eqS a0w [116,105,109,101])) krf (sC (eqS a0w [116,105,109,101]) krf (sK (nqK (eqS a0w [116,105,109,101]) krf)) (sRK Tryd.fm (sq2 a0w (eqS a0w [105,100,108,101])) krf (sC (eqS a0w [105,100,108,101]) krf (sK (nqK (eqS a0w [105,100,108,101]) krf)) (sRK Tryd.fm (sq2 a0w (eqS a0w [99,97,112])) krf (sC (eqS a0w [99,97,112]) krf (sK (nqK (eqS a0w [99,97,112]) krf)) (sL Tryd.fm krf (nqK (eqS a0w [116,97,120]) krf)))))))))))
def g_p_isWord (n:Nat) (a0w:List UInt8):Option Bool :=
 (cond (eqS a0w [111,110])
  (some (eqS a0w [111,110]))
  (cond (eqS a0w [119,111,114,107])
   (some (eqS a0w [119,111,114,107]))
   (cond (eqS a0w [115,97,116,117,114,100,97,121])
    (some (eqS a0w [115,97,116,117,114,100,97,121]))
    (cond (eqS a0w [115,117,110,100,97,121])
     (some (eqS a0w [115,117,110,100,97,121]))
     (cond (eqS a0w [98,101,116,119,101,101,110])
      (some (eqS a0w [98,101,116,119,101,101,110]))
      (cond (eqS a0w [112,101,114])
       (some (eqS a0w [112,101,114]))
       (some (eqS a0w [102,114,101,101])))))))).bind fun j1 =>
 cond j1
  (some true)
  (some false)
theorem g_p_isWord_ok (n:Nat) (a0w:List UInt8):∀ r,g_p_isWord n a0w=some r→PCall Tryd.prog 94 [S a0w] (.ret (B r)):=by
 refine pcall_sim Tryd.func94 rfl Tryd.ntmps94 rfl ?_
 unfold g_p_isWord
 refine sRK Tryd.fm ⟨[(0,S a0w)],[]⟩ krf (sS (sRK Tryd.fm ⟨[(3,S a0w)],[]⟩ krf (sB (sBi (fun j1=>⟨[(4,B j1)],[]⟩:Bool→St) ?_ ?_))))
 rotate_left
 ·rintro j1
  exact sC j1 krf (sRK Tryd.fm ⟨[(2,B true)],[]⟩ krf (sT (bq_r (sq_r (qR (.id) krf krf krf))))) (sK (bq_n (sNK ⟨[],[]⟩ krf (sRK Tryd.fm ⟨[(2,B false)],[]⟩ krf (sT (qR (.id) krf krf krf))))))
 exact sRK Tryd.fm (sq2 a0w (eqS a0w [111,110])) krf (sC (eqS a0w [111,110]) krf (sK (nqK (eqS a0w [111,110]) krf)) (sRK Tryd.fm (sq2 a0w (eqS a0w [119,111,114,107])) krf (sC (eqS a0w [119,111,114,107]) krf (sK (nqK (eqS a0w [119,111,114,107]) krf)) (sRK Tryd.fm (sq2 a0w (eqS a0w [115,97,116,117,114,100,97,121])) krf (sC (eqS a0w [115,97,116,117,114,100,97,121]) krf (sK (nqK (eqS a0w [115,97,116,117,114,100,97,121]) krf)) (sRK Tryd.fm (sq2 a0w (eqS a0w [115,117,110,100,97,121])) krf (sC (eqS a0w [115,117,110,100,97,121]) krf (sK (nqK (eqS a0w [115,117,110,100,97,121]) krf)) (sRK Tryd.fm (sq2 a0w (eqS a0w [98,101,116,119,101,101,110])) krf (sC (eqS a0w [98,101,116,119,101,101,110]) krf (sK (nqK (eqS a0w [98,101,116,119,101,101,110]) krf)) (sRK Tryd.fm (sq2 a0w (eqS a0w [112,101,114])) krf (sC (eqS a0w [112,101,114]) krf (sK (nqK (eqS a0w [112,101,114]) krf)) (sL Tryd.fm krf (nqK (eqS a0w [102,114,101,101]) krf)))))))))))))
def g_p_isKey (n:Nat) (a0w:List UInt8):Option Bool :=
 (g_p_kindOf n a0w).bind fun r1 =>
 cond (!eqI r1 0)
  (some true)
  ((g_p_isAttr n a0w).bind fun r3 =>
  cond r3
   (some true)
   ((g_p_isArticle n a0w).bind fun r5 =>
   cond r5
    (some true)
    ((g_p_isWord n a0w).bind fun r7 =>
    some r7)))
theorem g_p_isKey_ok (n:Nat) (a0w:List UInt8):∀ r,g_p_isKey n a0w=some r→PCall Tryd.prog 73 [S a0w] (.ret (B r)):=by
 refine pcall_sim Tryd.func73 rfl Tryd.ntmps73 rfl ?_
 unfold g_p_isKey
 refine sRK Tryd.fm ⟨[(0,S a0w)],[]⟩ krf (sS (sG (xR 1 krf ?_)))
 refine xC [] krf (g_p_kindOf_ok n a0w) krf krf kff (fun r1=>?_)
 refine xR 2 krf (xS (!eqI r1 0) (fun h2=>xN (want_ft krf h2) krf (xR 11 krf (xE (sNK ⟨[(2,B true)],[]⟩ krf (sT (qR (.id) krf krf krf)))))) (fun h2=>xO (want_ff krf h2) krf ?_))
 refine xC [] krf (g_p_isAttr_ok n a0w) krf krf kff (fun r3=>?_)
 refine xR 2 krf (xS r3 (fun h4=>xN (want_ft krf h4) krf (xR 7 krf (xE (sNK ⟨[(2,B true)],[]⟩ krf (sT (qR (.id) krf krf krf)))))) (fun h4=>xO (want_ff krf h4) krf ?_))
 refine xC [] krf (g_p_isArticle_ok n a0w) krf krf kff (fun r5=>?_)
 refine xR 2 krf (xS r5 (fun h6=>xN (want_ft krf h6) krf (xR 3 krf (xE (sNK ⟨[(2,B true)],[]⟩ krf (sT (qR (.id) krf krf krf)))))) (fun h6=>xO (want_ff krf h6) krf ?_))
 refine xC [] krf (g_p_isWord_ok n a0w) krf krf kff (fun r7=>?_)
 exact xR 2 krf (xE (sNK ⟨[(2,B r7)],[]⟩ krf (sT (qR (.id) krf krf krf))))
def g_p_notKey (n:Nat) (a0text:List UInt8):Option Bool :=
 (g_p_isKey n a0text).bind fun r1 =>
 some (!r1)
theorem g_p_notKey_ok (n:Nat) (a0text:List UInt8):∀ r,g_p_notKey n a0text=some r→PCall Tryd.prog 65 [S a0text] (.ret (B r)):=by
 refine pcall_sim Tryd.func65 rfl Tryd.ntmps65 rfl ?_
 unfold g_p_notKey
 refine sRK Tryd.fm ⟨[(0,S a0text)],[]⟩ krf (sS (sG (xR 1 krf ?_)))
 refine xC [] krf (g_p_isKey_ok n a0text) krf krf kff (fun r1=>?_)
 exact xR 2 krf (xE (sNK ⟨[(2,B (!r1))],[]⟩ krf (sT (qR (.id) krf krf krf))))
def g_r_values_l1 (n:Nat) (a0r:GPr) (recl1:((List (List PV)) × Int)→Option ((List (List PV)) × GPr)) (l1_1:List (List PV)) (l1_2:Int):Option ((List (List PV)) × GPr) :=
 (g_r_peek n (⟨a0r.tks,l1_2,a0r.length,[]⟩:GPr)).bind fun r2 =>
 cond (eqI r2.Kind 2)
  ((some ()).bind fun _ =>
  cond (roomB (List.length (l1_1++[GN.cs (⟨6,[],r2.N,r2.At,[]⟩:GN)])) 64) (
   recl1 (l1_1++[GN.cs (⟨6,[],r2.N,r2.At,[]⟩:GN)],wi (l1_2+1))) none)
  ((cond (eqI r2.Kind 1)
   ((g_p_notKey n r2.Text).bind fun r6 =>
   some r6)
   (some false)).bind fun j4 =>
  cond j4
   ((some ()).bind fun _ =>
   cond (roomB (List.length (l1_1++[GN.cs (⟨5,r2.Text,0,r2.At,[]⟩:GN)])) 64) (
    recl1 (l1_1++[GN.cs (⟨5,r2.Text,0,r2.At,[]⟩:GN)],wi (l1_2+1))) none)
   (some (l1_1,(⟨a0r.tks,l1_2,a0r.length,[]⟩:GPr))))
def g_r_values (n:Nat) (a0r:GPr):Option ((List (List PV)) × GPr) :=
 loopN (fun recl1 (l1_1,l1_2)=>g_r_values_l1 n a0r recl1 l1_1 l1_2) n ([],a0r.pos)
def bq2:=fun x0 x1 x2 x3=>(.box 55 [.p (.sl 4 (List.map GTk.cs x0)),I x1,I x2, .p (.val x3)]:Blk)
end Go.Proofs
