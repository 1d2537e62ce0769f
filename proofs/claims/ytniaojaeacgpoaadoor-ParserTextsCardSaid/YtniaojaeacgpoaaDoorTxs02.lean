/-
  A part of the proof of a statement of the seat YtniaojaeacgpoaaDoor.
-/
import Derived.Test.YtniaojaeacgpoaaDoorTxs01
set_option linter.unusedVariables false
namespace Go.Abs
open Go
section
variable {P:Program} {o:Oper} {φ:Nat→Nat} {M0:Mset} {N:Nat} {D:DB} {T:Nat→Option AV} {h:Heap} {a:Act} {w:World}
theorem mfDelete_ok (r:Rel φ M0 N D T h a w) {t k:TypeId} {x ix:Operand} {u:Res} (ho:o.op=.call ⟨.builtin .delete,#[x,ix],#[t,k]⟩) (he:aMfDelete P T h t x ix=some u):Yield P o φ M0 h a w u.1 (ap h u.2.1):=by
 unfold aMfDelete at he
 split at he
 rotate_left
 ·cases he
 rename_i kt e b s ht hx hix
 split at he
 rotate_left
 ·cases he
 rename_i es hb hkt
 split at he
 rotate_left
 ·cases he
 rename_i hnd
 simp only [sie] at he
 subst he
 simp only [ap]
 have hxr:=r.ev hx
 simp only [RepA] at hxr
 have hixr:=r.ev hix
 simp only [RepA,RepP] at hixr
 obtain ⟨en,clock,hw,hkeys,hvals,hborn⟩:=r.hp.blk b _ hb
 have hget:(getObj (φ b)).run P w=.ok (.map en clock) w:=by simp [getObj,Sem.run,hw]
 have hset:∀ ob,(setObj (φ b) ob).run P w=.ok () (w.putObj (φ b) ob):=fun ob=>by simp [setObj,Sem.run,hw,World.putObj]
 have hchk:=keyV_check (w:=w) (keyV_str hkt s) en.isEmpty
 have hfm:=findM_dum hkt s (onF es) 0
 obtain ⟨q,hq1,hq2⟩:=findKey_ok (w:=w) hkt (dum_keys hkeys) hfm
 have hdel:=del_on (byt s) es
 cases hi:idx (byt s) 0 (onF es) with
 | none =>
  rw [hi] at hq2
  have hq2:q=none:=hq2
  subst hq2
  have hsame:onF (delF (byt s) es)=onF es:=by
   rw [hdel,List.filter_eq_self]
   intro e he
   simp [filter_none hi e he]
  obtain ⟨E,X⟩:=evol_ob (k1:=.mf (delF (byt s) es)) (ob:=.map en clock) hb rfl rfl r.hp
  refine ⟨_, .tuple #[],w.putObj (φ b) (.map en clock),φ,exec_delete ho ?_, .inl rfl,?_,relH_ob hb rfl rfl r.hp ⟨en,clock,World.putObj_heap_same (zGS.1 hw).1,?_,?_,hborn⟩,E,X⟩
  ·simp [Builtin.delete_,run_underlying ht,hxr.1,hget,hixr,hchk,hq1,Result.andThen,hset]
  ·simp only [RepA]; exact ⟨[],rfl,rfl⟩
  ·rw [hsame]; exact hkeys
  ·rw [hsame]; exact (repA_keep (E.keeps M0) X).2 _ _ hvals
 | some j =>
  rw [hi] at hq2
  simp only [Option.map_some,findS] at hq2
  obtain ⟨m,e',g1,g2,g3,g4⟩:=hq2
  have hjm:j=m:=by omega
  subst hjm
  subst g2
  rw [erase_filter (nodup_on hnd) hi] at hdel
  have hel:(en.eraseIdxIfInBounds j).toList=en.toList.eraseIdx j:=by simp
  obtain ⟨E,X⟩:=evol_ob (k1:=.mf (delF (byt s) es)) (ob:=.map (en.eraseIdxIfInBounds j) clock) hb rfl rfl r.hp
  refine ⟨_, .tuple #[],w.putObj (φ b) (.map (en.eraseIdxIfInBounds j) clock),φ,exec_delete ho ?_, .inl rfl,?_,relH_ob hb rfl rfl r.hp ⟨_,clock,World.putObj_heap_same (zGS.1 hw).1,?_,?_,born_erase hborn⟩,E,X⟩
  ·simp [Builtin.delete_,run_underlying ht,hxr.1,hget,hixr,hchk,hq1,Result.andThen,hset]
  ·simp only [RepA]; exact ⟨[],rfl,rfl⟩
  ·rw [hdel,hel,erase_map,erase_map,hkeys]
  ·rw [hdel,hel,erase_map,erase_map]
   exact repAs_erase j ((repA_keep (E.keeps M0) X).2 _ _ hvals)
end
def bLen (P:Program) (T:Nat→Option AV) (t:TypeId) (x:Operand):Option Res:=match P.underlying t,evO T x with
 | some (.slice _),some (.bsl _ n)=>some (.p (.val (.int .i64 n)),none,[])
 | _,_=>none
def isB (T:Nat→Option AV):List (Nat × Operand)→Bool
 | (_,x) :: _=>match evO T x with | some (.fn _ _ _)=>true | _=>false
 | []=>false
def bIndexAddr (P:Program) (T:Nat→Option AV) (t:TypeId) (x ix:Operand):Option Res :=
 match evO T ix,P.underlying t,evO T x with
 | some (.p (.val (.int _ n))),some (.slice e),some (.bsl b m) =>
  match P.info? e with
  | some i=>if i.size=1∧0≤n∧n < m then some (.ptr b n.toNat,none,[]) else none
  | none=>none
 | _,_,_=>none
def bBuildSlice (P:Program) (T:Nat→Option AV) (h:Heap) (dst:Option Tmp) (t:TypeId) (len:Nat) (parts:Array (Nat × Operand)):Option Res :=
 match P.underlying t,dst,evPs T parts.toList with
 | some (.slice e),some d,some ps =>
  match P.info? e with
  | some i =>
   match i.zero,h d with
   | some z,none =>
    match cellsOf (ofV z) with
    | some zs =>
     if zs.length=1∧i.size=1∧len≤16777216∧0 < len then
      match fillA (fun k=>some (k * i.size,i.size)) (List.replicate len zs).flatten ps with
      | some rs=>if rs.length=len∧allOne rs then some (.bsl d len,some (d, .box e rs),[d]) else none
      | none=>none
     else none
    | none=>none
   | _,_=>none
  | none=>none
 | _,_,_=>none
section
variable {P:Program} {o:Oper} {φ:Nat→Nat} {M0:Mset} {N:Nat} {D:DB} {T:Nat→Option AV} {h:Heap} {a:Act} {w:World}
theorem bLen_ok (r:Rel φ M0 N D T h a w) {t:TypeId} {x:Operand} {u:Res} (ho:o.op=.call ⟨.builtin .len,#[x],#[t]⟩) (he:bLen P T t x=some u):u.2.1=none∧Yield P o φ M0 h a w u.1 h:=by
 unfold bLen at he
 split at he
 ·rename_i e b n ht hx
  simp only [sie] at he
  subst he
  have h2:=r.ev hx
  simp only [RepA] at h2
  refine ⟨rfl,yield_still r (v:=.int .i64 n) ?_ (by simp [RepA,RepP])⟩
  simp [execOp,ho,resolve,invoke,builtin,Builtin.len_,run_underlying ht,h2.1,goInt]
 ·cases he
theorem bIndexAddr_ok (r:Rel φ M0 N D T h a w) {t:TypeId} {x ix:Operand} {u:Res} (ho:o.op=.indexAddr t x ix) (he:bIndexAddr P T t x ix=some u):u.2.1=none∧Yield P o φ M0 h a w u.1 h:=by
 unfold bIndexAddr at he
 split at he
 ·rename_i k n e b m hix ht hx
  split at he
  ·rename_i i hi
   split at he
   ·rename_i hc
    simp only [sie] at he
    subst he
    have hiv:=r.ev hix
    simp only [RepA,RepP] at hiv
    have h2:=r.ev hx
    simp only [RepA] at h2
    refine ⟨rfl,yield_still r (v:=.pointer (some ⟨φ b,0+n.toNat * i.size,none⟩)) ?_ ?_⟩
    ·have hin:0≤n∧n < (m:Int):=hc.2
     simp [execOp,ho,Instr.indexAt,hiv,asIntOf,run_underlying ht,h2.1,hin,run_sizeOf' hi,Addr.add_lit]
    ·simp only [RepA]
     exact ⟨by rw [hc.1,Nat.mul_one,Nat.zero_add],h2.2⟩
   ·cases he
  ·cases he
 ·cases he
theorem bBuildSlice_ok (r:Rel φ M0 N D T h a w) {t:TypeId} {len:Nat} {parts:Array (Nat × Operand)} {u:Res} (ho:o.op=.buildSlice t len parts) (he:bBuildSlice P T h o.dst t len parts=some u):Yield P o φ M0 h a w u.1 (ap h u.2.1):=by
 unfold bBuildSlice at he
 split at he
 rotate_left
 ·cases he
 rename_i e d ps ht hdst hps
 split at he
 rotate_left
 ·cases he
 rename_i i hi
 split at he
 rotate_left
 ·cases he
 rename_i z hz hd
 split at he
 rotate_left
 ·cases he
 rename_i zs hzs
 split at he
 rotate_left
 ·cases he
 rename_i hsz
 split at he
 rotate_left
 ·cases he
 rename_i rs hrs
 split at he
 rotate_left
 ·cases he
 rename_i hlen
 simp only [sie] at he
 subst he
 simp only [ap]
 refine Yield.of_lift r 1 fun φ r E0 X0 hC=>?_
 obtain ⟨h1,h2⟩:=evPs_rep r hps
 obtain ⟨h3,_,_⟩:=cellsOf_rep hzs (rep_ofV (φ:=φ) (h:=h) (w:=w) (M:=MM φ h M0) z)
 have hl3:=repAs_length h3
 have hzl:z.cells.toList.length=i.size:=by omega
 have hinit:RepAs φ h w (MM φ h M0) (List.replicate len zs).flatten (((Array.range (len * i.size)).map (z.cells[· % z.cells.size]!)).toList):=by
  have e1:((Array.range (len * i.size)).map (z.cells[· % z.cells.size]!)).toList=(List.replicate len z.cells.toList).flatten:=by
   have:=range_rep z.cells.toList i.size hzl zo len
   simp only [Array.toArray_toList] at this
   rw [← this]
   simp [Array.toList_range]
  rw [e1]
  exact repAs_replicate h3 len
 obtain ⟨c',h4,h5⟩:=fill_ok (placeC:=fun k=>some (k * i.size,i.size)) (fun k x hx=>hx) ps _ _ _ rs h1 h2 hinit hrs
 obtain ⟨E,X⟩:=evol_new (w:=w) (w':=w.alloc (.cells c' e)) (o:=.cells c' e) (b:=d) (k:=.box e rs) (φ:=φ) (h:=h) (M0:=M0) rfl rfl rfl rfl hd r.hp hC
 have hnewb:RelB (updF φ d w.heap.size) (upd h d (.box e rs)) (w.alloc (.cells c' e)) (MM (updF φ d w.heap.size) (upd h d (.box e rs)) M0) w.heap.size (.box e rs) :=
  ⟨c',by show (w.heap.push _)[w.heap.size]?=_; simp,(repA_keep (E.keeps M0) X).2 _ _ h5⟩
 refine ⟨_, .slice (some ⟨w.heap.size,0,none⟩) len len,w.alloc (.cells c' e),updF φ d w.heap.size,?_, .inl rfl,?_,relH_new rfl hd r.hp hC E X hnewb,E,X⟩
 ·have hq:(parts.map fun (x:Nat × Operand)=>(x.1,a.eval x.2)).toList=parts.toList.map fun (x:Nat × Operand)=>(x.1,a.eval x.2):=by simp
  have hsz1:len * i.size=len:=by rw [hsz.2.1,Nat.mul_one]
  have hbig:¬ (len * i.size > 2 ^ 24):=by omega
  have h0:¬ len * i.size=0:=by omega
  simp only [execOp,ho,Instr.buildSlice,Sem.run_bind,run_underlying ht,run_sizeOf' hi,Result.andThen_ok,hbig,if_false,h0,hq,zeroValue,typeInfo,program,Sem.run,hi,hz,Sem.run_pure,h4]
  simp [newRow,newObj,Sem.run]
 ·simp only [RepA]
  exact ⟨by simp [updF],e,rs,by simp [upd]⟩
theorem isB_local {T':Nat→Option AV} {l:List (Nat × Operand)} (hh:∀ x ∈ l.map (·.2),evO T' x=evO T x):isB T' l=isB T l:=by
 cases l with
 | nil=>rfl
 | cons p l=>obtain ⟨i,x⟩:=p; simp only [isB,hh x zq]
end
def orE (a b:Option Res):Option Res:=match a with | some x=>some x | none=>b
theorem orE_last {a c c':Option Res} {u:Res} (he:orE a c=some u) (h:c=some u→c'=some u):orE a c'=some u:=by
 cases a with
 | none=>exact h he
 | some x=>exact he
def aop (P:Program) (o:Oper) (T:Nat→Option AV) (h:Heap):Option Res :=
 match o.op with
 | .move x=>aMove T x
 | .assign x=>aMove T x
 | .pick c x y=>aPick T c x y
 | .alloc ty=>match P.info? ty with
  | some i=>match i.zero with | some z=>aNew o h ty (ofV z) | none=>none
  | none=>none
 | .box ty x=>match evO T x with | some v=>aNew o h ty v | none=>none
 | .build t ps=>aBuild P T t ps
 | .buildSlice t n ps=>if n=0 then vLit P h o.dst t ps else if isB T ps.toList=true then bBuildSlice P T h o.dst t n ps else aBuildSlice P T h o.dst t n ps
 | .load ty x=>if isV (evO T x) then vLoad P T h ty x else aLoad P T h ty x
 | .store ty x y=>if isV (evO T x) then vStore P T h ty x y else aStore P T h ty x y
 | .makeSlice t x y=>vMake P T h o.dst t x y
 | .makeMap _ rsv=>aMakeMap h o.dst rsv
 | .lookup t x i ok=>orE (aLookup P T h t x i ok) (aMfLookup P T h t x i ok)
 | .mapUpdate t x i y=>orE (aMapUpdate P T h t x i y) (aMfUpdate P T h t x i y)
 | .nilCheck x=>if isV (evO T x) then vNil T h x else orE (aNilCheck T x) (aPure P T o)
 | .fieldAddr t x f=>if isV (evO T x) then vFieldAddr P T h t x f else aFieldAddr P T t x f
 | .field t x f=>aField P T t x f
 | .indexAddr t x i=>if isV (evO T x) then vIndexAddr P T h t x i else orE (aIndexAddr P T t x i) (orE (bIndexAddr P T t x i) (tIndexAddr P T h t x i))
 | .index t x i=>orE (aIndex P T t x i) (orE (aIndexS P T t x i) (aPure P T o))
 | .slice t x lo hi mx=>orE (aSlice P T t x lo hi mx) (orE (aPure P T o) (tSlice P T h t x lo hi mx))
 | .extract x i=>aExtract T x i
 | .makeFunc f a b=>aMakeFunc T f a b
 | .makeInterface t x=>aMakeInterface P T t x
 | .typeAssert x _ t ok=>aTypeAssert P T x t ok
 | .binOp op tx x y _=>orE (aBin T op x y) (orE (aEq P T op tx x y) (orE (aPure P T o) (aEqNil P T h op tx x y)))
 | .unOp op _ x=>orE (aUn T op x) (aPure P T o)
 | .convert src dst x=>orE (aConv P T dst src x) (aPure P T o)
 | .call ⟨.builtin .len,args,types⟩=>match args,types with | ⟨[x]⟩,⟨[t]⟩=>if isV (evO T x) then vLen P T h t x else orE (aLen P T t x) (orE (aLenS P T t x) (orE (aPure P T o) (orE (bLen P T t x) (tLen P T h t x)))) | _,_=>none
 | .call ⟨.builtin .append,args,types⟩=>match args,types with | ⟨[s,x]⟩,⟨[t,t']⟩=>if t=t' then (if isV (evO T s) then vAppend P T h o.dst t s x else aAppend P T h o.dst t s x) else none | _,_=>none
 | .call ⟨.builtin .delete,args,types⟩=>match args,types with | ⟨[x,i]⟩,⟨[t,k]⟩=>aMfDelete P T h t x i | _,_=>none
 | .call ⟨.builtin .max,_,_⟩=>aPure P T o
 | .call ⟨.builtin .min,_,_⟩=>aPure P T o
 | .call ⟨.builtin .clear,args,types⟩=>match args,types with | ⟨[x]⟩,⟨[t]⟩=>tClear P T h t x | _,_=>none
 | _=>none
section
variable {P:Program} {o:Oper} {φ:Nat→Nat} {M0:Mset} {N:Nat} {D:DB} {T:Nat→Option AV} {h:Heap} {a:Act} {w:World}
theorem still_of {u:Res} (hu:u.2.1=none∧Yield P o φ M0 h a w u.1 h):Yield P o φ M0 h a w u.1 (ap h u.2.1):=by rw [hu.1]; exact hu.2
theorem orE_some {x y:Option Res} {u:Res} (he:orE x y=some u):x=some u∨y=some u:=by
 unfold orE at he
 split at he
 ·exact .inl he
 ·exact .inr he
theorem aop_ok (r:Rel φ M0 N D T h a w) {u:Res} (he:aop P o T h=some u):Yield P o φ M0 h a w u.1 (ap h u.2.1):=by
 unfold aop at he
 split at he
 case h_1 x ho =>
  unfold aMove at he
  split at he
  ·rename_i v hv; simp only [sie] at he; subst he; exact move_ok r (.inl ho) hv
  ·cases he
 case h_2 x ho =>
  unfold aMove at he
  split at he
  ·rename_i v hv; simp only [sie] at he; subst he; exact move_ok r (.inr ho) hv
  ·cases he
 case h_3 c x y ho=>have:=pick_ok (P:=P) r ho he; exact still_of ⟨this.1,this.2.2⟩
 case h_4 ty ho =>
  split at he
  ·rename_i i hi
   split at he
   ·rename_i z hz; exact alloc_ok r ho hi hz he
   ·cases he
  ·cases he
 case h_5 ty x ho =>
  split at he
  ·rename_i v hv; exact box_ok r ho hv he
  ·cases he
 case h_6 t ps ho=>exact still_of (build_ok r ho he)
 case h_7 t n ps ho =>
  split at he
  ·rename_i hn; subst hn; exact vLit_ok r ho he
  ·split at he
   ·exact bBuildSlice_ok r ho he
   ·exact buildSlice_ok r ho he
 case h_8 ty x ho=>split at he; exact still_of (vLoad_ok r ho he); exact still_of (load_ok r ho he)
 case h_9 ty x y ho=>split at he; exact vStore_ok r ho he; exact store_ok r ho he
 case h_10 t x y ho=>exact vMake_ok r ho he
 case h_11 t rsv ho=>exact makeMap_ok r ho he
 case h_12 t x i ok ho=>exact (orE_some he).elim (fun he=>still_of (lookup_ok r ho he)) (fun he=>still_of (mfLookup_ok r ho he))
 case h_13 t x i y ho=>exact (orE_some he).elim (fun he=>mapUpdate_ok r ho he) (fun he=>mfUpdate_ok r ho he)
 case h_14 x ho=>split at he; exact still_of (vNil_ok r ho he); exact (orE_some he).elim (fun he=>still_of (nilCheck_ok r ho he)) (fun he=>still_of (pure_ok r he))
 case h_15 t x f ho=>split at he; exact still_of (vFieldAddr_ok r ho he); exact still_of (fieldAddr_ok r ho he)
 case h_16 t x f ho=>exact still_of (field_ok r ho he)
 case h_17 t x i ho=>split at he; exact still_of (vIndexAddr_ok r ho he); exact (orE_some he).elim (fun he=>still_of (indexAddr_ok r ho he)) (fun he=>(orE_some he).elim (fun he=>still_of (bIndexAddr_ok r ho he)) (fun he=>still_of (tIndexAddr_ok r ho he)))
 case h_18 t x i ho=>exact (orE_some he).elim (fun he=>still_of (index_ok r ho he)) (fun he=>(orE_some he).elim (fun he=>still_of (indexS_ok r ho he)) (fun he=>still_of (pure_ok r he)))
 case h_19 t x lo hi mx ho=>exact (orE_some he).elim (fun he=>still_of (slice_ok r ho he)) (fun he=>(orE_some he).elim (fun he=>still_of (pure_ok r he)) (fun he=>still_of (tSlice_ok r ho he)))
 case h_20 x i ho=>exact still_of (extract_ok r ho he)
 case h_21 f l m ho=>exact still_of (makeFunc_ok r ho he)
 case h_22 t x ho=>exact still_of (makeInterface_ok r ho he)
 case h_23 x xt t ok ho=>exact still_of (typeAssert_ok r ho he)
 case h_24 op tx x y ty ho=>exact (orE_some he).elim (fun he=>still_of (bin_ok r ho he)) (fun he=>(orE_some he).elim (fun he=>still_of (eq_ok r ho he)) (fun he=>(orE_some he).elim (fun he=>still_of (pure_ok r he)) (fun he=>still_of (eqNil_ok r ho he))))
 case h_25 op tx x ho=>exact (orE_some he).elim (fun he=>still_of (un_ok r ho he)) (fun he=>still_of (pure_ok r he))
 case h_26 src dst x ho=>exact (orE_some he).elim (fun he=>still_of (conv_ok r ho he)) (fun he=>still_of (pure_ok r he))
 case h_27 args types ho =>
  split at he
  ·rename_i x t; split at he; exact still_of (vLen_ok r ho he); exact (orE_some he).elim (fun he=>still_of (len_ok r ho he)) (fun he=>(orE_some he).elim (fun he=>still_of (lenS_ok r ho he)) (fun he=>(orE_some he).elim (fun he=>still_of (pure_ok r he)) (fun he=>(orE_some he).elim (fun he=>still_of (bLen_ok r ho he)) (fun he=>still_of (tLen_ok r ho he)))))
  ·cases he
 case h_28 args types ho =>
  split at he
  ·rename_i s x t t'
   split at he
   ·rename_i ht; subst ht; split at he; exact vAppend_ok r ho he; exact append_ok r ho he
   ·cases he
  ·cases he
 case h_29 args types ho =>
  split at he
  ·exact mfDelete_ok r ho he
  ·cases he
 case h_30=>exact still_of (pure_ok r he)
 case h_31=>exact still_of (pure_ok r he)
 case h_32 args types ho =>
  split at he
  ·exact tClear_ok r ho he
  ·cases he
 case h_33=>cases he
end
inductive AEnd where
 | ret (x:AV)
 | panic (x:AV)
def RepE (φ:Nat→Nat) (h:Heap) (w:World) (M:Mset):AEnd→Ending→Prop
 | .ret x,e=>∃ v,e=.returned v∧RepA φ h w M x v
 | .panic x,e=>∃ v,e=.panicked [{ v:=v,recovered:=false }]∧RepA φ h w M x v
def ACall (P:Program) (f:FuncId) (args:List AV) (h:Heap) (R:AEnd→Heap→Prop):Prop :=
 ∀ φ M0 w vs,RelH φ h w M0→RepAs φ h w (MM φ h M0) args vs→Calls P f vs.toArray w fun e w' =>
  ∃ φ' r h',R r h'∧RelH φ' h' w' M0∧Evol φ h w φ' h' w'∧RepE φ' h' w' (MM φ' h' M0) r e
def emp:Heap:=fun _=>none
def PCall (P:Program) (f:FuncId) (args:List AV) (x:AEnd):Prop:=ACall P f args emp fun r h'=>r=x∧h'=emp
mutual
def noRef:AV→Bool
 | .p _=>true
 | .eptr _=>true
 | .tsl _ _ _=>false
 | .ptr _ _=>false
 | .vnil=>true
 | .vsl _ _ _=>false
 | .vptr _ _ _ _=>false
 | .vtl _ _ _ _ _=>false
 | .yv _=>false
 | .mv _=>false
 | .bsl _ _=>false
 | .sfp _=>false
 | .iv _=>false
 | .agg cs=>noRefs cs
 | .tup cs=>noRefs cs
 | .fn _ a b=>noRefs a&&noRefs b
 | .ifc _ x=>noRef x
def noRefs:List AV→Bool
 | []=>true
 | x :: xs=>noRef x&&noRefs xs
end
theorem repA_pure {φ φ':Nat→Nat} {h h':Heap} {w w':World} {M M':Mset}
  (hk:∀ r o v,w.cell? ⟨r,o,none⟩=some v→¬ M r o→w'.cell? ⟨r,o,none⟩=some v∧¬ M' r o∧(Unm w r→Unm w' r)) :
  (∀ (x:AV) (v:Value),noRef x=true→RepA φ h w M x v→RepA φ' h' w' M' x v)∧(∀ (xs:List AV) (l:List Value),noRefs xs=true→RepAs φ h w M xs l→RepAs φ' h' w' M' xs l):=by
 obtain ⟨kp,ke,kc⟩:=repP_keep hk
 have key:∀ n:Nat,(∀ (x:AV),SizeOf.sizeOf x≤n→∀ v,noRef x=true→RepA φ h w M x v→RepA φ' h' w' M' x v)∧(∀ (xs:List AV),SizeOf.sizeOf xs≤n→∀ l,noRefs xs=true→RepAs φ h w M xs l→RepAs φ' h' w' M' xs l):=by
  intro n
  induction n with
  | zero =>
   refine ⟨fun x hx=>?_,fun es hx=>?_⟩
   ·cases x <;> simp at hx
   ·cases es <;> simp at hx
  | succ n ih =>
   obtain ⟨i1,i2⟩:=ih
   refine ⟨fun x hx v hn hv=>?_,fun xs hx l hn hv=>?_⟩
   ·cases x with
    | p x=>simp only [RepA] at hv ⊢; exact kp x v hv
    | tsl S es t=>simp [noRef] at hn
    | ptr b off=>simp [noRef] at hn
    | vnil=>simp only [RepA] at hv ⊢; exact hv
    | vsl S t n=>simp [noRef] at hn
    | vptr t n k f=>simp [noRef] at hn
    | vtl S t n k m=>simp [noRef] at hn
    | yv b=>simp [noRef] at hn
    | mv b=>simp [noRef] at hn
    | iv b=>simp [noRef] at hn
    | bsl b n=>simp [noRef] at hn
    | sfp b=>simp [noRef] at hn
    | eptr cs =>
     simp only [RepA] at hv ⊢
     obtain ⟨r,o,h1,h2⟩:=hv
     exact ⟨r,o,h1,kc cs r o h2⟩
    | agg cs =>
     simp only [RepA,noRef] at hv hn ⊢
     obtain ⟨l,h1,h2⟩:=hv
     exact ⟨l,h1,i2 cs (by simp at hx; omega) l hn h2⟩
    | tup cs =>
     simp only [RepA,noRef] at hv hn ⊢
     obtain ⟨l,h1,h2⟩:=hv
     exact ⟨l,h1,i2 cs (by simp at hx; omega) l hn h2⟩
    | fn f a b =>
     simp only [RepA,noRef,bae] at hv hn ⊢
     obtain ⟨l,m,h1,h2,h3⟩:=hv
     simp at hx
     exact ⟨l,m,h1,i2 a zo l hn.1 h2,i2 b zo m hn.2 h3⟩
    | ifc t x =>
     simp only [RepA,noRef] at hv hn ⊢
     obtain ⟨y,h1,h2⟩:=hv
     exact ⟨y,h1,i1 x (by simp at hx; omega) y hn h2⟩
   ·cases xs with
    | nil=>simpa [RepAs] using hv
    | cons x xs =>
     simp only [RepAs,noRefs,bae] at hv hn ⊢
     simp at hx
     obtain ⟨y,ys,h1,h2,h3⟩:=hv
     exact ⟨y,ys,h1,i1 x zo y hn.1 h2,i2 xs zo ys hn.2 h3⟩
 exact ⟨fun x v=>(key (SizeOf.sizeOf x)).1 x (zNR _) v,fun xs l=>(key (SizeOf.sizeOf xs)).2 xs (zNR _) l⟩
mutual
def le:AV→AV→Prop
 | .tsl S es t,y=>y=.tsl S es t∨y=.p (.sl S es)
 | .p (.val v),y=>y=.p (.val v)∨(v=.slice none 0 0∧((∃ S,y=.p (.sl S []))∨y=.vnil))
 | .agg xs,y=>∃ ys,y=.agg ys∧les xs ys
 | .tup xs,y=>∃ ys,y=.tup ys∧les xs ys
 | .vnil,y=>y=.vnil∨∃ S,y=.p (.sl S [])
 | .vsl S t n,y=>y=.vsl S t n∨y=.vtl S t n 0 n
 | x,y=>y=x
def les:List AV→List AV→Prop
 | [],ys=>ys=[]
 | x :: xs,ys=>∃ z zs,ys=z :: zs∧le x z∧les xs zs
end
theorem le_rep {φ:Nat→Nat} {h:Heap} {w:World} {M:Mset} :
  (∀ (x y:AV) (v:Value),le x y→RepA φ h w M x v→RepA φ h w M y v)∧(∀ (xs ys:List AV) (l:List Value),les xs ys→RepAs φ h w M xs l→RepAs φ h w M ys l):=by
 have key:∀ n:Nat,(∀ (x:AV),SizeOf.sizeOf x≤n→∀ y v,le x y→RepA φ h w M x v→RepA φ h w M y v)∧(∀ (xs:List AV),SizeOf.sizeOf xs≤n→∀ ys l,les xs ys→RepAs φ h w M xs l→RepAs φ h w M ys l):=by
  intro n
  induction n with
  | zero =>
   refine ⟨fun x hx=>?_,fun es hx=>?_⟩
   ·cases x <;> simp at hx
   ·cases es <;> simp at hx
  | succ n ih =>
   obtain ⟨i1,i2⟩:=ih
   refine ⟨fun x hx y v hl hv=>?_,fun xs hx ys l hl hv=>?_⟩
   ·cases x with
    | p x=>cases x with
     | val u =>
      simp only [le] at hl
      rcases hl with rfl | ⟨rfl,⟨S,rfl⟩ | rfl⟩
      ·exact hv
      ·simp only [RepA,RepP] at hv ⊢; exact .inr ⟨trivial,none,0,hv⟩
      ·simp only [RepA,RepP] at hv ⊢; exact hv
     | sl S es=>simp only [le] at hl; subst hl; exact hv
     | ad S es=>simp only [le] at hl; subst hl; exact hv
     | slu S es=>simp only [le] at hl; subst hl; exact hv
    | tsl S es t =>
     simp only [le] at hl
     rcases hl with rfl | rfl
     ·exact hv
     ·simp only [RepA] at hv ⊢; exact hv.1
    | ptr b off=>simp only [le] at hl; subst hl; exact hv
    | eptr cs=>simp only [le] at hl; subst hl; exact hv
    | vnil =>
     simp only [le] at hl
     rcases hl with rfl | ⟨S,rfl⟩
     ·exact hv
     ·simp only [RepA,RepP] at hv ⊢; exact .inr ⟨trivial,none,0,hv⟩
    | vsl S t n =>
     simp only [le] at hl
     rcases hl with rfl | rfl
     ·exact hv
     ·simp only [RepA] at hv ⊢
      obtain ⟨h1,ty,es,h2,h3,h4⟩:=hv
      refine ⟨h1,ty,es,h2,h3,fun hn=>⟨by omega,?_⟩⟩
      obtain ⟨cap,c,h5,h6,h7,h8,h9⟩:=h4 hn
      exact ⟨cap,c,by rw [h5]; simp,h6,h7,h8,h9⟩
    | vptr t n k f=>simp only [le] at hl; subst hl; exact hv
    | vtl S t n k m=>simp only [le] at hl; subst hl; exact hv
    | yv b=>simp only [le] at hl; subst hl; exact hv
    | mv b=>simp only [le] at hl; subst hl; exact hv
    | iv b=>simp only [le] at hl; subst hl; exact hv
    | bsl b n=>simp only [le] at hl; subst hl; exact hv
    | sfp b=>simp only [le] at hl; subst hl; exact hv
    | agg cs =>
     simp only [le] at hl
     obtain ⟨ys,rfl,h2⟩:=hl
     simp only [RepA] at hv ⊢
     obtain ⟨l,h1,h3⟩:=hv
     exact ⟨l,h1,i2 cs (by simp at hx; omega) ys l h2 h3⟩
    | tup cs =>
     simp only [le] at hl
     obtain ⟨ys,rfl,h2⟩:=hl
     simp only [RepA] at hv ⊢
     obtain ⟨l,h1,h3⟩:=hv
     exact ⟨l,h1,i2 cs (by simp at hx; omega) ys l h2 h3⟩
    | fn f a b=>simp only [le] at hl; subst hl; exact hv
    | ifc t x=>simp only [le] at hl; subst hl; exact hv
   ·cases xs with
    | nil=>simp only [les] at hl; subst hl; exact hv
    | cons x xs =>
     simp only [les] at hl
     obtain ⟨z,zs,rfl,h1,h2⟩:=hl
     simp only [RepAs] at hv ⊢
     simp at hx
     obtain ⟨y,ys,h3,h4,h5⟩:=hv
     exact ⟨y,ys,h3,i1 x zo z y h1 h4,i2 xs zo zs ys h2 h5⟩
 exact ⟨fun x y v=>(key (SizeOf.sizeOf x)).1 x (zNR _) y v,fun xs ys l=>(key (SizeOf.sizeOf xs)).2 xs (zNR _) ys l⟩
def CallEx (P:Program) (N:Nat) (f:FuncId) (args:List AV) (dst:Option Tmp) (s:St) (K:St→Prop) (Q:AX→St→Prop):Prop :=
 ∀ φ M0 D a w vs,Rel φ M0 N D (look s.T) (look s.H) a w→RepAs φ (look s.H) w (MM φ (look s.H) M0) args vs→Calls P f vs.toArray w fun e w' =>
  match e with
  | .returned v=>∃ φ' s',K s'∧Rel φ' M0 N D (look s'.T) (look s'.H) (a.put dst v) w'∧Evol φ (look s.H) w φ' (look s'.H) w'
  | .panicked chain=>Post N D Q φ M0 (look s.H) w (.panic chain) a w'
  | .outgrown=>False
theorem evol_grow {φ:Nat→Nat} {h:Heap} {w w':World} {M0:Mset} (ho:w'.os=w.os) (ht:w'.tape=w.tape) (hu:w'.output=w.output) (hs:w.heap.size≤w'.heap.size)
  (hold:∀ x,x < w.heap.size→w'.heap[x]?=w.heap[x]?) (r:RelH φ h w M0) (hC:Clear φ h w (w'.heap.size - w.heap.size)):Evol φ h w φ h w'∧HExt φ h w φ h w'∧RelH φ h w' M0:=by
 have hh:∀ b k,h b=some k→w'.heap[φ b]?=w.heap[φ b]?:=fun b k hb=>hC.lt r zo hold (by rw [hb]; simp)
 have E:Evol φ h w φ h w':=⟨ho,ht,hu,hs,fun x hx hm=>hm.eq (hold x hx),fun x hx _=>hold x hx,fun x o hx _=>by simp [World.cell?,hold x hx],fun _ _ _ x=>x,fun _ _ _ _ x=>⟨⟨_,x⟩,rfl⟩,
  fun t ty S n _ x=>⟨_,x,zNR _,fun _=>akept (rfl) (by rw [hh _ _ x])⟩,
  fun t ty S n _ x=>⟨_,x,zNR _,fun _=>⟨rfl,fun c hc=>⟨c,by rw [hh _ _ x]; exact hc,rfl⟩⟩⟩,fun _ _ _ _ h1 h2=>⟨⟨_,h1,h2⟩,rfl⟩⟩
 have X:HExt φ h w φ h w':=⟨fun _ _ _ x=>⟨⟨_,_,x⟩,rfl⟩,fun t ty S n x=>⟨_,x,zNR _,fun _=>akept (rfl) (by rw [hh _ _ x])⟩,
  fun t ty S n x=>⟨_,x,zNR _,fun _=>⟨rfl,fun c hc=>⟨c,by rw [hh _ _ x]; exact hc,rfl⟩⟩⟩,fun _ _ _ h1 h2=>⟨⟨_,h1,h2⟩,rfl⟩⟩
 exact ⟨E,X,r.inj,fun b k hb=>relB_keep (E.keeps M0) X (hh b k hb) (r.blk b k hb),r.fr,fun x o hx=>Nat.lt_of_lt_of_le (r.lt x o hx) hs,r.gm.evol E⟩
def MB (φ:Nat→Nat) (h:Heap) (w:World) (M0:Mset):Mset:=fun x o=>MM φ h M0 x o∧x < w.heap.size
theorem mb_lt {φ:Nat→Nat} {h:Heap} {w:World} {M0:Mset} {x o:Nat} (hm:MB φ h w M0 x o):x < w.heap.size:=hm.2
theorem mb_back {φ:Nat→Nat} {h:Heap} {w w':World} {M0:Mset} (hr:RelH φ h w M0) (hs:w.heap.size≤w'.heap.size) {r o:Nat} {v:Value} (h1:w'.cell? ⟨r,o,none⟩=some v) (h2:¬ MB φ h w M0 r o) :
  ¬ MM (liftF φ w.heap.size (w'.heap.size - w.heap.size)) h M0 r o:=by
 have hlt:=cell_lt h1
 rintro (⟨b,k,g1,g2,g3⟩ | g1)
 ·unfold liftF at g2
  by_cases e:φ b < w.heap.size
  ·simp only [e,if_true] at g2
   exact h2 ⟨.inl ⟨b,k,g1,g2,g3⟩,by omega⟩
  ·simp only [e,if_false] at g2
   omega
 ·exact h2 ⟨.inr g1,hr.lt _ _ g1⟩
theorem relH_emp {φ:Nat→Nat} {w:World} {M:Mset} (hl:∀ x o,M x o→x < w.heap.size) (hg:gmW w) (hm:∀ g ∈ gfix,∀ o,¬ M g o):RelH φ emp w M :=
 ⟨fun b c hb=>absurd rfl hb,(fun b k hb=>by cases hb),fun b hb=>absurd rfl hb,hl,hg,fun g hg o h=>h.elim (fun ⟨b,k,h1,_⟩=>by cases h1) (hm g hg o)⟩
theorem GM.mb {φ:Nat→Nat} {h:Heap} {w:World} {M0:Mset} (G:GM φ h w M0):∀ g ∈ gfix,∀ o,¬ MB φ h w M0 g o:=fun g hg o hm=>G.m g hg o hm.1
theorem not_mut_emp {φ:Nat→Nat} {x o:Nat}:¬ Mut φ emp x o:=by rintro ⟨b,k,h1,_⟩; cases h1
theorem call_pure {P:Program} {N:Nat} {f:FuncId} {args args':List AV} {dst:Option Tmp} {s:St} {K:St→Prop} {Q:AX→St→Prop} {x:AV}
  (hc:PCall P f args' (.ret x)) (hle:les args args') (hn:noRefs args'=true) (hx:noRef x=true) (hd:∀ t,dst=some t→t < N) (hk:K (s.put dst x)):CallEx P N f args dst s K Q:=by
 intro φ M0 D a w vs r ha
 have hH:RelH φ emp w (MB φ (look s.H) w M0):=relH_emp (fun x o hm=>mb_lt hm) r.hp.gm.w r.hp.gm.mb
 have hM:∀ r o v,w.cell? ⟨r,o,none⟩=some v→¬ MM φ (look s.H) M0 r o→w.cell? ⟨r,o,none⟩=some v∧¬ MM φ emp (MB φ (look s.H) w M0) r o∧(Unm w r→Unm w r):=fun r o v h1 h2=>⟨h1,fun h3=>h3.elim not_mut_emp (fun h4=>h2 h4.1),id⟩
 refine (hc φ (MB φ (look s.H) w M0) w vs hH ((repA_pure hM).2 _ _ hn (le_rep.2 _ _ _ hle ha))).mono ?_
 rintro e w' ⟨φ',r',h',⟨rfl,rfl⟩,hH',E,v,rfl,hv⟩
 have hM':∀ ro o v,w'.cell? ⟨ro,o,none⟩=some v→¬ MM φ' emp (MB φ (look s.H) w M0) ro o→w'.cell? ⟨ro,o,none⟩=some v∧¬ MM (liftF φ w.heap.size (w'.heap.size - w.heap.size)) (look s.H) M0 ro o∧(Unm w' ro→Unm w' ro):=fun ro o v h1 h2=>⟨h1,mb_back r.hp E.size h1 (fun h3=>h2 (.inr h3)),id⟩
 obtain ⟨r,E1,X1,hC⟩:=r.lift (w'.heap.size - w.heap.size)
 obtain ⟨E2,X2,H2⟩:=evol_grow E.os E.tape E.output E.size (fun x hx=>E.same x hx (fun b hb=>absurd rfl hb)) r.hp hC
 have r2:Rel _ M0 N D (look s.T) (look s.H) a w':=r.keep E2 X2 H2
 exact ⟨_,s.put dst x,hk,r2.put hd ((repA_pure hM').1 _ _ hx hv),by cases dst <;> exact E1.trans E2⟩
def wantA (ops:Array Oper) (o:Oper) (T:Nat→Option AV):Option Bool :=
 match o.guard with
 | none=>some true
 | some (j,want) =>
  match ops[j]? with
  | some oj=>match oj.dst with
   | some d=>match T d with
    | some (.p (.val (.bool b)))=>some (b == want)
    | some (.p (.val (.tuple _)))=>some false
    | _=>none
   | none=>some false
  | none=>some false
theorem wantA_ok {ops:Array Oper} {o:Oper} {φ:Nat→Nat} {M0:Mset} {N:Nat} {D:DB} {T:Nat→Option AV} {h:Heap} {a:Act} {w:World} (r:Rel φ M0 N D T h a w) {t:Bool} (he:wantA ops o T=some t) :
  Region.wanted o (yielded ops a.tmps)=t:=by
 unfold wantA at he
 unfold Region.wanted
 split at he
 ·simp only [sie] at he; subst he; simp [*]
 ·rename_i j want hg
  simp only [hg]
  split at he
  ·rename_i oj hj
   split at he
   ·rename_i d hd
    split at he
    ·rename_i b hb
     simp only [sie] at he
     subst he
     obtain ⟨h1,h2⟩:=r.tm d _ hb
     simp only [RepA,RepP] at h2
     have hlt:d < a.tmps.size:=by rw [r.siz]; exact h1
     have h3:a.tmps[d]?=some (.bool b):=by
      rw [Array.getElem?_eq_getElem hlt]
      rw [Array.getD_eq_getD_getElem?,Array.getElem?_eq_getElem hlt] at h2
      simpa using h2
     simp [yielded,hj,hd,h3]
    ·rename_i vs hb
     simp only [sie] at he
     subst he
     obtain ⟨h1,h2⟩:=r.tm d _ hb
     simp only [RepA,RepP] at h2
     have hlt:d < a.tmps.size:=by rw [r.siz]; exact h1
     have h3:a.tmps[d]?=some (.tuple vs):=by
      rw [Array.getElem?_eq_getElem hlt]
      rw [Array.getD_eq_getD_getElem?,Array.getElem?_eq_getElem hlt] at h2
      simpa using h2
     simp [yielded,hj,hd,h3]
    ·cases he
   ·rename_i hd
    simp only [sie] at he
    subst he
    simp [yielded,hj,hd]
  ·rename_i hj
   simp only [sie] at he
   subst he
   simp [yielded,hj]
def gMark (ops:Array Oper) (o:Oper) (T:List (Nat × AV)) (t:Bool):List (Nat × AV) :=
 match o.guard with
 | none=>T
 | some (j,want) =>
  match ops[j]? with
  | some oj=>match oj.dst with
   | some d=>match look T d with
    | some (.p (.val (.bool _)))=>(d, .p (.val (.bool (if t then want else !want)))) :: T
    | _=>T
   | none=>T
  | none=>T
theorem gMark_look {ops:Array Oper} {o:Oper} {T:List (Nat × AV)} {t:Bool} (he:wantA ops o (look T)=some t):look (gMark ops o T t)=look T:=by
 unfold wantA at he
 unfold gMark
 cases hg:o.guard with
 | none=>rfl
 | some p =>
  obtain ⟨j,want⟩:=p
  simp only [hg] at he
  cases hj:ops[j]? with
  | none=>simp only [hj]
  | some oj =>
   simp only [hj] at he ⊢
   cases hd:oj.dst with
   | none=>simp only
   | some d =>
    simp only [hd] at he ⊢
    split at he
    ·rename_i b hb
     simp only [sie] at he
     subst he
     simp only [hb]
     funext x
     simp only [look]
     by_cases e:d=x
     ·subst e
      simp only [if_true,hb]
      cases b <;> cases want <;> rfl
     ·simp [e]
    ·rename_i vs hb
     simp only [hb]
    ·cases he
def callOf (T:Nat→Option AV):Op→Option (FuncId × List AV)
 | .call ⟨.value (.func f),args,_⟩=>match evOs T args.toList with | some vs=>some (f,vs) | none=>none
 | .call ⟨.value (.tmp t),args,_⟩ =>
  match T t,evOs T args.toList with
  | some (.fn (.func f) l m),some vs=>some (f,l++vs++m)
  | some (.p (.val (.func (.func f) l m))),some vs=>some (f,(l.toList.map fun c=>.p (.val c))++vs++(m.toList.map fun c=>.p (.val c)))
  | _,_=>none
 | _=>none
def SplitB (b:Bool) (A B:Prop):Prop:=(b=true→A)∧(b=false→B)
theorem splitB_true (A B:Prop):SplitB true A B=A:=by simp [SplitB]
theorem splitB_false (A B:Prop):SplitB false A B=B:=by simp [SplitB]
theorem splitB_elim {b:Bool} {A B C:Prop} (h:SplitB b A B) (h1:b=true→A→C) (h2:b=false→B→C):C:=by
 cases b
 ·exact h2 rfl (h.2 rfl)
 ·exact h1 rfl (h.1 rfl)
def put' (s:St) (dst:Option Tmp) (u:Res):St:=⟨match dst with | some d=>(d,u.1) :: s.T | none=>s.T,match u.2.1 with | some bk=>bk :: s.H | none=>s.H⟩
def dstLt (N:Nat):Option Tmp→Bool
 | none=>true
 | some d=>decide (d < N)
def ExRes (N:Nat) (o:Oper) (s:St) (K:St→Prop):Option Res→Prop
 | some u=>dstLt N o.dst=true∧K (put' s o.dst u)
 | none=>False
def bodyOk (P:Program) (f:FuncId):Bool:=(P.funcs[f]?).any (fun fn=>fn.body.isSome&&fn.name != "runtime.NumGoroutine")
def SemOp (P:Program) (N:Nat) (o:Oper) (s:St) (K:St→Prop):Prop :=
 (∀ c,o.op ≠ .defer c)∧dstLt N o.dst=true∧∀ φ M0 D a w,Rel φ M0 N D (look s.T) (look s.H) a w→∃ x s',look s'.T=look s.T∧K (St.put s' o.dst x)∧Yield P o φ M0 (look s.H) a w x (look s'.H)
def ExOp (P:Program) (N:Nat) (o:Oper) (s:St) (K:St→Prop) (Q:AX→St→Prop):Prop :=
 match o.op with
 | .pick c x y=>match evO (look s.T) c with
  | some (.p (.val (.bool b)))=>SplitB b (ExRes N o s K (aMove (look s.T) x)) (ExRes N o s K (aMove (look s.T) y))
  | _=>False
 | .panic x=>match evO (look s.T) x with | some (.ifc t v)=>Q (.panic (.ifc t v)) s | _=>False
 | .call ⟨.value f,args,ts⟩=>match callOf (look s.T) (.call ⟨.value f,args,ts⟩) with
  | some (f,args)=>bodyOk P f=true∧CallEx P N f args o.dst s K Q
  | none=>False
 | _=>ExRes N o s K (aop P o (look s.T) (look s.H))∨SemOp P N o s K
def YAt (P:Program) (l:Nat) (args:Array Value) (w:World) (R:Ending→World→Prop):Prop:=YieldAt Fence.wide 0 P l args w R
def YEx (P:Program) (N:Nat) (b:Nat) (args:List AV) (dst:Option Tmp) (s:St) (K:St→Prop) (Q:AX→St→Prop):Prop :=
 ∀ φ M0 D a w vs,Rel φ M0 N D (look s.T) (look s.H) a w→RepAs φ (look s.H) w (MM φ (look s.H) M0) args vs→YAt P (φ b) vs.toArray w fun e w' =>
  match e with
  | .returned v=>∃ φ' s',K s'∧Rel φ' M0 N D (look s'.T) (look s'.H) (a.put dst v) w'∧Evol φ (look s.H) w φ' (look s'.H) w'
  | .panicked chain=>Post N D Q φ M0 (look s.H) w (.panic chain) a w'
  | .outgrown=>False
def yieldOf (T:Nat→Option AV):Op→Option (Nat × List AV)
 | .call ⟨.value (.tmp t),args,_⟩ =>
  match T t with
  | some (.yv b)=>match evOs T args.toList with | some vs=>some (b,vs) | none=>none
  | _=>none
 | _=>none
def YOp (P:Program) (N:Nat) (o:Oper) (s:St) (K:St→Prop) (Q:AX→St→Prop):Option (Nat × List AV)→Prop
 | some (b,args)=>YEx P N b args o.dst s K Q
 | none=>ExOp P N o s K Q
def ExOps (P:Program) (N:Nat) (ops:Array Oper) (Q:AX→St→Prop):List Oper→St→Prop
 | [],s=>Q .normal s
 | o :: rest,s =>
  match wantA ops o (look s.T) with
  | some b=>SplitB b (YOp P N o ⟨gMark ops o s.T true,s.H⟩ (ExOps P N ops Q rest) Q (yieldOf (look (gMark ops o s.T true)) o.op)) (dstLt N o.dst=true∧ExOps P N ops Q rest (St.put ⟨gMark ops o s.T false,s.H⟩ o.dst (.p (.val undef))))
  | none=>False
theorem dstLt_spec {N:Nat} {d:Option Tmp} (hd:dstLt N d=true):∀ t,d=some t→t < N:=by
 rintro t rfl
 simpa [dstLt] using hd
theorem run_callFunc {P:Program} {f:FuncId} {args:Array Value} {w:World} (hf:(P.funcs[f]?).any (fun fn=>fn.body.isSome&&fn.name != "runtime.NumGoroutine")=true):(callFunc f args).run P w=.ok (.enter f args) w:=by
 cases hq:P.funcs[f]? with
 | none=>simp [hq] at hf
 | some fn =>
  simp only [hq,Option.any_some,bae,bne_iff_ne] at hf
  have h1:¬ fn.body=none:=by intro hb; simp [hb] at hf
  simp [callFunc,program,Sem.run,hq,h1,hf.2]
theorem Oper.wp_mono2 {P:Program} {o:Oper} {a:Act} {w:World} {K K':Act→World→Prop} {Q Q':Exit→Act→World→Prop} (hh:o.wp P a w K Q) (h:∀ a w,K a w→K' a w)
  (hq:∀ e a w,Q e a w→Q' e a w):o.wp P a w K' Q':=by
 unfold Oper.wp at *
 generalize (execOp a.eval o).run P w=r at *
 cases r with
 | ok n w' =>
  cases n <;> simp only [Oper.upon] at hh ⊢ <;>
   first
    | exact h _ _ hh
    | exact Calls.mono hh (fun e w'' he=>by cases e <;> first | exact h _ _ he | exact hq _ _ _ he | exact ⟨_,_,hq _ _ _ he.choose_spec.choose_spec⟩)
    | exact Rows.mono hh (fun _ _ he=>h _ _ he)
 | halt x w'=>cases x <;> simp only [Oper.upon] at hh ⊢ <;> exact hq _ _ _ hh
theorem call_enter {P:Program} {o:Oper} {φ:Nat→Nat} {M0:Mset} {N:Nat} {D:DB} {T:Nat→Option AV} {h:Heap} {a:Act} {w:World} (r:Rel φ M0 N D T h a w) {f:FuncId} {args:List AV} (hf:callOf T o.op=some (f,args))
  (hb:bodyOk P f=true):∃ vs:List Value,RepAs φ h w (MM φ h M0) args vs∧(execOp a.eval o).run P w=.ok (.enter f vs.toArray) w:=by
 unfold callOf at hf
 split at hf
 ·rename_i f0 aas ts ho
  split at hf
  ·rename_i vs hvs
   simp only [sie,zPJ] at hf
   obtain ⟨rfl,rfl⟩:=hf
   refine ⟨aas.toList.map a.eval,evOs_rep r hvs,?_⟩
   have e1:aas.map a.eval=(aas.toList.map a.eval).toArray:=by apply Array.ext'; simp
   simp only [execOp,ho,resolve,Act.eval,Deferred.ofValue,Sem.run_bind,Sem.run_pure,Result.andThen_ok,invoke]
   rw [run_callFunc hb]
   congr 2
   rw [← e1]
   simp
  ·cases hf
 ·rename_i t aas ts ho
  split at hf
  ·rename_i f0 l m vs ht hvs
   simp only [sie,zPJ] at hf
   obtain ⟨rfl,rfl⟩:=hf
   have h2:=(r.tm t _ ht).2
   simp only [RepA] at h2
   obtain ⟨l',m',h3,h4,h5⟩:=h2
   refine ⟨l'++aas.toList.map a.eval++m',repAs_append (repAs_append h4 (evOs_rep r hvs)) h5,?_⟩
   have h3':a.eval (.tmp t)=.func (.func f0) l'.toArray m'.toArray:=h3
   simp only [execOp,ho,resolve,h3',Deferred.ofValue,Sem.run_bind,Sem.run_pure,Result.andThen_ok,invoke]
   rw [run_callFunc hb]
   congr 2
   apply Array.ext'
   simp
  ·rename_i f0 l m vs ht hvs
   simp only [sie,zPJ] at hf
   obtain ⟨rfl,rfl⟩:=hf
   have h2:=(r.tm t _ ht).2
   simp only [RepA,RepP] at h2
   refine ⟨l.toList++aas.toList.map a.eval++m.toList,repAs_append (repAs_append (repAs_vals _) (evOs_rep r hvs)) (repAs_vals _),?_⟩
   have h3':a.eval (.tmp t)=.func (.func f0) l m:=h2
   simp only [execOp,ho,resolve,h3',Deferred.ofValue,Sem.run_bind,Sem.run_pure,Result.andThen_ok,invoke]
   rw [run_callFunc hb]
   congr 2
   apply Array.ext'
   simp
  ·cases hf
 ·cases hf
theorem exRes_ok {P:Program} {N:Nat} {D:DB} {o:Oper} {s:St} {K:St→Prop} {Q:AX→St→Prop} {φ:Nat→Nat} {M0:Mset} {a:Act} {w:World} {u:Res} (hd:dstLt N o.dst=true) (hk:K (put' s o.dst u))
  (hy:Yield P o φ M0 (look s.H) a w u.1 (ap (look s.H) u.2.1)) (r:Rel φ M0 N D (look s.T) (look s.H) a w) :
  o.wp P a w (fun a' w'=>∃ φ' s',K s'∧Rel φ' M0 N D (look s'.T) (look s'.H) a' w'∧Evol φ (look s.H) w φ' (look s'.H) w') (Post N D Q φ M0 (look s.H) w):=by
 obtain ⟨nx,v,w',φ',h1,h2,h3,h4,h5,h6⟩:=hy
 have hH:look (put' s o.dst u).H=ap (look s.H) u.2.1:=by
  unfold put' ap
  cases hq:u.2.1 with
  | none=>rfl
  | some bk=>rfl
 have r2:Rel φ' M0 N D (look (put' s o.dst u).T) (look (put' s o.dst u).H) (a.put o.dst v) w':=by
  have r3:Rel φ' M0 N D (look s.T) (ap (look s.H) u.2.1) a w':=r.keep h5 h6 h4
  rw [hH]
  have:=Rel.put (s:=⟨s.T,(put' s o.dst u).H⟩) (d:=o.dst) (x:=u.1) (v:=v) (by rw [hH]; exact r3) (dstLt_spec hd) (by rw [hH]; exact h3)
  rw [← hH]
  cases hq:o.dst with
  | none=>rw [hq] at this; exact this
  | some d=>rw [hq] at this; exact this
 unfold Oper.wp
 rw [h1]
 rcases h2 with rfl | ⟨rfl,rfl⟩
 ·exact ⟨φ',_,hk,r2,by rw [hH]; exact h5⟩
 ·exact ⟨φ',_,hk,r2,by rw [hH]; exact h5⟩
theorem semOp_ok {P:Program} {N:Nat} {D:DB} {o:Oper} {s:St} {K:St→Prop} {Q:AX→St→Prop} {φ:Nat→Nat} {M0:Mset} {a:Act} {w:World} (h:SemOp P N o s K) (r:Rel φ M0 N D (look s.T) (look s.H) a w) :
  o.wp P a w (fun a' w'=>∃ φ' s',K s'∧Rel φ' M0 N D (look s'.T) (look s'.H) a' w'∧Evol φ (look s.H) w φ' (look s'.H) w') (Post N D Q φ M0 (look s.H) w):=by
 obtain ⟨_,hd,h⟩:=h
 obtain ⟨x,s1,hT,hk,nx,v,w',φ',h1,h2,h3,h4,h5,h6⟩:=h φ M0 D a w r
 have r3:Rel φ' M0 N D (look s1.T) (look s1.H) a w':=by rw [hT]; exact r.keep h5 h6 h4
 have r2:Rel φ' M0 N D (look (s1.put o.dst x).T) (look (s1.put o.dst x).H) (a.put o.dst v) w':=Rel.put (s:=s1) (d:=o.dst) (x:=x) (v:=v) r3 (dstLt_spec hd) h3
 have hH:(s1.put o.dst x).H=s1.H:=by cases hq:o.dst <;> rfl
 unfold Oper.wp
 rw [h1]
 rcases h2 with rfl | ⟨rfl,rfl⟩
 ·exact ⟨φ',_,hk,r2,by rw [hH]; exact h5⟩
 ·exact ⟨φ',_,hk,r2,by rw [hH]; exact h5⟩
theorem exOp_ok {P:Program} {N:Nat} {D:DB} {o:Oper} {s:St} {K:St→Prop} {Q:AX→St→Prop} {φ:Nat→Nat} {M0:Mset} {a:Act} {w:World} (h:ExOp P N o s K Q) (r:Rel φ M0 N D (look s.T) (look s.H) a w) :
  o.wp P a w (fun a' w'=>∃ φ' s',K s'∧Rel φ' M0 N D (look s'.T) (look s'.H) a' w'∧Evol φ (look s.H) w φ' (look s'.H) w') (Post N D Q φ M0 (look s.H) w):=by
 unfold ExOp at h
 split at h
 ·rename_i c x y ho
  split at h
  ·rename_i b hc
   have hpick:∀ z,ExRes N o s K (aMove (look s.T) z)→aPick (look s.T) c x y=aMove (look s.T) z →
     o.wp P a w (fun a' w'=>∃ φ' s',K s'∧Rel φ' M0 N D (look s'.T) (look s'.H) a' w'∧Evol φ (look s.H) w φ' (look s'.H) w') (Post N D Q φ M0 (look s.H) w):=by
    intro z hz hp
    cases hm:aMove (look s.T) z with
    | none=>rw [hm] at hz; exact hz.elim
    | some u =>
     rw [hm] at hz hp
     have:=pick_ok (P:=P) r ho hp
     exact exRes_ok hz.1 hz.2 (by rw [this.1]; exact this.2.2) r
   refine splitB_elim h (fun hb hz=>hpick x hz ?_) (fun hb hz=>hpick y hz ?_)
   ·subst hb; simp [aPick,hc]
   ·subst hb; simp [aPick,hc]
  ·exact h.elim
 ·rename_i y ho
  split at h
  ·rename_i t v hv
   have h2:=r.ev hv
   have h2':=h2
   simp only [RepA] at h2'
   obtain ⟨z,h3,h4⟩:=h2'
   unfold Oper.wp
   have:(execOp a.eval o).run P w=.halt (.panic (a.eval y)) w:=by
    simp [execOp,ho,h3,Instr.panic,goPanic]
   rw [this]
   exact ⟨φ, .panic (.ifc t v),s,h,r,Evol.refl _ _ _,_,rfl,h2⟩
  ·exact h.elim
 ·rename_i f aas ts ho
  split at h
  ·rename_i f0 args hf
   obtain ⟨hb,hcall⟩:=h
   obtain ⟨vs,h1,h2⟩:=call_enter (o:=o) r (by rw [ho]; exact hf) hb
   unfold Oper.wp
   rw [h2]
   simp only [Oper.upon]
   refine (hcall φ M0 D a w vs r h1).mono ?_
   intro e w' he
   cases e with
   | returned v=>exact he
   | panicked chain=>exact he
   | outgrown=>exact he.elim
  ·exact h.elim
 ·rcases h with h | h
  ·cases hu:aop P o (look s.T) (look s.H) with
   | none=>rw [hu] at h; exact h.elim
   | some u=>rw [hu] at h; exact exRes_ok h.1 h.2 (aop_ok r hu) r
  ·exact semOp_ok h r
theorem op_in {P:Program} {ro:Option Nat} {o:Oper} {a:Act} {w:World} {K:Act→World→Prop} {Q:Exit→Act→World→Prop} (h:o.wp P a w K Q) (hd:∀ c,o.op ≠ .defer c):o.wpIn (wd ro) 0 P a w K Q:=by
 refine ⟨fun _ _=>trivial,?_⟩
 rw [Oper.semAt_eq _ _ _ hd]
 unfold Oper.wp at h
 generalize (execOp a.eval o).run P w=r at *
 cases r with
 | ok n w' =>
  cases n with
  | enter f args=>exact ⟨(fun h=>by cases h),callsIn_wide.2 h⟩
  | row row args =>
   refine ⟨(fun h=>by cases h),fun c cs _=>?_⟩
   obtain ⟨v,w2,h1,h2⟩:=(h:Rows P row args w' _) c cs
   exact ⟨v,w2,h1,stepsIn_wide.2 h2⟩
  | value v=>exact h
  | skip=>exact h
  | defer d=>exact h
  | _=>exact h.elim
 | halt x w'=>cases x <;> first | exact h | exact h.elim
theorem notDefer {P:Program} {N:Nat} {o:Oper} {s:St} {K:St→Prop} {Q:AX→St→Prop} (h:ExOp P N o s K Q):∀ c,o.op ≠ .defer c:=by
 intro c ho
 unfold ExOp at h
 simp only [ho,aop] at h
 rcases h with h | h
 ·exact h
 ·exact h.1 _ ho
theorem round_in {P:Program} {ro:Option Nat} {o:Oper} {a:Act} {w:World} {K:Act→World→Prop} {Q:Exit→Act→World→Prop} {l:Nat} {args:Array Value} (hr:(execOp a.eval o).run P w=(Instr.yield l args).run P w) (hd:∀ c,o.op ≠ .defer c)
  (h:YAt P l args w fun
   | .returned v,w''=>K (a.put o.dst v) w''
   | .panicked chain,w''=>Q (.panic chain) a w''
   | .outgrown,_=>LetsOut Q):o.wpIn (wd ro) 0 P a w K Q:=by
 refine ⟨fun _ _=>trivial,?_⟩
 rw [Oper.semAt_eq _ _ _ hd,hr]
 obtain ⟨fn,tmps,assign,body,h1,h2⟩:=h
 rw [h1]
 exact ⟨(fun h=>by cases h),h2⟩
theorem yield_enter {P:Program} {o:Oper} {φ:Nat→Nat} {M0:Mset} {N:Nat} {D:DB} {T:Nat→Option AV} {h:Heap} {a:Act} {w:World} (r:Rel φ M0 N D T h a w) {b:Nat} {args:List AV} (hf:yieldOf T o.op=some (b,args)) :
  ∃ vs:List Value,RepAs φ h w (MM φ h M0) args vs∧(execOp a.eval o).run P w=(Instr.yield (φ b) vs.toArray).run P w∧∀ c,o.op ≠ .defer c:=by
 unfold yieldOf at hf
 split at hf
 ·rename_i t aas ts ho
  split at hf
  ·rename_i b0 ht
   split at hf
   ·rename_i vs hvs
    simp only [sie,zPJ] at hf
    obtain ⟨rfl,rfl⟩:=hf
    have h2:=(r.tm t _ ht).2
    simp only [RepA] at h2
    have h3':a.eval (.tmp t)=.func (.yield (φ b0)) #[] #[]:=h2.1
    refine ⟨aas.toList.map a.eval,evOs_rep r hvs,?_,fun c hc=>by rw [ho] at hc; cases hc⟩
    have e1:aas.map a.eval=(aas.toList.map a.eval).toArray:=by apply Array.ext'; simp
    simp only [execOp,ho,resolve,h3',Deferred.ofValue,Sem.run_bind,Sem.run_pure,Result.andThen_ok,invoke]
    rw [← e1]
    simp
   ·cases hf
  ·cases hf
 ·cases hf
theorem Oper.wpIn_mono2 {F:Fence} {n:Nat} {P:Program} {o:Oper} {a:Act} {w:World} {K K':Act→World→Prop} {Q Q':Exit→Act→World→Prop} (hh:o.wpIn F n P a w K Q) (h:∀ a w,K a w→K' a w)
  (hq:∀ e a w,Q e a w→Q' e a w):o.wpIn F n P a w K' Q':=by
 unfold Oper.wpIn at *
 refine ⟨hh.1,?_⟩
 have hh:=hh.2
 generalize (o.semAt F.round a.eval).run P w=r at *
 cases r with
 | ok x w' =>
  cases x <;> simp only [Oper.uponIn] at hh ⊢ <;>
   first
    | exact h _ _ hh
    | exact ⟨hh.1,CallsIn.mono hh.2 (fun e w'' he=>by cases e <;> first | exact h _ _ he | exact hq _ _ _ he | exact ⟨_,_,hq _ _ _ he.choose_spec.choose_spec⟩)⟩
    | exact ⟨hh.1,RowsIn.mono hh.2 (fun _ _ he=>h _ _ he)⟩
    | exact ⟨hh.1,RoundIn.mono hh.2 (fun e w'' he=>by cases e <;> first | exact h _ _ he | exact hq _ _ _ he | exact ⟨_,_,hq _ _ _ he.choose_spec.choose_spec⟩)⟩
 | halt x w'=>cases x <;> simp only [Oper.uponIn] at hh ⊢ <;> exact hq _ _ _ hh
theorem yOp_ok {P:Program} {N:Nat} {ro:Option Nat} {D:DB} {o:Oper} {s:St} {K:St→Prop} {Q:AX→St→Prop} {φ:Nat→Nat} {M0:Mset} {a:Act} {w:World} (h:YOp P N o s K Q (yieldOf (look s.T) o.op)) (r:Rel φ M0 N D (look s.T) (look s.H) a w) :
  o.wpIn (wd ro) 0 P a w (fun a' w'=>∃ φ' s',K s'∧Rel φ' M0 N D (look s'.T) (look s'.H) a' w'∧Evol φ (look s.H) w φ' (look s'.H) w') (Post N D Q φ M0 (look s.H) w):=by
 cases hy:yieldOf (look s.T) o.op with
 | none=>rw [hy] at h; exact op_in (exOp_ok h r) (notDefer h)
 | some p =>
  obtain ⟨b,args⟩:=p
  rw [hy] at h
  obtain ⟨vs,h1,h2,h3⟩:=yield_enter (P:=P) (w:=w) r hy
  refine round_in h2 h3 ?_
  obtain ⟨fn,tmps,assign,body,g1,g2⟩:=h φ M0 D a w vs r h1
  refine ⟨fn,tmps,assign,body,g1,g2.mono ?_⟩
  intro e w' he
  cases e with
  | returned v=>exact he
  | panicked chain=>exact he
  | outgrown=>exact he.elim
theorem exOps_ok {P:Program} {N:Nat} {ro:Option Nat} {D:DB} {ops:Array Oper} {Q:AX→St→Prop}:∀ (l:List Oper) (k:Nat) (s:St) (φ0:Nat→Nat) (h0:Heap) (w0:World) (φ:Nat→Nat) (M0:Mset) (a:Act) (w:World),
  (∀ j,l[j]?=ops[k+j]?)→Evol φ0 h0 w0 φ (look s.H) w→Rel φ M0 N D (look s.T) (look s.H) a w→ExOps P N ops Q l s →
  wpOpsIn (wd ro) 0 P ops (Post N D Q φ0 M0 h0 w0) ((List.range l.length).map (k+·)) a w
 | [],k,s,φ0,h0,w0,φ,M0,a,w,hl,E,r,h=>⟨φ, .normal,s,h,r,E,rfl⟩
 | o :: l,k,s,φ0,h0,w0,φ,M0,a,w,hl,E,r,h=>by
  have h1:ops[k]?=some o:=by simpa using (hl 0).symm
  have hr:(List.range (o :: l).length).map (k+·)=k :: (List.range l.length).map (k+1+·):=by
   simp only [zLC,List.range_succ_eq_map,zMC,List.map_map,Nat.add_zero,List.cons.injEq,true_and]
   apply List.map_congr_left
   intro j _
   simp; omega
  rw [hr]
  simp only [wpOpsIn,h1]
  have hl':∀ j,l[j]?=ops[k+1+j]?:=fun j=>by have:=hl (j+1); rwa [show k+(j+1)=k+1+j from by omega] at this
  simp only [ExOps] at h
  split at h
  ·rename_i b hw
   rw [wantA_ok r hw]
   refine splitB_elim h (fun hb g=>?_) (fun hb g=>?_)
   ·subst hb
    simp only [if_true]
    have em:=gMark_look hw
    have r1:Rel φ M0 N D (look (gMark ops o s.T true)) (look s.H) a w:=by rw [em]; exact r
    refine Go.Abs.Oper.wpIn_mono2 (yOp_ok (s:=⟨gMark ops o s.T true,s.H⟩) g r1) ?_ ?_
    ·rintro a' w' ⟨φ',s',h2,h3,h4⟩
     exact exOps_ok l (k+1) s' φ0 h0 w0 φ' M0 a' w' hl' (E.trans h4) h3 h2
    ·intro e a' w' p
     exact p.trans E
   ·subst hb
    simp only [Bool.false_eq_true,if_false]
    have em:=gMark_look hw
    have r1:Rel φ M0 N D (look (gMark ops o s.T false)) (look s.H) a w:=by rw [em]; exact r
    refine ⟨fun _ _=>trivial,exOps_ok l (k+1) _ φ0 h0 w0 φ M0 _ w hl' ?_ (Rel.put (s:=⟨gMark ops o s.T false,s.H⟩) r1 (dstLt_spec g.1) (by simp [RepA,RepP])) g.2⟩
    cases o.dst <;> exact E
  ·exact h.elim
def noDefer (ops:Array Oper):Bool:=ops.toList.all fun o=>match o.op with | .defer _=>false | _=>true
theorem any_in {P:Program} {ro:Option Nat} {ops:Array Oper} {Q:Exit→Act→World→Prop} (hd:noDefer ops=true) (hq:¬ LetsOut Q):∀ (fuel:Nat) (listed:Array Bool) (a:Act) (w:World),wpAny P .any ops Q fuel listed a w→wpAnyIn (wd ro) 0 P .any ops Q fuel listed a w
 | 0,listed,a,w,h=>h
 | fuel+1,listed,a,w,h=>by
  refine ⟨h.1,fun i hi=>?_⟩
  have h2:=h.2 i hi
  unfold wpOp at h2
  unfold wpOpIn
  cases ho:ops[i]? with
  | none=>simp only [ho] at h2 ⊢; exact any_in hd hq fuel _ a w h2
  | some o =>
   simp only [ho] at h2 ⊢
   have hnd:∀ c,o.op ≠ .defer c:=by
    intro c hc
    have:=zAT.1 hd o (by have:=Array.mem_of_getElem? ho; simpa using this)
    simp [hc] at this
   split at h2
   ·rename_i hw
    simp only [hw,if_true]
    rcases h2 with h3 | h3
    ·exact op_in (Oper.wp_mono (fun a w=>any_in hd hq fuel _ a w) h3) hnd
    ·exact absurd h3.2 hq
   ·rename_i hw
    simp only [hw]
    exact ⟨fun _ _=>trivial,any_in hd hq fuel _ _ w h2⟩
theorem post_not_out {N:Nat} {D:DB} {Q:AX→St→Prop} {φ:Nat→Nat} {M0:Mset} {h:Heap} {w:World}:¬ LetsOut (Post N D Q φ M0 h w):=by
 rintro ⟨a,w',φ',x,s',h1,h2,h3,h4⟩
 cases x with
 | normal=>cases h4
 | exit i=>cases h4
 | ret=>cases h4
 | panic v=>obtain ⟨u,h5,_⟩:=h4; cases h5
theorem ex_region {P:Program} {N:Nat} {ro:Option Nat} {id:Nat} {ops:Array Oper} {s:St} {Q:AX→St→Prop} (h:ExOps P N ops Q ops.toList s):Ex P N ro (.region id ops false) s Q:=by
 intro φ M0 D a w r
 refine wpIn_region ?_
 have:=exOps_ok (ro:=ro) ops.toList 0 s φ (look s.H) w φ M0 a w zq (Evol.refl _ _ _) r h
 simpa using this
section
variable {P:Program} {o:Oper} {T T':Nat→Option AV} {h h':Heap}
theorem evOs_local:∀ {l:List Operand},(∀ x ∈ l,evO T' x=evO T x)→evOs T' l=evOs T l
 | [],_=>rfl
 | x :: l,hh=>by simp only [evOs,hh x zq,evOs_local (l:=l) (fun y hy=>hh y (by simp [hy]))]
theorem evPs_local:∀ {l:List (Nat × Operand)},(∀ x ∈ l.map (·.2),evO T' x=evO T x)→evPs T' l=evPs T l
 | [],_=>rfl
 | (i,x) :: l,hh=>by simp only [evPs,hh x zq,evPs_local (l:=l) (fun y hy=>hh y (by simp at hy ⊢; exact .inr hy))]
theorem aPure_local (hs:∀ x ∈ o.op.operands,evO T' x=evO T x):aPure P T' o=aPure P T o:=by
 have hk:∀ x ∈ o.op.operands.toList,known T' x=known T x:=fun x hx=>by unfold known; rw [hs x (by simpa using hx)]
 have ha:allKnown T' o.op.operands.toList=allKnown T o.op.operands.toList:=by
  have:∀ l:List Operand,(∀ x ∈ l,known T' x=known T x)→allKnown T' l=allKnown T l:=by
   intro l
   induction l with
   | nil=>intro _; rfl
   | cons x l ih=>intro hh; simp only [allKnown,hh x zq,ih (fun y hy=>hh y (by simp [hy]))]
  exact this _ hk
 unfold aPure
 rw [ha]
 split
 ·rename_i hc
  simp only [bae] at hc
  rw [execOp_congr (ρ:=fun x=>(known T' x).getD undef) (ρ':=fun x=>(known T x).getD undef) o (fun cs b e=>by rw [e] at hc; simp [notSelect] at hc) (fun x hx=>by
   show (known T' x).getD undef=(known T x).getD undef
   rw [hk x (by simpa using hx)])]
 ·rfl
theorem natOf_local {d:Nat} {x:Option Operand} (hh:∀ y,x=some y→evO T' y=evO T y):natOf T' d x=natOf T d x:=by
 cases x with
 | none=>rfl
 | some y=>simp only [natOf,hh y rfl]
theorem mfLookup_local {u:Res} {t:TypeId} {x i:Operand} {ok:Bool} (he:aMfLookup P T h t x i ok=some u) (hx:evO T' x=evO T x) (hi:evO T' i=evO T i) (hh:∀ b ∈ u.2.2,h' b=h b) :
  aMfLookup P T' h' t x i ok=some u∧aLookup P T' h' t x i ok=none:=by
 unfold aMfLookup at he
 split at he
 rotate_left
 ·cases he
 rename_i kt e b s ht hx1 hi1
 split at he
 rotate_left
 ·cases he
 rename_i es hb hkt
 have hu:u.2.2=[b]:=by
  split at he
  ·simp only [sie] at he; subst he; rfl
  ·split at he
   ·simp only [sie] at he; subst he; rfl
   ·cases he
 have hb':h' b=some (.mf es):=by rw [hh b (by rw [hu]; simp)]; exact hb
 constructor
 ·simp only [aMfLookup,ht,hx,hi,hx1,hi1,hb',hkt]; exact he
 ·simp [aLookup,ht,hx,hi,hx1,hi1,hb']
theorem mfUpdate_local {u:Res} {t:TypeId} {x i y:Operand} (he:aMfUpdate P T h t x i y=some u) (hn:aMapUpdate P T h t x i y=none) (hx:evO T' x=evO T x) (hi:evO T' i=evO T i) (hy:evO T' y=evO T y) (hh:∀ b ∈ u.2.2,h' b=h b) :
  aMfUpdate P T' h' t x i y=some u∧aMapUpdate P T' h' t x i y=none:=by
 unfold aMfUpdate at he
 split at he
 rotate_left
 ·cases he
 rename_i kt e b s v ht hx1 hi1 hy1
 split at he
 rotate_left
 ·cases he
 rename_i es hb hkt
 have hu:u.2.2=[b]:=by
  split at he
  ·simp only [sie] at he; subst he; rfl
  ·cases he
 have hb':h' b=h b:=hh b (by rw [hu]; simp)
 constructor
 ·simp only [aMfUpdate,ht,hx,hi,hy,hx1,hi1,hy1,hb',hkt,hb]; exact he
 ·rw [← hn]; simp only [aMapUpdate,ht,hx,hi,hy,hx1,hi1,hy1,hb']
theorem mfDelete_local {u:Res} {t:TypeId} {x i:Operand} (he:aMfDelete P T h t x i=some u) (hx:evO T' x=evO T x) (hi:evO T' i=evO T i) (hh:∀ b ∈ u.2.2,h' b=h b):aMfDelete P T' h' t x i=some u:=by
 unfold aMfDelete at he
 split at he
 rotate_left
 ·cases he
 rename_i kt e b s ht hx1 hi1
 split at he
 rotate_left
 ·cases he
 rename_i es hb hkt
 have hu:u.2.2=[b]:=by
  split at he
  ·simp only [sie] at he; subst he; rfl
  ·cases he
 have hb':h' b=some (.mf es):=by rw [hh b (by rw [hu]; simp)]; exact hb
 simp only [aMfDelete,ht,hx,hi,hx1,hi1,hb',hkt]; exact he
theorem lookup_local {u:Res} {t:TypeId} {x i:Operand} {ok:Bool} (he:aLookup P T h t x i ok=some u) (hx:evO T' x=evO T x) (hi:evO T' i=evO T i) (hh:∀ b ∈ u.2.2,h' b=h b):aLookup P T' h' t x i ok=some u:=by
 simp only [aLookup,hx,hi] at he ⊢
 split at he
 ·rename_i kt e b kv _ _ _
  have hb:∀ es,h b=some (.mp es)→u.2.2=[b]→h' b=some (.mp es):=fun es h1 h2=>by rw [hh b (by rw [h2]; simp)]; exact h1
  split at he
  ·rename_i es k kd hbe _ _
   split at he
   ·rename_i hkey
    have:u.2.2=[b]:=by
     split at he
     ·simp only [sie] at he; subst he; rfl
     ·split at he
      ·simp only [sie] at he; subst he; rfl
      ·cases he
     ·cases he
    simp only [hb es hbe this, *,if_true]
   ·cases he
  ·cases he
 ·cases he
theorem mapUpdate_local {u:Res} {t:TypeId} {x i y:Operand} (he:aMapUpdate P T h t x i y=some u) (hx:evO T' x=evO T x) (hi:evO T' i=evO T i) (hy:evO T' y=evO T y) (hh:∀ b ∈ u.2.2,h' b=h b):aMapUpdate P T' h' t x i y=some u:=by
 simp only [aMapUpdate,hx,hi,hy] at he ⊢
 split at he
 ·rename_i kt e b kv y0 _ _ _ _
  have hb:∀ es,h b=some (.mp es)→u.2.2=[b]→h' b=some (.mp es):=fun es h1 h2=>by rw [hh b (by rw [h2]; simp)]; exact h1
  split at he
  ·rename_i es k kd v hbe _ _ _
   split at he
   ·rename_i hkey
    have:u.2.2=[b]:=by
     split at he
     ·simp only [sie] at he; subst he; rfl
     ·simp only [sie] at he; subst he; rfl
     ·cases he
    simp only [hb es hbe this, *,if_true]
   ·cases he
  ·cases he
 ·cases he
theorem orE_split {x y:Option Res} {u:Res} (he:orE x y=some u):x=some u∨x=none∧y=some u:=by
 unfold orE at he
 split at he
 ·exact .inl he
 ·exact .inr ⟨rfl,he⟩
theorem aop_local {u:Res} (he:aop P o T h=some u) (hs:∀ x ∈ o.op.operands,evO T' x=evO T x) (hh:∀ b ∈ u.2.2,h' b=h b):aop P o T' h'=some u:=by
 have hp:=aPure_local (P:=P) hs
 unfold aop at he ⊢
 generalize hop:o.op=q at he hs ⊢
 cases q
 case move x=>simp only [aMove,hs x (by simp [Op.operands])] at he ⊢; exact he
 case assign x=>simp only [aMove,hs x (by simp [Op.operands])] at he ⊢; exact he
 case pick c x y=>simp only [aPick,aMove,hs c (by simp [Op.operands]),hs x (by simp [Op.operands]),hs y (by simp [Op.operands])] at he ⊢; exact he
 case alloc ty =>
  simp only at he ⊢
  split at he
  ·split at he
   ·unfold aNew at he ⊢
    split at he
    ·rename_i d cs hd hcs
     split at he
     ·rename_i hz
      simp only [sie] at he
      subst he
      rw [hh d zq,hz]
     ·cases he
    ·cases he
   ·cases he
  ·cases he
 case box ty x =>
  simp only [hs x (by simp [Op.operands])] at he ⊢
  split at he
  ·unfold aNew at he ⊢
   split at he
   ·rename_i d cs hd hcs
    split at he
    ·rename_i hz
     simp only [sie] at he
     subst he
     rw [hh d zq,hz]
    ·cases he
   ·cases he
  ·cases he
 case build t ps =>
  simp only [aBuild,evPs_local (T':=T') (T:=T) (l:=ps.toList) (fun x hx=>hs x (by simpa [Op.operands] using hx))] at he ⊢
  exact he
 case makeMap t rsv =>
  simp only [aMakeMap] at he ⊢
  split at he
  ·rename_i d hd
   split at he
   ·rename_i hz
    simp only [sie] at he
    subst he
    have:h' d=none:=by rw [hh d zq]; exact hz
    simp [this]
   ·cases he
  ·cases he
 case lookup t x i ok =>
  have hx:=hs x (by simp [Op.operands])
  have hi:=hs i (by simp [Op.operands])
  rcases orE_split he with h1 | ⟨_,h1⟩
  ·simp only [orE,lookup_local h1 hx hi hh]
  ·obtain ⟨h2,h3⟩:=mfLookup_local h1 hx hi hh
   simp only [orE,h2,h3]
 case mapUpdate t x i y =>
  have hx:=hs x (by simp [Op.operands])
  have hi:=hs i (by simp [Op.operands])
  have hy:=hs y (by simp [Op.operands])
  rcases orE_split he with h1 | ⟨h0,h1⟩
  ·simp only [orE,mapUpdate_local h1 hx hi hy hh]
  ·obtain ⟨h2,h3⟩:=mfUpdate_local h1 h0 hx hi hy hh
   simp only [orE,h2,h3]
 case makeSlice t x y=>exact vMake_local he (hs x (by simp [Op.operands])) (hs y (by simp [Op.operands])) hh
 case buildSlice t n ps =>
  simp only at he ⊢
  split at he
  ·rename_i hn; rw [if_pos hn]; exact vLit_local he hh
  rename_i hn
  rw [if_neg hn]
  rw [isB_local (T:=T) (l:=ps.toList) (fun x hx=>hs x (by simpa [Op.operands] using hx))]
  split at he
  ·rename_i hB
   rw [if_pos hB]
   simp only [bBuildSlice,evPs_local (T':=T') (T:=T) (l:=ps.toList) (fun x hx=>hs x (by simpa [Op.operands] using hx))] at he ⊢
   split at he
   ·rename_i e d qs _ _ _
    split at he
    ·rename_i i _
     split at he
     ·rename_i z hz hd
      split at he
      ·rename_i zs hzs
       split at he
       ·rename_i hc1
        split at he
        ·rename_i rs hrs
         split at he
         ·rename_i hc
          simp only [sie] at he
          subst he
          simp only [hh d zq,hd,hz,hzs]
          rw [if_pos hc1]
          simp only [hrs]
          rw [if_pos hc]
         ·cases he
        ·cases he
       ·cases he
      ·cases he
     ·cases he
    ·cases he
   ·cases he
  rename_i hB
  rw [if_neg hB]
  simp only [aBuildSlice,evPs_local (T':=T') (T:=T) (l:=ps.toList) (fun x hx=>hs x (by simpa [Op.operands] using hx))] at he ⊢
  split at he
  ·rename_i e d qs _ _ _
   split at he
   ·rename_i i _
    split at he
    ·rename_i z hz hd
     split at he
     ·rename_i zs hzs
      split at he
      ·rename_i hc1
       split at he
       ·rename_i rs hrs
        split at he
        ·rename_i pvs hpv
         split at he
         ·rename_i hc
          simp only [sie] at he
          subst he
          simp only [hh d zq,hd,hz,hzs]
          rw [if_pos hc1]
          simp only [hrs,hpv]
          rw [if_pos hc]
         ·cases he
        ·cases he
       ·cases he
      ·cases he
     ·cases he
    ·cases he
   ·cases he
  ·cases he
 case load ty x =>
  have hx:=hs x (by simp [Op.operands])
  simp only at he ⊢
  rw [hx]
  split at he
  ·rename_i hv; rw [if_pos hv]; exact vLoad_local he hx hh
  rename_i hv
  rw [if_neg hv]
  simp only [aLoad,hs x (by simp [Op.operands])] at he ⊢
  split at he
  ·split at he
   ·rename_i b off hx
    split at he
    ·rename_i tb cs hb
     have hb':h' b=some (.box tb cs):=by
      rw [← hb]
      refine hh b ?_
      split at he
      ·split at he
       ·simp only [sie] at he; subst he; simp
       ·cases he
      ·split at he
       ·simp only [sie] at he; subst he; simp
       ·cases he
     simp only [hb']
     exact he
    ·cases he
   ·exact he
   ·cases he
  ·cases he
 case store ty x y =>
  have hx:=hs x (by simp [Op.operands])
  have hy:=hs y (by simp [Op.operands])
  simp only at he ⊢
  rw [hx]
  split at he
  ·rename_i hv; rw [if_pos hv]; exact vStore_local he hx hy hh
  rename_i hv
  rw [if_neg hv]
  simp only [aStore,hs x (by simp [Op.operands]),hs y (by simp [Op.operands])] at he ⊢
  split at he
  ·rename_i i b off v _ _ _
   split at he
   ·rename_i tb cs vs hb hvs
    split at he
    ·rename_i hc
     simp only [sie] at he
     subst he
     simp only [hh b zq,hb,hvs]
     rw [if_pos hc]
    ·cases he
   ·cases he
  ·cases he
 case nilCheck x =>
  have hx:=hs x (by simp [Op.operands])
  simp only at he ⊢
  rw [hx]
  split at he
  ·rename_i hv; rw [if_pos hv]; exact vNil_local he hx hh
  rename_i hv
  rw [if_neg hv]
  simp only [aNilCheck,hx] at he ⊢; rw [hp]; exact he
 case fieldAddr t x f =>
  have hx:=hs x (by simp [Op.operands])
  simp only at he ⊢
  rw [hx]
  split at he
  ·rename_i hv; rw [if_pos hv]; exact vFieldAddr_local he hx hh
  rename_i hv
  rw [if_neg hv]
  simp only [aFieldAddr,hx] at he ⊢; exact he
 case field t x f=>simp only [aField,hs x (by simp [Op.operands])] at he ⊢; exact he
 case indexAddr t x i =>
  have hx:=hs x (by simp [Op.operands])
  have hi:=hs i (by simp [Op.operands])
  simp only at he ⊢
  rw [hx]
  split at he
  ·rename_i hv; rw [if_pos hv]; exact vIndexAddr_local he hx hi hh
  rename_i hv
  rw [if_neg hv]
  have e1:aIndexAddr P T' t x i=aIndexAddr P T t x i:=by simp only [aIndexAddr,hx,hi]
  have e2:bIndexAddr P T' t x i=bIndexAddr P T t x i:=by simp only [bIndexAddr,hx,hi]
  rw [e1,e2]
  exact orE_last he fun he=>orE_last he fun he=>tIndexAddr_local he hx hi hh
 case index t x i=>simp only [aIndex,aIndexS,hs x (by simp [Op.operands]),hs i (by simp [Op.operands])] at he ⊢; rw [hp]; exact he
 case slice t x lo hi mx =>
  have e1:∀ d,natOf T' d lo=natOf T d lo:=fun d=>natOf_local (fun y hy=>hs y (by simp [Op.operands,hy]))
  have e2:∀ d,natOf T' d hi=natOf T d hi:=fun d=>natOf_local (fun y hy=>hs y (by simp [Op.operands,hy]))
  have e3:∀ d,natOf T' d mx=natOf T d mx:=fun d=>natOf_local (fun y hy=>hs y (by simp [Op.operands,hy]))
  have hx:=hs x (by simp [Op.operands])
  have e4:aSlice P T' t x lo hi mx=aSlice P T t x lo hi mx:=by simp only [aSlice,hx,e1,e2,e3]
  simp only [e4] at he ⊢
  rw [hp]
  exact orE_last he fun he=>orE_last he fun he=>tSlice_local he hx e1 e2 hh
 case extract x i=>simp only [aExtract,hs x (by simp [Op.operands])] at he ⊢; exact he
 case makeFunc f a b =>
  simp only [aMakeFunc,evOs_local (T':=T') (T:=T) (l:=a.toList) (fun x hx=>hs x (by simp [Op.operands] at hx ⊢; exact .inl hx)),evOs_local (T':=T') (T:=T) (l:=b.toList) (fun x hx=>hs x (by simp [Op.operands] at hx ⊢; exact .inr hx))] at he ⊢
  exact he
 case makeInterface t x=>simp only [aMakeInterface,hs x (by simp [Op.operands])] at he ⊢; exact he
 case typeAssert x xt t ok=>simp only [aTypeAssert,hs x (by simp [Op.operands])] at he ⊢; exact he
 case binOp op tx x y ty =>
  have hx:=hs x (by simp [Op.operands])
  have hy:=hs y (by simp [Op.operands])
  have e1:aBin T' op x y=aBin T op x y:=by simp only [aBin,hx,hy]
  have e2:aEq P T' op tx x y=aEq P T op tx x y:=by simp only [aEq,aEqT,hx,hy]
  simp only [e1,e2,hp] at he ⊢
  have last:aEqNil P T h op tx x y=some u→aEqNil P T' h' op tx x y=some u:=by
   intro he
   unfold aEqNil at he ⊢
   rw [hx,hy]
   split at he
   ·rename_i e S es t m k _ _ _
    split at he
    ·rename_i ta Sa n hb
     split at he
     ·rename_i hlen
      have:h' t=some (.arr ta Sa n):=by
       rw [hh t ?_]
       ·exact hb
       ·split at he
        ·simp only [sie] at he; subst he; simp
        ·simp only [sie] at he; subst he; simp
        ·cases he
      simp only [this,hlen]
      exact he
     ·cases he
    ·cases he
   ·cases he
  cases q1:aBin T op x y with
  | some z=>rw [q1] at he; exact he
  | none =>
   rw [q1] at he
   cases q2:aEq P T op tx x y with
   | some z=>rw [q2] at he; exact he
   | none =>
    rw [q2] at he
    cases q3:aPure P T o with
    | some z=>rw [q3] at he; exact he
    | none =>
     rw [q3] at he
     exact last he
 case unOp op tx x=>simp only [aUn,hs x (by simp [Op.operands])] at he ⊢; rw [hp]; exact he
 case convert src dst x=>simp only [aConv,hs x (by simp [Op.operands])] at he ⊢; rw [hp]; exact he
 case call c =>
  obtain ⟨callee,args,types⟩:=c
  cases callee
  case builtin b =>
   cases b
   case len =>
    simp only at he ⊢
    split at he
    ·rename_i x t
     have hx:=hs x (by simp [Op.operands,Call.operands])
     rw [hx]
     split at he
     ·rename_i hv; rw [if_pos hv]; exact vLen_local he hx hh
     rename_i hv
     rw [if_neg hv]
     have e1:aLen P T' t x=aLen P T t x:=by simp only [aLen,hx]
     have e2:aLenS P T' t x=aLenS P T t x:=by simp only [aLenS,hx]
     have e3:bLen P T' t x=bLen P T t x:=by simp only [bLen,hx]
     rw [e1,e2,e3,hp]
     exact orE_last he fun he=>orE_last he fun he=>orE_last he fun he=>orE_last he fun he=>tLen_local he hx hh
    ·cases he
   case delete =>
    simp only at he ⊢
    split at he
    ·exact mfDelete_local he (hs _ (by simp [Op.operands,Call.operands])) (hs _ (by simp [Op.operands,Call.operands])) hh
    ·cases he
   case append =>
    simp only at he ⊢
    split at he
    ·rename_i s x t t'
     split at he
     ·rename_i ht
      subst ht
      simp only [if_true]
      have hs1:=hs s (by simp [Op.operands,Call.operands])
      have hx1:=hs x (by simp [Op.operands,Call.operands])
      rw [hs1]
      split at he
      ·rename_i hv; rw [if_pos hv]; exact vAppend_local he hs1 hx1 hh
      rename_i hv
      rw [if_neg hv]
      simp only [aAppend,hs s (by simp [Op.operands,Call.operands]),hs x (by simp [Op.operands,Call.operands])] at he ⊢
      split at he
      ·split at he
       ·split at he
        ·split at he
         ·rename_i hc0
          simp only [hc0,and_self,if_true]
          split at he
          ·rename_i hn
           simp only [hn,if_true]
           split at he
           ·rename_i hes; simp only [hes,if_true] at he ⊢; exact he
           ·rename_i hes
            simp only [hes,if_false]
            split at he
            ·rename_i d hd
             split at he
             ·rename_i hc
              simp only [sie] at he
              subst he
              have:h' d=none:=by rw [hh d zq]; exact hc.1
              simp [this,hc.2]
             ·cases he
            ·cases he
          ·rename_i hn
           simp only [hn]
           split at he
           ·rename_i S es tk _
            split at he
            ·rename_i ty S' n htk
             have htk':h' tk=some (.arr ty S' n):=by
              rw [← htk]
              refine hh tk ?_
              split at he
              ·simp only [sie] at he; subst he; simp
              ·split at he
               ·simp only [sie] at he; subst he; simp
               ·cases he
             simp only [htk']
             exact he
            ·cases he
           ·cases he
         ·cases he
        ·cases he
       ·cases he
      ·cases he
     ·cases he
    ·cases he
   case clear =>
    simp only at he ⊢
    split at he
    ·exact tClear_local he (hs _ (by simp [Op.operands,Call.operands])) hh
    ·cases he
   case max=>simp only at he ⊢; rw [hp]; exact he
   case min=>simp only at he ⊢; rw [hp]; exact he
   all_goals cases he
  all_goals cases he
 all_goals cases he
end
def upd1 {α:Type} (F:Nat→Option α):Option (Nat × α)→Nat→Option α
 | none=>F
 | some (b,v)=>fun t=>if b=t then some v else F t
def vF {α:Type}:List (Option (Nat × α))→(Nat→Bool)→(Nat→Option α)→Nat→Option α
 | [],_,F=>F
 | c :: ws,L,F=>vF ws (fun j=>L (j+1)) (if L 0 then upd1 F c else F)
theorem vF_congr {α:Type} {t:Nat}:∀ (ws:List (Option (Nat × α))) (L L':Nat→Bool) (F F':Nat→Option α),F t=F' t→(∀ (j:Nat) v,ws[j]?=some (some (t,v))→L j=L' j)→vF ws L F t=vF ws L' F' t
 | [],_,_,_,_,hF,_=>hF
 | c :: ws,L,L',F,F',hF,hh=>by
  simp only [vF]
  refine vF_congr ws _ _ _ _ ?_ (fun j v hj=>hh (j+1) v (by simpa using hj))
  cases c with
  | none=>simp only [upd1]; split <;> split <;> exact hF
  | some bv =>
   obtain ⟨b,v⟩:=bv
   by_cases e:b=t
   ·have:=hh 0 v (by simp [e])
    rw [this]
    split
    ·simp [upd1,e]
    ·exact hF
   ·split <;> split <;> simp [upd1,e,hF]
theorem vF_last {α:Type} {t:Nat} {v:α}:∀ (ws:List (Option (Nat × α))) (L:Nat→Bool) (F:Nat→Option α) (i:Nat),ws[i]?=some (some (t,v))→L i=true→(∀ (j:Nat) u,i < j→ws[j]?=some (some (t,u))→L j=false)→vF ws L F t=some v
 | [],_,_,i,hi,_,_=>by simp at hi
 | c :: ws,L,F,0,hi,hL,hh=>by
  simp only [List.getElem?_cons_zero,sie] at hi
  subst hi
  simp only [vF,hL,if_true]
  rw [vF_congr ws (fun j=>L (j+1)) (fun _=>false) _ (fun _=>some v) (by simp [upd1]) (fun j u hj=>hh (j+1) u zo (by simpa using hj))]
  have:∀ (ws:List (Option (Nat × α))) (F:Nat→Option α),vF ws (fun _=>false) F=F:=by
   intro ws
   induction ws with
   | nil=>intro F; rfl
   | cons c ws ih=>intro F; simp only [vF,Bool.false_eq_true,if_false]; exact ih F
  rw [this]
 | c :: ws,L,F,i+1,hi,hL,hh=>by
  simp only [vF]
  exact vF_last ws (fun j=>L (j+1)) _ i (by simpa using hi) hL (fun j u hij hj=>hh (j+1) u zo (by simpa using hj))
theorem vF_add {α:Type} (ws:List (Option (Nat × α))) (L:Nat→Bool) (F:Nat→Option α) (i:Nat) (c:Option (Nat × α)) (hi:ws[i]?=some c)
  (hh:∀ b v,c=some (b,v)→∀ (j:Nat) u,i < j→ws[j]?=some (some (b,u))→L j=false) :
  vF ws (fun j=>L j||decide (j=i)) F=upd1 (vF ws L F) c:=by
 funext t
 cases c with
 | none =>
  refine vF_congr ws _ _ _ _ rfl (fun j v hj=>?_)
  have:j ≠ i:=fun e=>by rw [e,hi] at hj; cases hj
  simp [this]
 | some bv =>
  obtain ⟨b,v⟩:=bv
  by_cases e:b=t
  ·subst e
   simp only [upd1,if_true]
   refine vF_last ws _ F i hi zq (fun j u hij hj=>?_)
   have:=hh b v rfl j u hij hj
   have h2:j ≠ i:=by omega
   simp [this,h2]
  ·simp only [upd1,e,if_false]
   refine vF_congr ws _ _ _ _ rfl (fun j u hj=>?_)
   have:j ≠ i:=fun e2=>by rw [e2,hi] at hj; cases hj; exact e rfl
   simp [this]
theorem vF_all {α:Type} (ws:List (Option (Nat × α))) (L L':Nat→Bool) (F:Nat→Option α) (hh:∀ j,j < ws.length→L j=L' j):vF ws L F=vF ws L' F:=by
 funext t
 exact vF_congr ws L L' F F rfl (fun j v hj=>hh j (zLG.1 hj).1)
theorem vF_none {α:Type}:∀ (ws:List (Option (Nat × α))) (L:Nat→Bool) (F:Nat→Option α),(∀ j,j < ws.length→L j=false)→vF ws L F=F
 | [],_,_,_=>rfl
 | c :: ws,L,F,hh=>by
  simp only [vF,hh 0 zq,Bool.false_eq_true,if_false]
  exact vF_none ws _ F (fun j hj=>hh (j+1) (by simp; omega))
structure Ev where
 x:AV
 wr:Option (Nat × Blk)
 rd:List Nat
def wT (o:Oper) (e:Ev):Option (Nat × AV):=o.dst.map fun d=>(d,e.x)
def pvs (vs:List Value):List AV:=vs.map fun v=>.p (.val v)
def Tmpl (τ:List AV→AV):Prop:=∀ (φ:Nat→Nat) (h:Heap) (w:World) (M:Mset) (args:List AV) (vs:List Value) (v:Value),RepAs φ h w M args vs→RepA φ h w M (τ (pvs vs)) v→RepA φ h w M (τ args) v
def isSl:AV→Bool | .tsl _ _ _=>true | .p (.sl _ _)=>true | _=>false
def SlV (vs:List Value):Prop:=∀ v ∈ vs,∃ a l c,v=Value.slice a l c
theorem slV_rep {φ:Nat→Nat} {h:Heap} {w:World} {M:Mset}:∀ {xs:List AV} {vs:List Value},xs.all isSl=true→RepAs φ h w M xs vs→SlV vs
 | [],vs,_,hh=>by simp only [RepAs] at hh; subst hh; intro v hv; cases hv
 | x :: xs,vs,ha,hh=>by
  simp only [RepAs] at hh
  obtain ⟨y,ys,rfl,h1,h2⟩:=hh
  simp only [List.all_cons,bae] at ha
  intro v hv
  rcases List.mem_cons.1 hv with rfl | hv
  ·have hp:∀ S es,RepP w M (.sl S es) v→∃ a l c,v=Value.slice a l c:=by
    intro S es hp
    simp only [RepP] at hp
    rcases hp with ⟨r,o,cap,e,_⟩ | ⟨_,a,cap,e⟩
    ·exact ⟨_,_,_,e⟩
    ·exact ⟨_,_,_,e⟩
   cases x with
   | tsl S es t=>simp only [RepA] at h1; exact hp S es h1.1
   | p q =>
    cases q with
    | sl S es=>simp only [RepA] at h1; exact hp S es h1
    | _=>simp [isSl] at ha
   | _=>simp [isSl] at ha
  ·exact slV_rep ha.2 h2 v hv
def Step1 (P:Program) (N:Nat) (ops:Array Oper) (o:Oper) (T:Nat→Option AV) (h:Heap) (e:Ev):Prop :=
  dstLt N o.dst=true ∧
  ((wantA ops o T=some false∧e=⟨.p (.val undef),none,[]⟩) ∨
   (wantA ops o T=some true∧aop P o T h=some (e.x,e.wr,e.rd)) ∨
   (wantA ops o T=some true∧∃ f args args',callOf T o.op=some (f,args)∧(P.funcs[f]?).any (fun fn=>fn.body.isSome&&fn.name != "runtime.NumGoroutine")=true∧les args args'∧noRefs args'=true ∧
     PCall P f args' (.ret e.x)∧noRef e.x=true∧e.wr=none∧e.rd=[]) ∨
   (wantA ops o T=some true∧∃ (f:FuncId) (args:List AV) (τ:List AV→AV),callOf T o.op=some (f,args)∧(P.funcs[f]?).any (fun fn=>fn.body.isSome&&fn.name != "runtime.NumGoroutine")=true ∧
     args.all isSl=true∧(∀ vs:List Value,SlV vs→vs.length=args.length→PCall P f (pvs vs) (.ret (τ (pvs vs))))∧(∀ vs,noRef (τ (pvs vs))=true)∧Tmpl τ∧e.x=τ args∧e.wr=none∧e.rd=[]))
theorem evO_looks {ops:Array Oper} {o:Oper} {T T':Nat→Option AV} (ht:∀ t ∈ o.looksAt ops,T' t=T t):∀ x ∈ o.op.operands,evO T' x=evO T x:=by
 intro x hx
 cases x with
 | tmp t=>exact ht t (List.mem_append_left _ (List.mem_filterMap.2 ⟨.tmp t,by simpa using hx,rfl⟩))
 | _=>rfl
theorem wantA_local {ops:Array Oper} {o:Oper} {T T':Nat→Option AV} (ht:∀ t ∈ o.looksAt ops,T' t=T t):wantA ops o T'=wantA ops o T:=by
 unfold wantA
 cases hg:o.guard with
 | none=>rfl
 | some gw =>
  obtain ⟨g,want⟩:=gw
  simp only
  cases hj:ops[g]? with
  | none=>rfl
  | some oj =>
   simp only
   cases hd:oj.dst with
   | none=>rfl
   | some d =>
    simp only
    rw [ht d (by simp [Oper.looksAt,hg,hj,hd])]
theorem callOf_local {o:Oper} {T T':Nat→Option AV} (hs:∀ x ∈ o.op.operands,evO T' x=evO T x):callOf T' o.op=callOf T o.op:=by
 unfold callOf
 split
 ·rename_i f args ts ho
  rw [evOs_local (fun x hx=>hs x (by rw [ho]; simp [Op.operands,Call.operands] at hx ⊢; exact .inr hx))]
 ·rename_i t args ts ho
  have h1:T' t=T t:=hs (.tmp t) (by rw [ho]; simp [Op.operands,Call.operands])
  rw [h1,evOs_local (fun x hx=>hs x (by rw [ho]; simp [Op.operands,Call.operands] at hx ⊢; exact .inr hx))]
 ·rfl
theorem Step1.loc {P:Program} {N:Nat} {ops:Array Oper} {o:Oper} {T T':Nat→Option AV} {h h':Heap} {e:Ev} (s:Step1 P N ops o T h e) (ht:∀ t ∈ o.looksAt ops,T' t=T t) (hh:∀ b ∈ e.rd,h' b=h b) :
  Step1 P N ops o T' h' e:=by
 have hs:=evO_looks ht
 refine ⟨s.1,?_⟩
 rw [wantA_local ht,callOf_local hs]
 rcases s.2 with h1 | ⟨h1,h2⟩ | h1 | h1
 ·exact .inl h1
 ·exact .inr (.inl ⟨h1,aop_local h2 hs hh⟩)
 ·exact .inr (.inr (.inl h1))
 ·exact .inr (.inr (.inr h1))
theorem Rel.putT {φ:Nat→Nat} {M0:Mset} {N:Nat} {D:DB} {T:Nat→Option AV} {h:Heap} {a:Act} {w:World} (r:Rel φ M0 N D T h a w) {d:Option Tmp} {x:AV} {v:Value}
  (hd:∀ t,d=some t→t < N) (hx:RepA φ h w (MM φ h M0) x v):Rel φ M0 N D (upd1 T (d.map fun d=>(d,x))) h (a.put d v) w:=by
 cases d with
 | none=>exact r
 | some d =>
  have hlt:=hd d rfl
  refine ⟨r.dfs,by simp [Act.put,r.siz],r.hp,fun t y ht=>?_⟩
  simp only [Option.map_some,upd1] at ht
  by_cases e:d=t
  ·simp only [e,if_true,sie] at ht
   subst ht
   refine ⟨e ▸ hlt,?_⟩
   have:(a.put (some d) v).tmps.getD t undef=v:=by subst e; simp [Act.put,r.siz,hlt]
   rw [this]; exact hx
  ·simp only [e,if_false] at ht
   refine ⟨(r.tm t y ht).1,?_⟩
   have:(a.put (some d) v).tmps.getD t undef=a.tmps.getD t undef:=by simp [Act.put,Array.getElem?_setIfInBounds_ne e]
   rw [this]; exact (r.tm t y ht).2
theorem ap_upd1 (h:Heap) (c:Option (Nat × Blk)):ap h c=upd1 h c:=by
 cases c with
 | none=>rfl
 | some bk=>rfl
theorem Step1.wp {P:Program} {N:Nat} {D:DB} {ops:Array Oper} {o:Oper} {T:Nat→Option AV} {h:Heap} {e:Ev} {i:Nat} {φ:Nat→Nat} {M0:Mset} {a:Act} {w:World} {Q:Exit→Act→World→Prop} (hi:ops[i]?=some o)
  (s:Step1 P N ops o T h e) (r:Rel φ M0 N D T h a w) {K:Act→World→Prop}
  (hK:∀ φ' a' w',Rel φ' M0 N D (upd1 T (wT o e)) (upd1 h e.wr) a' w'→Evol φ h w φ' (upd1 h e.wr) w'→K a' w'):wpOp P ops Q i K a w:=by
 unfold wpOp
 simp only [hi]
 obtain ⟨hd,hs⟩:=s
 rcases hs with ⟨h1,rfl⟩ | ⟨h1,h2⟩ | ⟨h1,f,args,args',h2,h3,h4,h5,h6,h7,h8,h9⟩ | ⟨h1,f,args,τ,h2,h3,h10,h6,h7,h5,h4,h8,h9⟩
 ·rw [wantA_ok r h1]
  simp only [Bool.false_eq_true,if_false]
  exact hK φ _ w (r.putT (dstLt_spec hd) (by simp [RepA,RepP])) (Evol.refl _ _ _)
 ·rw [wantA_ok r h1]
  simp only [if_true]
  refine .inl ?_
  obtain ⟨nx,v,w',φ',g1,g2,g3,g4,g5,g6⟩:=aop_ok r h2
  simp only [ap_upd1] at g3 g4 g5 g6
  have r3:Rel φ' M0 N D T (upd1 h e.wr) a w':=r.keep g5 g6 g4
  have r2:=r3.putT (d:=o.dst) (x:=e.x) (v:=v) (dstLt_spec hd) g3
  unfold Oper.wp
  rw [g1]
  rcases g2 with rfl | ⟨rfl,rfl⟩
  ·exact hK φ' _ w' r2 g5
  ·exact hK φ' _ w' r2 g5
 ·rw [wantA_ok r h1]
  simp only [if_true]
  refine .inl ?_
  obtain ⟨vs,g1,g2⟩:=call_enter r h2 h3
  unfold Oper.wp
  rw [g2]
  simp only [Oper.upon]
  have hH:RelH φ emp w (MB φ h w M0):=relH_emp (fun x o hm=>mb_lt hm) r.hp.gm.w r.hp.gm.mb
  have hM:∀ r o v,w.cell? ⟨r,o,none⟩=some v→¬ MM φ h M0 r o→w.cell? ⟨r,o,none⟩=some v∧¬ MM φ emp (MB φ h w M0) r o∧(Unm w r→Unm w r):=fun r o v h1 h2=>⟨h1,fun h3=>h3.elim not_mut_emp (fun h4=>h2 h4.1),id⟩
  refine (h6 φ (MB φ h w M0) w vs hH ((repA_pure hM).2 _ _ h5 (le_rep.2 _ _ _ h4 g1))).mono ?_
  rintro e1 w' ⟨φ',r',h',⟨rfl,rfl⟩,hH',E,v,rfl,hv⟩
  have hM':∀ ro o v,w'.cell? ⟨ro,o,none⟩=some v→¬ MM φ' emp (MB φ h w M0) ro o→w'.cell? ⟨ro,o,none⟩=some v∧¬ MM (liftF φ w.heap.size (w'.heap.size - w.heap.size)) h M0 ro o∧(Unm w' ro→Unm w' ro):=fun ro o v h1 h2=>⟨h1,mb_back r.hp E.size h1 (fun h3=>h2 (.inr h3)),id⟩
  obtain ⟨r,E1,X1,hC⟩:=r.lift (w'.heap.size - w.heap.size)
  obtain ⟨E2,X2,H2⟩:=evol_grow E.os E.tape E.output E.size (fun x hx=>E.same x hx (fun b hb=>absurd rfl hb)) r.hp hC
  have r2:Rel _ M0 N D T h a w':=r.keep E2 X2 H2
  have r3:=r2.putT (d:=o.dst) (x:=e.x) (v:=v) (dstLt_spec hd) ((repA_pure hM').1 _ _ h7 hv)
  have e8:upd1 h e.wr=h:=by rw [h8]; rfl
  exact hK _ _ w' (by rw [e8]; exact r3) (by rw [e8]; exact E1.trans E2)
 ·rw [wantA_ok r h1]
  simp only [if_true]
  refine .inl ?_
  obtain ⟨vs,g1,g2⟩:=call_enter r h2 h3
  unfold Oper.wp
  rw [g2]
  simp only [Oper.upon]
  have hH:RelH φ emp w (MB φ h w M0):=relH_emp (fun x o hm=>mb_lt hm) r.hp.gm.w r.hp.gm.mb
  refine (h6 vs (slV_rep h10 g1) (repAs_length g1).symm φ (MB φ h w M0) w vs hH (repAs_vals vs)).mono ?_
  rintro e1 w' ⟨φ',r',h',⟨rfl,rfl⟩,hH',E,v,rfl,hv⟩
  have hM':∀ ro o v,w'.cell? ⟨ro,o,none⟩=some v→¬ MM φ' emp (MB φ h w M0) ro o→w'.cell? ⟨ro,o,none⟩=some v∧¬ MM (liftF φ w.heap.size (w'.heap.size - w.heap.size)) h M0 ro o∧(Unm w' ro→Unm w' ro):=fun ro o v h1 h2=>⟨h1,mb_back r.hp E.size h1 (fun h3=>h2 (.inr h3)),id⟩
  obtain ⟨r,E1,X1,hC⟩:=r.lift (w'.heap.size - w.heap.size)
  obtain ⟨E2,X2,H2⟩:=evol_grow E.os E.tape E.output E.size (fun x hx=>E.same x hx (fun b hb=>absurd rfl hb)) r.hp hC
  have r2:Rel _ M0 N D T h a w':=r.keep E2 X2 H2
  have hv':=(repA_pure (φ':=liftF φ w.heap.size (w'.heap.size - w.heap.size)) (h':=h) hM').1 _ _ (h7 vs) hv
  have r3:=r2.putT (d:=o.dst) (x:=e.x) (v:=v) (dstLt_spec hd) (by rw [h4]; exact h5 _ _ _ _ _ _ _ ((repA_keep (E2.keeps M0) X2).2 _ _ ((repA_keep (E1.keeps M0) X1).2 _ _ g1)) hv')
  have e8:upd1 h e.wr=h:=by rw [h8]; rfl
  exact hK _ _ w' (by rw [e8]; exact r3) (by rw [e8]; exact E1.trans E2)
abbrev Foot:=Option Nat × List Nat
def footApart (a b:Foot):Bool :=
 (match a.1 with | some x=>!b.2.contains x&&b.1 != some x | none=>true)&&(match b.1 with | some y=>!a.2.contains y | none=>true)
def waits (oj:Oper) (i:Nat):Bool:=oj.after.toList.any fun e=>Region.binds .any e&&e.on == i
def waits2 (ops:Array Oper) (oj:Oper) (i:Nat):Bool:=waits oj i||oj.after.toList.any fun e=>Region.binds .any e&&(ops[e.on]?).any (waits · i)
theorem waits2_spec {ops:Array Oper} {oj:Oper} {i:Nat} (h:waits2 ops oj i=true) :
  (∃ ed,ed ∈ oj.after∧Region.binds .any ed=true∧ed.on=i)∨(∃ ed ok ed2,ed ∈ oj.after∧Region.binds .any ed=true∧ops[ed.on]?=some ok∧ed2 ∈ ok.after∧Region.binds .any ed2=true∧ed2.on=i):=by
 have key:∀ (o:Oper),waits o i=true→∃ ed,ed ∈ o.after∧Region.binds .any ed=true∧ed.on=i:=by
  intro o hw
  simp only [waits,List.any_eq_true,bae,beq_iff_eq] at hw
  obtain ⟨ed,h1,h2,h3⟩:=hw
  exact ⟨ed,by simpa using h1,h2,h3⟩
 simp only [waits2,Bool.or_eq_true] at h
 rcases h with h | h
 ·exact .inl (key oj h)
 ·simp only [List.any_eq_true,bae] at h
  obtain ⟨ed,h1,h2,h3⟩:=h
  cases hok:ops[ed.on]? with
  | none=>rw [hok] at h3; cases h3
  | some ok =>
   rw [hok] at h3
   obtain ⟨ed2,g1,g2,g3⟩:=key ok (by simpa using h3)
   exact .inr ⟨ed,ok,ed2,by simpa using h1,h2,hok,g1,g2,g3⟩
def pairsFrom (ops:Array Oper) (oi:Oper) (i:Nat) (fi:Foot):List Oper→List Foot→Bool
 | oj :: l,fj :: fs=>(waits2 ops oj i||(oi.apart ops oj&&footApart fi fj))&&pairsFrom ops oi i fi l fs
 | _,_=>true
def pairs (ops:Array Oper):Nat→List Oper→List Foot→Bool
 | i,oi :: l,fi :: fs=>pairsFrom ops oi i fi l fs&&pairs ops (i+1) l fs
 | _,_,_=>true
def edgesDown:Nat→List Oper→Bool
 | _,[]=>true
 | j,o :: l=>(o.after.toList.all fun e=>!Region.binds .any e||decide (e.on < j))&&edgesDown (j+1) l
def commutes (ops:Array Oper) (fs:List Foot):Bool:=pairs ops 0 ops.toList fs&&edgesDown 0 ops.toList
theorem pairsFrom_spec {ops:Array Oper} {oi:Oper} {i:Nat} {fi:Foot}:∀ {l:List Oper} {fs:List Foot},pairsFrom ops oi i fi l fs=true→∀ (j:Nat) oj fj,l[j]?=some oj→fs[j]?=some fj→waits2 ops oj i=true∨(oi.apart ops oj=true∧footApart fi fj=true)
 | [],fs,_,j,oj,fj,hj,_=>by simp at hj
 | o :: l,[],_,j,oj,fj,_,hf=>by simp at hf
 | o :: l,f :: fs,hp,j,oj,fj,hj,hf=>by
  simp only [pairsFrom,bae,Bool.or_eq_true] at hp
  cases j with
  | zero=>simp at hj hf; subst hj hf; exact hp.1
  | succ j=>exact pairsFrom_spec hp.2 j oj fj (by simpa using hj) (by simpa using hf)
theorem pairs_spec {ops:Array Oper}:∀ {l:List Oper} {fs:List Foot} {k:Nat},pairs ops k l fs=true→∀ (i j:Nat) oi oj fi fj,i < j→l[i]?=some oi→l[j]?=some oj→fs[i]?=some fi→fs[j]?=some fj →
  waits2 ops oj (k+i)=true∨(oi.apart ops oj=true∧footApart fi fj=true)
 | [],fs,k,_,i,j,oi,oj,fi,fj,_,hi,_,_,_=>by simp at hi
 | o :: l,[],k,_,i,j,oi,oj,fi,fj,_,_,_,hf,_=>by simp at hf
 | o :: l,f :: fs,k,hp,i,j,oi,oj,fi,fj,hij,hi,hj,hfi,hfj=>by
  simp only [pairs,bae] at hp
  cases j with
  | zero=>omega
  | succ j =>
   cases i with
   | zero =>
    simp at hi hfi
    subst hi hfi
    exact pairsFrom_spec hp.1 j oj fj (by simpa using hj) (by simpa using hfj)
   | succ i =>
    have:=pairs_spec hp.2 i j oi oj fi fj zo (by simpa using hi) (by simpa using hj) (by simpa using hfi) (by simpa using hfj)
    rwa [show k+1+i=k+(i+1) from by omega] at this
theorem edgesDown_spec:∀ {l:List Oper} {k:Nat},edgesDown k l=true→∀ (j:Nat) o,l[j]?=some o→∀ e ∈ o.after,Region.binds .any e=true→e.on < k+j
 | [],k,_,j,o,hj=>by simp at hj
 | o :: l,k,hp,j,o',hj=>by
  simp only [edgesDown,bae] at hp
  cases j with
  | zero =>
   simp at hj
   subst hj
   intro e he hb
   have:=zAT.1 hp.1 e (by simpa using he)
   simpa [hb] using this
  | succ j =>
   intro e he hb
   have:=edgesDown_spec hp.2 j o' (by simpa using hj) e he hb
   omega
def unl (listed:Array Bool):Nat→Nat
 | 0=>0
 | n+1=>unl listed n+(if listed.getD n true then 0 else 1)
theorem unl_set {listed:Array Bool} {i:Nat} (hi:listed.getD i true=false):∀ n,unl (listed.setIfInBounds i true) n+(if i < n then 1 else 0)=unl listed n
 | 0=>by simp [unl]
 | n+1=>by
  have ih:=unl_set hi n
  simp only [unl]
  have hlt:i < listed.size:=by
   rcases Nat.lt_or_ge i listed.size with h | h
   ·exact h
   ·simp [Array.getElem?_eq_none h] at hi
  by_cases e:i=n
  ·subst e
   have h1:(listed.setIfInBounds i true).getD i true=true:=by simp [hlt]
   rw [h1,hi]
   simp at ih ⊢
   omega
  ·rw [getD_set_ne true e]
   have:(i < n+1)↔(i < n):=by omega
   simp only [this]
   omega
theorem unl_zero {listed:Array Bool}:∀ {n:Nat},unl listed n=0→∀ i,i < n→listed.getD i true=true
 | 0,_,i,hi=>by omega
 | n+1,hu,i,hi=>by
  simp only [unl] at hu
  by_cases e:i=n
  ·subst e
   cases hq:listed.getD i true with
   | true=>rfl
   | false=>rw [hq] at hu; simp at hu
  ·exact unl_zero (n:=n) (Nat.eq_zero_of_add_eq_zero_right hu) i zo
theorem draw_any {P:Program} {N:Nat} {D:DB} {ops:Array Oper} {Q:Exit→Act→World→Prop} {M0:Mset} {T0:Nat→Option AV} {h0:Heap} {φ0:Nat→Nat} {w0:World} (es:List Ev) (hlen:es.length=ops.size)
  (hstep:∀ (i:Nat) o e,ops[i]?=some o→es[i]?=some e→Step1 P N ops o (vF ((ops.toList.zip es).map fun p=>wT p.1 p.2) (fun j=>decide (j < i)) T0) (vF (es.map (·.wr)) (fun j=>decide (j < i)) h0) e)
  (hcom:commutes ops (es.map fun e=>(e.wr.map (·.1),e.rd))=true)
  (hQ:∀ φ a w,Rel φ M0 N D (vF ((ops.toList.zip es).map fun p=>wT p.1 p.2) (fun _=>true) T0) (vF (es.map (·.wr)) (fun _=>true) h0) a w→Evol φ0 h0 w0 φ (vF (es.map (·.wr)) (fun _=>true) h0) w→Q .normal a w) :
  ∀ (fuel:Nat) (listed:Array Bool) (a:Act) (w:World) (φ:Nat→Nat),listed.size=ops.size→unl listed ops.size≤fuel →
   (∀ (j:Nat) o,ops[j]?=some o→listed.getD j false=true→∀ e ∈ o.after,Region.binds .any e=true→listed.getD e.on false=true) →
   Rel φ M0 N D (vF ((ops.toList.zip es).map fun p=>wT p.1 p.2) (fun j=>listed.getD j false) T0) (vF (es.map (·.wr)) (fun j=>listed.getD j false) h0) a w →
   Evol φ0 h0 w0 φ (vF (es.map (·.wr)) (fun j=>listed.getD j false) h0) w→wpAny P .any ops Q fuel listed a w:=by
 simp only [commutes,bae] at hcom
 obtain ⟨hpairs,hdown⟩:=hcom
 have hgd:∀ (listed:Array Bool) (i:Nat),i < listed.size→listed.getD i true=listed.getD i false:=fun listed i hi=>by simp [hi]
 have hwl:((ops.toList.zip es).map fun p=>wT p.1 p.2).length=ops.size:=by simp [hlen]
 have hdone:∀ (listed:Array Bool) (a:Act) (w:World) (φ:Nat→Nat),listed.size=ops.size→(∀ i,i < ops.size→listed.getD i true=true) →
   Rel φ M0 N D (vF ((ops.toList.zip es).map fun p=>wT p.1 p.2) (fun j=>listed.getD j false) T0) (vF (es.map (·.wr)) (fun j=>listed.getD j false) h0) a w →
   Evol φ0 h0 w0 φ (vF (es.map (·.wr)) (fun j=>listed.getD j false) h0) w→Q .normal a w:=by
  intro listed a w φ hsz hall r E
  have e1:vF ((ops.toList.zip es).map fun p=>wT p.1 p.2) (fun j=>listed.getD j false) T0=vF ((ops.toList.zip es).map fun p=>wT p.1 p.2) (fun _=>true) T0 :=
   vF_all _ _ _ _ (fun j hj=>by rw [hwl] at hj; rw [← hgd listed j zo]; exact hall j hj)
  have e2:vF (es.map (·.wr)) (fun j=>listed.getD j false) h0=vF (es.map (·.wr)) (fun _=>true) h0 :=
   vF_all _ _ _ _ (fun j hj=>by simp only [zLM,hlen] at hj; rw [← hgd listed j zo]; exact hall j hj)
  rw [e1,e2] at r
  rw [e2] at E
  exact hQ φ a w r E
 have hready:∀ (listed:Array Bool),listed.size=ops.size→Region.ready .any ops listed=[]→∀ i,i < ops.size→listed.getD i true=true:=by
  intro listed hsz hr i
  induction i using Nat.strongRecOn with
  | _ i ih =>
   intro hi
   cases hq:listed.getD i true with
   | true=>rfl
   | false =>
    have:i ∈ Region.ready .any ops listed:=by
     rw [mem_ready]
     refine ⟨hq,ops[i],Array.getElem?_eq_getElem hi,fun e he hb=>?_⟩
     have h1:=edgesDown_spec hdown i ops[i] (by simp [hi]) e he hb
     have h2:e.on < i:=by omega
     rw [← hgd listed e.on zo]
     exact ih e.on h2 zo
    rw [hr] at this
    cases this
 intro fuel
 induction fuel with
 | zero =>
  intro listed a w φ hsz hu hcl r E
  have hall:=unl_zero (n:=ops.size) (listed:=listed) zo
  refine ⟨?_,hdone listed a w φ hsz hall r E⟩
  apply List.eq_nil_iff_forall_not_mem.2
  intro i hi
  rw [mem_ready] at hi
  obtain ⟨h1,o,ho,_⟩:=hi
  rw [hall i (zGS.1 ho).1] at h1
  cases h1
 | succ fuel ih =>
  intro listed a w φ hsz hu hcl r E
  refine ⟨fun hr=>hdone listed a w φ hsz (hready listed hsz hr) r E,fun i hi=>?_⟩
  rw [mem_ready] at hi
  obtain ⟨hun,o,ho,hall⟩:=hi
  have hilt:i < ops.size:=(zGS.1 ho).1
  have hun':listed.getD i false=false:=by rw [← hgd listed i zo]; exact hun
  obtain ⟨e,he⟩:∃ e,es[i]?=some e:=⟨es[i],List.getElem?_eq_getElem zo⟩
  have hkey:∀ (j:Nat) oj ej,ops[j]?=some oj→es[j]?=some ej→j ≠ i→¬ (listed.getD j false=decide (j < i))→oj.apart ops o=true∧footApart (ej.wr.map (·.1),ej.rd) (e.wr.map (·.1),e.rd)=true∨(o.apart ops oj=true∧footApart (e.wr.map (·.1),e.rd) (ej.wr.map (·.1),ej.rd)=true):=by
   intro j oj ej hoj hej hne hdiff
   rcases Nat.lt_or_ge j i with hlt | hge
   ·have:=pairs_spec hpairs j i oj o (ej.wr.map (·.1),ej.rd) (e.wr.map (·.1),e.rd) hlt (by simpa using hoj) (by simpa using ho) (by simp [hej]) (by simp [he])
    rcases this with hw | hap
    ·exfalso
     simp only [Nat.zero_add] at hw
     rcases waits2_spec hw with ⟨ed,hed,hb,hon⟩ | ⟨ed,ok,ed2,hed,hb,hok,hed2,hb2,hon⟩
     ·have:=hall ed hed hb
      rw [hon] at this
      exact hdiff (by rw [this]; simp [hlt])
     ·have:=hcl ed.on ok hok (hall ed hed hb) ed2 hed2 hb2
      rw [hon] at this
      exact hdiff (by rw [this]; simp [hlt])
    ·exact .inl hap
   ·have hij:i < j:=by omega
    have:=pairs_spec hpairs i j o oj (e.wr.map (·.1),e.rd) (ej.wr.map (·.1),ej.rd) hij (by simpa using ho) (by simpa using hoj) (by simp [he]) (by simp [hej])
    rcases this with hw | hap
    ·exfalso
     simp only [Nat.zero_add] at hw
     cases hq:listed.getD j false with
     | true =>
      rcases waits2_spec hw with ⟨ed,hed,hb,hon⟩ | ⟨ed,ok,ed2,hed,hb,hok,hed2,hb2,hon⟩
      ·have:=hcl j oj hoj hq ed hed hb
       rw [hon,hun'] at this
       cases this
      ·have:=hcl ed.on ok hok (hcl j oj hoj hq ed hed hb) ed2 hed2 hb2
       rw [hon,hun'] at this
       cases this
     | false =>
      have h3:¬ j < i:=by omega
      exact hdiff (by rw [hq]; simp [h3])
    ·exact .inr hap
  have hgetT:∀ (j:Nat) t v,((ops.toList.zip es).map fun p=>wT p.1 p.2)[j]?=some (some (t,v))→∃ oj ej,ops[j]?=some oj∧es[j]?=some ej∧oj.dst=some t:=by
   intro j t v hj
   simp only [List.getElem?_map,zMS] at hj
   obtain ⟨p,hp,hw⟩:=hj
   rw [List.getElem?_zip_eq_some] at hp
   refine ⟨p.1,p.2,by simpa using hp.1,hp.2,?_⟩
   unfold wT at hw
   cases hd:p.1.dst with
   | none=>rw [hd] at hw; cases hw
   | some d=>rw [hd] at hw; simp only [Option.map_some,sie,zPJ] at hw; rw [hw.1]
  have hgetH:∀ (j:Nat) b k,(es.map (·.wr))[j]?=some (some (b,k))→∃ oj ej,ops[j]?=some oj∧es[j]?=some ej∧ej.wr=some (b,k):=by
   intro j b k hj
   simp only [List.getElem?_map,zMS] at hj
   obtain ⟨p,hp,hw⟩:=hj
   have hjl:j < ops.size:=by rw [← hlen]; exact (zLG.1 hp).1
   exact ⟨ops[j],p,Array.getElem?_eq_getElem hjl,hp,hw⟩
  have hstep':=(hstep i o e ho he).loc (T':=vF ((ops.toList.zip es).map fun p=>wT p.1 p.2) (fun j=>listed.getD j false) T0) (h':=vF (es.map (·.wr)) (fun j=>listed.getD j false) h0) (by
   intro t ht
   refine vF_congr _ _ _ _ _ rfl (fun j v hj=>?_)
   obtain ⟨oj,ej,hoj,hej,hdst⟩:=hgetT j t v hj
   apply Classical.byContradiction
   intro hdiff
   by_cases hne:j=i
   ·subst hne; exact hdiff (by rw [hun']; simp)
   ·rcases hkey j oj ej hoj hej hne hdiff with ⟨h1,_⟩ | ⟨h1,_⟩
    ·exact (Oper.apart_spec h1).1 t hdst ht
    ·exact (Oper.apart_spec h1).2.2 t hdst ht) (by
   intro b hb
   refine vF_congr _ _ _ _ _ rfl (fun j k hj=>?_)
   obtain ⟨oj,ej,hoj,hej,hwr⟩:=hgetH j b k hj
   apply Classical.byContradiction
   intro hdiff
   by_cases hne:j=i
   ·subst hne; exact hdiff (by rw [hun']; simp)
   ·rcases hkey j oj ej hoj hej hne hdiff with ⟨_,h1⟩ | ⟨_,h1⟩
    ·simp only [footApart,hwr,Option.map_some,bae,Bool.not_eq_true'] at h1
     have:=h1.1.1
     simp [hb] at this
    ·simp only [footApart,hwr,Option.map_some,bae,Bool.not_eq_true'] at h1
     have:=h1.2
     simp [hb] at this)
  refine hstep'.wp ho r ?_
  intro φ' a' w' r' E'
  have eL:∀ j,(listed.setIfInBounds i true).getD j false=(listed.getD j false||decide (j=i)):=by
   intro j
   by_cases hji:j=i
   ·subst hji
    have:j < listed.size:=by omega
    simp [this]
   ·rw [getD_set_ne false (Ne.symm hji)]
    simp [hji]
  have hT:vF ((ops.toList.zip es).map fun p=>wT p.1 p.2) (fun j=>(listed.setIfInBounds i true).getD j false) T0=upd1 (vF ((ops.toList.zip es).map fun p=>wT p.1 p.2) (fun j=>listed.getD j false) T0) (wT o e):=by
   simp only [eL]
   refine vF_add _ _ _ i (wT o e) ?_ ?_
   ·rw [List.getElem?_map,List.getElem?_zip_eq_some.2 (show ops.toList[i]?=some (o,e).1∧es[i]?=some (o,e).2 from ⟨by simpa using ho,he⟩)]
    rfl
   ·intro b v hbv j u hij hj
    obtain ⟨oj,ej,hoj,hej,hdst⟩:=hgetT j b u hj
    have hodst:o.dst=some b:=by
     unfold wT at hbv
     cases hd:o.dst with
     | none=>rw [hd] at hbv; cases hbv
     | some d=>rw [hd] at hbv; simp only [Option.map_some,sie,zPJ] at hbv; rw [hbv.1]
    cases hq:listed.getD j false with
    | false=>rfl
    | true =>
     exfalso
     rcases hkey j oj ej hoj hej zo (by rw [hq]; simp [show ¬ j < i by omega]) with ⟨h1,_⟩ | ⟨h1,_⟩
     ·exact (Oper.apart_spec h1).2.1 b hdst hodst
     ·exact (Oper.apart_spec h1).2.1 b hodst hdst
  have hH:vF (es.map (·.wr)) (fun j=>(listed.setIfInBounds i true).getD j false) h0=upd1 (vF (es.map (·.wr)) (fun j=>listed.getD j false) h0) e.wr:=by
   simp only [eL]
   refine vF_add _ _ _ i e.wr (by simp [he]) ?_
   intro b k hbk j u hij hj
   obtain ⟨oj,ej,hoj,hej,hwr⟩:=hgetH j b u hj
   cases hq:listed.getD j false with
   | false=>rfl
   | true =>
    exfalso
    rcases hkey j oj ej hoj hej zo (by rw [hq]; simp [show ¬ j < i by omega]) with ⟨_,h1⟩ | ⟨_,h1⟩
    ·simp only [footApart,hwr,hbk,Option.map_some,bae,bne_iff_ne] at h1
     exact h1.1.2 rfl
    ·simp only [footApart,hwr,hbk,Option.map_some,bae,bne_iff_ne] at h1
     exact h1.1.2 rfl
  refine ih (listed.setIfInBounds i true) a' w' φ' (by simpa using hsz) ?_ ?_ (by rw [hT,hH]; exact r') (by rw [hH]; exact E.trans E')
  ·have:=unl_set hun ops.size
   rw [if_pos hilt] at this
   omega
  ·intro j oj hoj hj ed hed hb
   rw [eL] at hj ⊢
   simp only [Bool.or_eq_true,zDT] at hj ⊢
   rcases hj with hj | rfl
   ·exact .inl (hcl j oj hoj hj ed hed hb)
   ·rw [ho] at hoj
    cases hoj
    exact .inl (hall ed hed hb)
def tailAll (ops:Array Oper) (m:Nat):Bool:=(List.range m).all fun j=>(List.range (m+1)).any fun k=>decide (j < k)&&(ops[k]?).any (waits · j)
def noTmpCall (o:Oper):Bool:=match o.op with | .call ⟨.value (.tmp _),_,_⟩=>false | _=>true
def tailSeq (ops:Array Oper) (m:Nat):Bool:=(List.range ops.size).all fun k=>decide (k≤m)||(ops[k]?).any (waits · (k - 1))
theorem draw_chain {P:Program} {ops:Array Oper} {Q:Exit→Act→World→Prop} (m:Nat) (hdown:∀ i,(hi:i < ops.size)→∀ e ∈ (ops[i]).after,Region.binds .any e=true→e.on < i) (hseq:tailSeq ops m=true) :
  ∀ (d k fuel:Nat) (listed:Array Bool) (a:Act) (w:World),k+d=ops.size→m≤k→d≤fuel→listed.size=ops.size→(∀ i,i < k→listed.getD i false=true)→(∀ i,k≤i→listed.getD i false=false) →
   wpOps P ops Q ((List.range d).map (k+·)) a w→wpAny P .any ops Q fuel listed a w:=by
 have hgd:∀ (listed:Array Bool) (i:Nat),i < listed.size→listed.getD i true=listed.getD i false:=fun listed i hi=>by simp [hi]
 intro d
 induction d with
 | zero =>
  intro k fuel listed a w hk hmk hf hsz h1 h2 h
  have hnil:Region.ready .any ops listed=[]:=by
   apply List.eq_nil_iff_forall_not_mem.2
   intro i hi
   rw [mem_ready] at hi
   obtain ⟨h3,o,ho,_⟩:=hi
   have hi':=(zGS.1 ho).1
   rw [hgd listed i zo,h1 i zo] at h3
   cases h3
  cases fuel with
  | zero=>exact ⟨hnil,h⟩
  | succ fuel=>exact ⟨fun _=>h,fun i hi=>by rw [hnil] at hi; cases hi⟩
 | succ d ih =>
  intro k fuel listed a w hk hmk hf hsz h1 h2 h
  obtain ⟨fuel,rfl⟩:∃ f,fuel=f+1:=⟨fuel - 1,by omega⟩
  have hklt:k < ops.size:=by omega
  have hr:(List.range (d+1)).map (k+·)=k :: (List.range d).map (k+1+·):=by
   simp only [List.range_succ_eq_map,zMC,List.map_map,Nat.add_zero,List.cons.injEq,true_and]
   apply List.map_congr_left
   intro j _
   simp; omega
  rw [hr,wpOps_cons] at h
  refine ⟨fun hnil=>?_,fun i hi=>?_⟩
  ·exfalso
   have:k ∈ Region.ready .any ops listed:=by
    rw [mem_ready]
    refine ⟨by rw [hgd listed k zo]; exact h2 k (zNR _),ops[k],Array.getElem?_eq_getElem hklt,fun e he hb=>?_⟩
    exact h1 e.on (hdown k hklt e he hb)
   rw [hnil] at this
   cases this
  ·rw [mem_ready] at hi
   obtain ⟨h3,o,ho,hall⟩:=hi
   have hilt:i < ops.size:=(zGS.1 ho).1
   rw [hgd listed i zo] at h3
   have hik:i=k:=by
    rcases Nat.lt_trichotomy i k with hlt | heq | hgt
    ·rw [h1 i hlt] at h3; cases h3
    ·exact heq
    ·exfalso
     have h4:=zAT.1 hseq i (by simp; omega)
     simp only [Bool.or_eq_true,zDT] at h4
     rcases h4 with h4 | h4
     ·omega
     ·rw [ho] at h4
      simp only [Option.any_some,waits,List.any_eq_true,bae,beq_iff_eq] at h4
      obtain ⟨ed,hed,hb,hon⟩:=h4
      have:=hall ed (by simpa using hed) hb
      rw [hon,h2 (i - 1) zo] at this
      cases this
   subst hik
   refine wpOp_mono (fun a' w' hq=>ih (i+1) fuel _ a' w' zo zo zo (by simpa using hsz) ?_ ?_ hq) h
   ·intro j hj
    by_cases e:i=j
    ·subst e
     have:i < listed.size:=by omega
     simp [this]
    ·rw [getD_set_ne false e]
     exact h1 j zo
   ·intro j hj
    rw [getD_set_ne false zo]
    exact h2 j zo
theorem draw_tail {P:Program} {N:Nat} {D:DB} {ops:Array Oper} {Q:Exit→Act→World→Prop} {M0:Mset} {T0:Nat→Option AV} {h0:Heap} {φ0:Nat→Nat} {w0:World} (es:List Ev) (m:Nat) (hm:m < ops.size) (hlen:es.length=m)
  (hstep:∀ (i:Nat) o e,ops[i]?=some o→es[i]?=some e→Step1 P N ops o (vF ((ops.toList.zip es).map fun p=>wT p.1 p.2) (fun j=>decide (j < i)) T0) (vF (es.map (·.wr)) (fun j=>decide (j < i)) h0) e)
  (hcom:commutes ops (es.map fun e=>(e.wr.map (·.1),e.rd))=true)
  (hta:tailAll ops m=true) (hseq:tailSeq ops m=true)
  (hQ:∀ φ a w,Rel φ M0 N D (vF ((ops.toList.zip es).map fun p=>wT p.1 p.2) (fun _=>true) T0) (vF (es.map (·.wr)) (fun _=>true) h0) a w→Evol φ0 h0 w0 φ (vF (es.map (·.wr)) (fun _=>true) h0) w→wpOps P ops Q ((List.range (ops.size - m)).map (m+·)) a w) :
  ∀ (fuel:Nat) (listed:Array Bool) (a:Act) (w:World) (φ:Nat→Nat),listed.size=ops.size→unl listed ops.size≤fuel→(∀ j,m≤j→listed.getD j false=false) →
   (∀ (j:Nat) o,ops[j]?=some o→listed.getD j false=true→∀ e ∈ o.after,Region.binds .any e=true→listed.getD e.on false=true) →
   Rel φ M0 N D (vF ((ops.toList.zip es).map fun p=>wT p.1 p.2) (fun j=>listed.getD j false) T0) (vF (es.map (·.wr)) (fun j=>listed.getD j false) h0) a w →
   Evol φ0 h0 w0 φ (vF (es.map (·.wr)) (fun j=>listed.getD j false) h0) w→wpAny P .any ops Q fuel listed a w:=by
 simp only [commutes,bae] at hcom
 obtain ⟨hpairs,hdown⟩:=hcom
 have hgd:∀ (listed:Array Bool) (i:Nat),i < listed.size→listed.getD i true=listed.getD i false:=fun listed i hi=>by simp [hi]
 have hwl:((ops.toList.zip es).map fun p=>wT p.1 p.2).length=m:=by simp [hlen]; omega
 have hdone:∀ (listed:Array Bool) (a:Act) (w:World) (φ:Nat→Nat),listed.size=ops.size→(∀ i,i < m→listed.getD i false=true) →
   Rel φ M0 N D (vF ((ops.toList.zip es).map fun p=>wT p.1 p.2) (fun j=>listed.getD j false) T0) (vF (es.map (·.wr)) (fun j=>listed.getD j false) h0) a w →
   Evol φ0 h0 w0 φ (vF (es.map (·.wr)) (fun j=>listed.getD j false) h0) w→wpOps P ops Q ((List.range (ops.size - m)).map (m+·)) a w:=by
  intro listed a w φ hsz hall r E
  have e1:vF ((ops.toList.zip es).map fun p=>wT p.1 p.2) (fun j=>listed.getD j false) T0=vF ((ops.toList.zip es).map fun p=>wT p.1 p.2) (fun _=>true) T0 :=
   vF_all _ _ _ _ (fun j hj=>by rw [hwl] at hj; exact hall j hj)
  have e2:vF (es.map (·.wr)) (fun j=>listed.getD j false) h0=vF (es.map (·.wr)) (fun _=>true) h0 :=
   vF_all _ _ _ _ (fun j hj=>by simp only [zLM,hlen] at hj; exact hall j hj)
  rw [e1,e2] at r
  rw [e2] at E
  exact hQ φ a w r E
 have hready:∀ (listed:Array Bool),listed.size=ops.size→Region.ready .any ops listed=[]→∀ i,i < ops.size→listed.getD i true=true:=by
  intro listed hsz hr i
  induction i using Nat.strongRecOn with
  | _ i ih =>
   intro hi
   cases hq:listed.getD i true with
   | true=>rfl
   | false =>
    have:i ∈ Region.ready .any ops listed:=by
     rw [mem_ready]
     refine ⟨hq,ops[i],Array.getElem?_eq_getElem hi,fun e he hb=>?_⟩
     have h1:=edgesDown_spec hdown i ops[i] (by simp [hi]) e he hb
     have h2:e.on < i:=by omega
     rw [← hgd listed e.on zo]
     exact ih e.on h2 zo
    rw [hr] at this
    cases this
 intro fuel
 induction fuel with
 | zero =>
  intro listed a w φ hsz hu hτ hcl r E
  have hall:=unl_zero (n:=ops.size) (listed:=listed) zo
  have:=hall m zo
  rw [hgd listed m zo,hτ m (zNR _)] at this
  cases this
 | succ fuel ih =>
  intro listed a w φ hsz hu hτ hcl r E
  have hunm:∀ n,n≤ops.size→(∀ i,m≤i→i < n→listed.getD i true=false)→n - m≤unl listed n:=by
   intro n
   induction n with
   | zero=>intro _ _; simp
   | succ n ihn =>
    intro hn hh
    simp only [unl]
    have:=ihn zo (fun i h1 h2=>hh i h1 zo)
    by_cases hmn:m≤n
    ·rw [hh n hmn zo]
     simp
     omega
    ·split <;> omega
  by_cases hdo:∀ i,i < m→listed.getD i false=true
  ·have hf:=hunm ops.size (zNR _) (fun i h1 h2=>by rw [hgd listed i zo]; exact hτ i h1)
   exact draw_chain m (fun i hi e he hb=>by have:=edgesDown_spec hdown i ops[i] (by simp [hi]) e he hb; omega) hseq (ops.size - m) m (fuel+1) listed a w zo (zNR _) zo hsz hdo hτ (hdone listed a w φ hsz hdo r E)
  refine ⟨fun hr=>?_,fun i hi=>?_⟩
  ·have:=hready listed hsz hr m zo
   rw [hgd listed m zo,hτ m (zNR _)] at this
   cases this
  rw [mem_ready] at hi
  obtain ⟨hun,o,ho,hall⟩:=hi
  have hilt:i < ops.size:=(zGS.1 ho).1
  have hun':listed.getD i false=false:=by rw [← hgd listed i zo]; exact hun
  by_cases him:m≤i
  ·exfalso
   have hem:i=m:=by
    apply Classical.byContradiction
    intro hne
    have h4:=zAT.1 hseq i (by simp; omega)
    simp only [Bool.or_eq_true,zDT] at h4
    rcases h4 with h4 | h4
    ·omega
    ·rw [ho] at h4
     simp only [Option.any_some,waits,List.any_eq_true,bae,beq_iff_eq] at h4
     obtain ⟨ed,hed,hb,hon⟩:=h4
     have:=hall ed (by simpa using hed) hb
     rw [hon,hτ (i - 1) zo] at this
     cases this
   subst hem
   have hallm:∀ d j,j+d+1=i→listed.getD j false=true:=by
    intro d
    induction d using Nat.strongRecOn with
    | _ d ihd =>
     intro j hj
     have h1:=zAT.1 hta j (by simp; omega)
     simp only [List.any_eq_true,List.mem_range,bae,zDT] at h1
     obtain ⟨k,hk,hjk,hw⟩:=h1
     cases hok:ops[k]? with
     | none=>rw [hok] at hw; cases hw
     | some ok =>
      rw [hok] at hw
      simp only [Option.any_some,waits,List.any_eq_true,bae,beq_iff_eq] at hw
      obtain ⟨ed,hed,hb,hon⟩:=hw
      by_cases hki:k=i
      ·subst hki
       rw [ho] at hok
       cases hok
       have:=hall ed (by simpa using hed) hb
       rwa [hon] at this
      ·have:=hcl k ok hok (ihd (i - k - 1) zo k zo) ed (by simpa using hed) hb
       rwa [hon] at this
   exact hdo (fun j hj=>hallm (i - j - 1) j zo)
  obtain ⟨e,he⟩:∃ e,es[i]?=some e:=⟨es[i],List.getElem?_eq_getElem zo⟩
  have hkey:∀ (j:Nat) oj ej,ops[j]?=some oj→es[j]?=some ej→j ≠ i→¬ (listed.getD j false=decide (j < i))→oj.apart ops o=true∧footApart (ej.wr.map (·.1),ej.rd) (e.wr.map (·.1),e.rd)=true∨(o.apart ops oj=true∧footApart (e.wr.map (·.1),e.rd) (ej.wr.map (·.1),ej.rd)=true):=by
   intro j oj ej hoj hej hne hdiff
   rcases Nat.lt_or_ge j i with hlt | hge
   ·have:=pairs_spec hpairs j i oj o (ej.wr.map (·.1),ej.rd) (e.wr.map (·.1),e.rd) hlt (by simpa using hoj) (by simpa using ho) (by simp [hej]) (by simp [he])
    rcases this with hw | hap
    ·exfalso
     simp only [Nat.zero_add] at hw
     rcases waits2_spec hw with ⟨ed,hed,hb,hon⟩ | ⟨ed,ok,ed2,hed,hb,hok,hed2,hb2,hon⟩
     ·have:=hall ed hed hb
      rw [hon] at this
      exact hdiff (by rw [this]; simp [hlt])
     ·have:=hcl ed.on ok hok (hall ed hed hb) ed2 hed2 hb2
      rw [hon] at this
      exact hdiff (by rw [this]; simp [hlt])
    ·exact .inl hap
   ·have hij:i < j:=by omega
    have:=pairs_spec hpairs i j o oj (e.wr.map (·.1),e.rd) (ej.wr.map (·.1),ej.rd) hij (by simpa using ho) (by simpa using hoj) (by simp [he]) (by simp [hej])
    rcases this with hw | hap
    ·exfalso
     simp only [Nat.zero_add] at hw
     cases hq:listed.getD j false with
     | true =>
      rcases waits2_spec hw with ⟨ed,hed,hb,hon⟩ | ⟨ed,ok,ed2,hed,hb,hok,hed2,hb2,hon⟩
      ·have:=hcl j oj hoj hq ed hed hb
       rw [hon,hun'] at this
       cases this
      ·have:=hcl ed.on ok hok (hcl j oj hoj hq ed hed hb) ed2 hed2 hb2
       rw [hon,hun'] at this
       cases this
     | false =>
      have h3:¬ j < i:=by omega
      exact hdiff (by rw [hq]; simp [h3])
    ·exact .inr hap
  have hgetT:∀ (j:Nat) t v,((ops.toList.zip es).map fun p=>wT p.1 p.2)[j]?=some (some (t,v))→∃ oj ej,ops[j]?=some oj∧es[j]?=some ej∧oj.dst=some t:=by
   intro j t v hj
   simp only [List.getElem?_map,zMS] at hj
   obtain ⟨p,hp,hw⟩:=hj
   rw [List.getElem?_zip_eq_some] at hp
   refine ⟨p.1,p.2,by simpa using hp.1,hp.2,?_⟩
   unfold wT at hw
   cases hd:p.1.dst with
   | none=>rw [hd] at hw; cases hw
   | some d=>rw [hd] at hw; simp only [Option.map_some,sie,zPJ] at hw; rw [hw.1]
  have hgetH:∀ (j:Nat) b k,(es.map (·.wr))[j]?=some (some (b,k))→∃ oj ej,ops[j]?=some oj∧es[j]?=some ej∧ej.wr=some (b,k):=by
   intro j b k hj
   simp only [List.getElem?_map,zMS] at hj
   obtain ⟨p,hp,hw⟩:=hj
   have hjl:j < ops.size:=by have:=(zLG.1 hp).1; omega
   exact ⟨ops[j],p,Array.getElem?_eq_getElem hjl,hp,hw⟩
  have hstep':=(hstep i o e ho he).loc (T':=vF ((ops.toList.zip es).map fun p=>wT p.1 p.2) (fun j=>listed.getD j false) T0) (h':=vF (es.map (·.wr)) (fun j=>listed.getD j false) h0) (by
   intro t ht
   refine vF_congr _ _ _ _ _ rfl (fun j v hj=>?_)
   obtain ⟨oj,ej,hoj,hej,hdst⟩:=hgetT j t v hj
   apply Classical.byContradiction
   intro hdiff
   by_cases hne:j=i
   ·subst hne; exact hdiff (by rw [hun']; simp)
   ·rcases hkey j oj ej hoj hej hne hdiff with ⟨h1,_⟩ | ⟨h1,_⟩
    ·exact (Oper.apart_spec h1).1 t hdst ht
    ·exact (Oper.apart_spec h1).2.2 t hdst ht) (by
   intro b hb
   refine vF_congr _ _ _ _ _ rfl (fun j k hj=>?_)
   obtain ⟨oj,ej,hoj,hej,hwr⟩:=hgetH j b k hj
   apply Classical.byContradiction
   intro hdiff
   by_cases hne:j=i
   ·subst hne; exact hdiff (by rw [hun']; simp)
   ·rcases hkey j oj ej hoj hej hne hdiff with ⟨_,h1⟩ | ⟨_,h1⟩
    ·simp only [footApart,hwr,Option.map_some,bae,Bool.not_eq_true'] at h1
     have:=h1.1.1
     simp [hb] at this
    ·simp only [footApart,hwr,Option.map_some,bae,Bool.not_eq_true'] at h1
     have:=h1.2
     simp [hb] at this)
  refine hstep'.wp ho r ?_
  intro φ' a' w' r' E'
  have eL:∀ j,(listed.setIfInBounds i true).getD j false=(listed.getD j false||decide (j=i)):=by
   intro j
   by_cases hji:j=i
   ·subst hji
    have:j < listed.size:=by omega
    simp [this]
   ·rw [getD_set_ne false (Ne.symm hji)]
    simp [hji]
  have hT:vF ((ops.toList.zip es).map fun p=>wT p.1 p.2) (fun j=>(listed.setIfInBounds i true).getD j false) T0=upd1 (vF ((ops.toList.zip es).map fun p=>wT p.1 p.2) (fun j=>listed.getD j false) T0) (wT o e):=by
   simp only [eL]
   refine vF_add _ _ _ i (wT o e) ?_ ?_
   ·rw [List.getElem?_map,List.getElem?_zip_eq_some.2 (show ops.toList[i]?=some (o,e).1∧es[i]?=some (o,e).2 from ⟨by simpa using ho,he⟩)]
    rfl
   ·intro b v hbv j u hij hj
    obtain ⟨oj,ej,hoj,hej,hdst⟩:=hgetT j b u hj
    have hodst:o.dst=some b:=by
     unfold wT at hbv
     cases hd:o.dst with
     | none=>rw [hd] at hbv; cases hbv
     | some d=>rw [hd] at hbv; simp only [Option.map_some,sie,zPJ] at hbv; rw [hbv.1]
    cases hq:listed.getD j false with
    | false=>rfl
    | true =>
     exfalso
     rcases hkey j oj ej hoj hej zo (by rw [hq]; simp [show ¬ j < i by omega]) with ⟨h1,_⟩ | ⟨h1,_⟩
     ·exact (Oper.apart_spec h1).2.1 b hdst hodst
     ·exact (Oper.apart_spec h1).2.1 b hodst hdst
  have hH:vF (es.map (·.wr)) (fun j=>(listed.setIfInBounds i true).getD j false) h0=upd1 (vF (es.map (·.wr)) (fun j=>listed.getD j false) h0) e.wr:=by
   simp only [eL]
   refine vF_add _ _ _ i e.wr (by simp [he]) ?_
   intro b k hbk j u hij hj
   obtain ⟨oj,ej,hoj,hej,hwr⟩:=hgetH j b u hj
   cases hq:listed.getD j false with
   | false=>rfl
   | true =>
    exfalso
    rcases hkey j oj ej hoj hej zo (by rw [hq]; simp [show ¬ j < i by omega]) with ⟨_,h1⟩ | ⟨_,h1⟩
    ·simp only [footApart,hwr,hbk,Option.map_some,bae,bne_iff_ne] at h1
     exact h1.1.2 rfl
    ·simp only [footApart,hwr,hbk,Option.map_some,bae,bne_iff_ne] at h1
     exact h1.1.2 rfl
  refine ih (listed.setIfInBounds i true) a' w' φ' (by simpa using hsz) ?_ (fun j hj=>by rw [getD_set_ne false zo]; exact hτ j hj) ?_ (by rw [hT,hH]; exact r') (by rw [hH]; exact E.trans E')
  ·have:=unl_set hun ops.size
   rw [if_pos hilt] at this
   omega
  ·intro j oj hoj hj ed hed hb
   rw [eL] at hj ⊢
   simp only [Bool.or_eq_true,zDT] at hj ⊢
   rcases hj with hj | rfl
   ·exact .inl (hcl j oj hoj hj ed hed hb)
   ·rw [ho] at hoj
    cases hoj
    exact .inl (hall ed hed hb)
def DrRes (N:Nat) (o:Oper) (s:St) (K:St→Prop):Option Res→Prop
 | some u=>dstLt N o.dst=true∧K (s.put o.dst u.1)
 | none=>False
def DrOp (N:Nat) (o:Oper) (s:St) (acc:List Foot) (K:List Foot→St→Prop):Option Res→Prop
 | some u=>dstLt N o.dst=true∧K ((u.2.1.map (·.1),u.2.2) :: acc) (put' s o.dst u)
 | none=>False
def noTC (ops:Array Oper) (s:St):List Oper→Bool
 | []=>true
 | o :: rest=>(noTmpCall o||(yieldOf (look (gMark ops o s.T true)) o.op).isNone)&&rest.all noTmpCall
theorem noTC_all {ops:Array Oper} {s:St} {l:List Oper} (h:l.all noTmpCall=true):noTC ops s l=true:=by
 cases l with
 | nil=>rfl
 | cons o l =>
  simp only [List.all_cons,bae] at h
  simp [noTC,h.1,h.2]
def DrCall (P:Program) (N:Nat) (ops:Array Oper) (Q:AX→St→Prop) (o:Oper) (op:Op) (rest:List Oper) (acc:List Foot) (s0 s:St) (K:St→Prop):Prop :=
 (∃ f args args' x,callOf (look s.T) op=some (f,args)∧bodyOk P f=true∧dstLt N o.dst=true∧les args args'∧noRefs args'=true∧noRef x=true∧PCall P f args' (.ret x)∧K (s.put o.dst x)) ∨
 (rest=[]∧tailAll ops acc.length=true∧commutes ops acc.reverse=true∧ExOp P N o s (Q .normal) Q) ∨
 (tailAll ops acc.length=true∧commutes ops acc.reverse=true∧tailSeq ops acc.length=true∧noTC ops s0 (o :: rest)=true∧ExOps P N ops Q (o :: rest) s0) ∨
 (∃ (f:FuncId) (args:List AV) (τ:List AV→AV),callOf (look s.T) op=some (f,args)∧bodyOk P f=true∧dstLt N o.dst=true∧args.all isSl=true∧(∀ vs:List Value,SlV vs→vs.length=args.length→PCall P f (pvs vs) (.ret (τ (pvs vs))))∧(∀ vs,noRef (τ (pvs vs))=true)∧Tmpl τ∧K (s.put o.dst (τ args)))
def TailQ (P:Program) (N:Nat) (ops:Array Oper) (Q:AX→St→Prop) (o:Oper) (rest:List Oper) (acc:List Foot) (s0:St):Prop :=
 tailAll ops acc.length=true∧commutes ops acc.reverse=true∧tailSeq ops acc.length=true∧noTC ops s0 (o :: rest)=true∧ExOps P N ops Q (o :: rest) s0
def ExDraw (P:Program) (N:Nat) (ops:Array Oper) (Q:AX→St→Prop):List Oper→List Foot→St→Prop
  | [],acc,s=>commutes ops acc.reverse=true∧Q .normal s
  | o :: rest,acc,s =>
    match wantA ops o (look s.T) with
    | some b=>SplitB b
        (match o.op with
         | .pick c x y=>match evO (look (gMark ops o s.T true)) c with
           | some (.p (.val (.bool t)))=>SplitB t (DrRes N o ⟨gMark ops o s.T true,s.H⟩ (ExDraw P N ops Q rest ((none,[]) :: acc)) (aMove (look (gMark ops o s.T true)) x)) (DrRes N o ⟨gMark ops o s.T true,s.H⟩ (ExDraw P N ops Q rest ((none,[]) :: acc)) (aMove (look (gMark ops o s.T true)) y))
           | _=>False
         | .call ⟨.value f,args,ts⟩=>DrCall P N ops Q o (.call ⟨.value f,args,ts⟩) rest acc s ⟨gMark ops o s.T true,s.H⟩ (ExDraw P N ops Q rest ((none,[]) :: acc))
         | .panic x=>rest=[]∧tailAll ops acc.length=true∧commutes ops acc.reverse=true∧ExOp P N o ⟨gMark ops o s.T true,s.H⟩ (Q .normal) Q
         | _=>DrOp N o ⟨gMark ops o s.T true,s.H⟩ acc (ExDraw P N ops Q rest) (aop P o (look (gMark ops o s.T true)) (look s.H))∨TailQ P N ops Q o rest acc s)
        (dstLt N o.dst=true∧ExDraw P N ops Q rest ((none,[]) :: acc) (St.put ⟨gMark ops o s.T false,s.H⟩ o.dst (.p (.val undef))))
    | none=>False
def foot (e:Ev):Foot:=(e.wr.map (·.1),e.rd)
theorem vF_succ {α:Type} (c:Option (Nat × α)) (ws:List (Option (Nat × α))) (i:Nat) (F:Nat→Option α):vF (c :: ws) (fun j=>decide (j < i+1)) F=vF ws (fun j=>decide (j < i)) (upd1 F c):=by
 simp only [vF,Nat.zero_lt_succ,decide_true,if_true]
 congr 1
 funext j
 simp
def StepsOk (P:Program) (N:Nat) (ops:Array Oper) (l:List Oper) (es:List Ev) (T0:Nat→Option AV) (h0:Heap):Prop :=
 ∀ (i:Nat) o e,l[i]?=some o→es[i]?=some e→Step1 P N ops o (vF ((l.zip es).map fun p=>wT p.1 p.2) (fun j=>decide (j < i)) T0) (vF (es.map (·.wr)) (fun j=>decide (j < i)) h0) e
theorem stepsOk_cons {P:Program} {N:Nat} {ops:Array Oper} {o:Oper} {l:List Oper} {e:Ev} {es:List Ev} {T0:Nat→Option AV} {h0:Heap} (h1:Step1 P N ops o T0 h0 e)
  (h2:StepsOk P N ops l es (upd1 T0 (wT o e)) (upd1 h0 e.wr)):StepsOk P N ops (o :: l) (e :: es) T0 h0:=by
 intro i o' e' ho he
 cases i with
 | zero =>
  simp at ho he
  subst ho he
  rw [vF_none _ _ _ zq,vF_none _ _ _ zq]
  exact h1
 | succ i =>
  simp only [List.zip_cons_cons,zMC,vF_succ]
  exact h2 i o' e' (by simpa using ho) (by simpa using he)
theorem look_put' (s:St) (o:Oper) (u:Res):look (put' s o.dst u).T=upd1 (look s.T) (wT o ⟨u.1,u.2.1,u.2.2⟩)∧look (put' s o.dst u).H=upd1 (look s.H) u.2.1:=by
 constructor
 ·unfold put' wT
  cases o.dst <;> rfl
 ·unfold put'
  cases hq:u.2.1 with
  | none=>rfl
  | some bk=>rfl
theorem look_put (s:St) (o:Oper) (e:Ev) (hw:e.wr=none):look (s.put o.dst e.x).T=upd1 (look s.T) (wT o e)∧look (s.put o.dst e.x).H=upd1 (look s.H) e.wr:=by
 rw [hw]
 unfold wT St.put
 cases o.dst <;> exact ⟨rfl,rfl⟩
def RunOk (P:Program) (N:Nat) (ops:Array Oper) (Q:AX→St→Prop) (l:List Oper) (acc:List Foot) (s:St):Prop :=
  (∃ (es:List Ev) (s':St),es.length=l.length∧StepsOk P N ops l es (look s.T) (look s.H)∧commutes ops (acc.reverse++es.map foot)=true ∧
   look s'.T=vF ((l.zip es).map fun p=>wT p.1 p.2) (fun _=>true) (look s.T)∧look s'.H=vF (es.map (·.wr)) (fun _=>true) (look s.H)∧Q .normal s') ∨
  (∃ (pre:List Oper) (o:Oper) (es:List Ev) (s':St),l=pre++[o]∧es.length=pre.length∧StepsOk P N ops l es (look s.T) (look s.H)∧commutes ops (acc.reverse++es.map foot)=true∧tailAll ops (acc.length+pre.length)=true ∧
   look s'.T=vF ((l.zip es).map fun p=>wT p.1 p.2) (fun _=>true) (look s.T)∧look s'.H=vF (es.map (·.wr)) (fun _=>true) (look s.H)∧wantA ops o (look s'.T)=some true∧ExOp P N o s' (Q .normal) Q) ∨
  (∃ (pre:List Oper) (o:Oper) (rest:List Oper) (es:List Ev) (s':St),l=pre++o :: rest∧es.length=pre.length∧StepsOk P N ops l es (look s.T) (look s.H)∧commutes ops (acc.reverse++es.map foot)=true∧tailAll ops (acc.length+pre.length)=true∧tailSeq ops (acc.length+pre.length)=true∧noTC ops s' (o :: rest)=true ∧
   look s'.T=vF ((l.zip es).map fun p=>wT p.1 p.2) (fun _=>true) (look s.T)∧look s'.H=vF (es.map (·.wr)) (fun _=>true) (look s.H)∧ExOps P N ops Q (o :: rest) s')
theorem runOk_congr {P:Program} {N:Nat} {ops:Array Oper} {Q:AX→St→Prop} {l:List Oper} {acc:List Foot} {s s1:St} (hT:look s1.T=look s.T) (hH:look s1.H=look s.H) (h:RunOk P N ops Q l acc s1):RunOk P N ops Q l acc s:=by
 unfold RunOk at h ⊢
 rw [hT,hH] at h
 exact h
theorem exDraw_run {P:Program} {N:Nat} {ops:Array Oper} {Q:AX→St→Prop}:∀ (l:List Oper) (acc:List Foot) (s:St),ExDraw P N ops Q l acc s→RunOk P N ops Q l acc s
  | [],acc,s,h=>.inl ⟨[],s,rfl,fun i o e ho=>by simp at ho,by simpa using h.1,rfl,rfl,h.2⟩
  | o :: l,acc,s,h=>by
    have step:∀ (s:St) (e:Ev) (s1:St),Step1 P N ops o (look s.T) (look s.H) e→look s1.T=upd1 (look s.T) (wT o e)→look s1.H=upd1 (look s.H) e.wr→ExDraw P N ops Q l (foot e :: acc) s1→RunOk P N ops Q (o :: l) acc s:=by
      intro s e s1 hs hT hH hd
      rcases exDraw_run l (foot e :: acc) s1 hd with ⟨es,s',h1,h2,h3,h4,h5,h6⟩ | ⟨pre,o',es,s',h0,h1,h2,h3,h4,h5,h6,h7,h8⟩ | ⟨pre,o',rest,es,s',h0,h1,h2,h3,h4,h4',h4'',h5,h6,h8⟩
      · refine .inl ⟨e :: es,s',by simp [h1],stepsOk_cons hs (by rw [← hT,← hH]; exact h2),by simpa using h3,?_,?_,h6⟩
        · rw [h4,hT]; rfl
        · rw [h5,hH]; rfl
      · refine .inr (.inl ⟨o :: pre,o',e :: es,s',by simp [h0],by simp [h1],stepsOk_cons hs (by rw [← hT,← hH]; exact h2),by simpa using h3,?_,?_,?_,h7,h8⟩)
        · have:(foot e :: acc).length+pre.length=acc.length+(o :: pre).length:=by simp; omega
          rw [← this]; exact h4
        · rw [h5,hT]; rfl
        · rw [h6,hH]; rfl
      · have this:(foot e :: acc).length+pre.length=acc.length+(o :: pre).length:=by simp; omega
        refine .inr (.inr ⟨o :: pre,o',rest,e :: es,s',by simp [h0],by simp [h1],stepsOk_cons hs (by rw [← hT,← hH]; exact h2),by simpa using h3,by rw [← this]; exact h4,by rw [← this]; exact h4',h4'',?_,?_,h8⟩)
        · rw [h5,hT]; rfl
        · rw [h6,hH]; rfl
    have tail:∀ (s:St),wantA ops o (look s.T)=some true→(l=[]∧tailAll ops acc.length=true∧commutes ops acc.reverse=true∧ExOp P N o s (Q .normal) Q)→RunOk P N ops Q (o :: l) acc s:=by
      rintro s hw ⟨h1,h2,h3,h4⟩
      subst h1
      exact .inr (.inl ⟨[],o,[],s,rfl,rfl,fun i o e _ he=>by simp at he,by simpa using h3,by simpa using h2,rfl,rfl,hw,h4⟩)
    have brT:∀ s0 s:St,look s.T=look s0.T→s.H=s0.H→wantA ops o (look s.T)=some true→(match o.op with
         | .pick c x y=>match evO (look s.T) c with
           | some (.p (.val (.bool t)))=>SplitB t (DrRes N o s (ExDraw P N ops Q l ((none,[]) :: acc)) (aMove (look s.T) x)) (DrRes N o s (ExDraw P N ops Q l ((none,[]) :: acc)) (aMove (look s.T) y))
           | _=>False
         | .call ⟨.value f,args,ts⟩=>DrCall P N ops Q o (.call ⟨.value f,args,ts⟩) l acc s0 s (ExDraw P N ops Q l ((none,[]) :: acc))
         | .panic x=>l=[]∧tailAll ops acc.length=true∧commutes ops acc.reverse=true∧ExOp P N o s (Q .normal) Q
         | _=>DrOp N o s acc (ExDraw P N ops Q l) (aop P o (look s.T) (look s.H))∨TailQ P N ops Q o l acc s0)→RunOk P N ops Q (o :: l) acc s:=by
        intro s0 s hT0 hH0 hw g
        split at g
        · rename_i c x y ho
          split at g
          · rename_i t hc
            have hpick:∀ z,DrRes N o s (ExDraw P N ops Q l ((none,[]) :: acc)) (aMove (look s.T) z)→aPick (look s.T) c x y=aMove (look s.T) z→RunOk P N ops Q (o :: l) acc s:=by
              intro z hz hp
              cases hm:aMove (look s.T) z with
              | none=>rw [hm] at hz; exact hz.elim
              | some u =>
                rw [hm] at hz hp
                have hu:u.2=(none,[]):=by
                  unfold aMove at hm
                  split at hm
                  · simp only [sie] at hm; subst hm; rfl
                  · cases hm
                have hop:aop P o (look s.T) (look s.H)=some (u.1,none,[]):=by
                  unfold aop
                  simp only [ho]
                  rw [hp]
                  congr 1
                  rw [← hu]
                have hp2:=look_put s o ⟨u.1,none,[]⟩ rfl
                exact step s ⟨u.1,none,[]⟩ _ ⟨hz.1, .inr (.inl ⟨hw,hop⟩)⟩ hp2.1 hp2.2 hz.2
            refine splitB_elim g (fun ht hz=>hpick x hz ?_) (fun ht hz=>hpick y hz ?_)
            · subst ht; simp [aPick,hc]
            · subst ht; simp [aPick,hc]
          · exact g.elim
        · rename_i f aas ts ho
          rcases g with ⟨f,args,args',x,h1,h2,h3,h4,h5,h6,h7,h8⟩ | h1 | ⟨h1,h2,h3,h4,h5⟩ | ⟨f,args,τ,h1,h2,h3,h8,h4,h5,h6,h7⟩
          · have hp:=look_put s o ⟨x,none,[]⟩ rfl
            exact step s ⟨x,none,[]⟩ _ ⟨h3, .inr (.inr (.inl ⟨hw,f,args,args',by rw [ho]; exact h1,h2,h4,h5,h7,h6,rfl,rfl⟩))⟩ hp.1 hp.2 h8
          · exact tail s hw h1
          · exact .inr (.inr ⟨[],o,l,[],s0,rfl,rfl,fun i o e _ he=>by simp at he,by simpa using h2,by simpa using h1,by simpa using h3,h4,hT0.symm,by rw [hH0]; rfl,h5⟩)
          · have hp:=look_put s o ⟨τ args,none,[]⟩ rfl
            exact step s ⟨τ args,none,[]⟩ _ ⟨h3, .inr (.inr (.inr ⟨hw,f,args,τ,by rw [ho]; exact h1,h2,h8,h4,h5,h6,rfl,rfl,rfl⟩))⟩ hp.1 hp.2 h7
        · exact tail s hw g
        · rcases g with g | ⟨h1,h2,h3,h4,h5⟩
          rotate_left
          · exact .inr (.inr ⟨[],o,l,[],s0,rfl,rfl,fun i o e _ he=>by simp at he,by simpa using h2,by simpa using h1,by simpa using h3,h4,hT0.symm,by rw [hH0]; rfl,h5⟩)
          cases hu:aop P o (look s.T) (look s.H) with
          | none=>rw [hu] at g; exact g.elim
          | some u =>
            rw [hu] at g
            have hp:=look_put' s o u
            exact step s ⟨u.1,u.2.1,u.2.2⟩ _ ⟨g.1, .inr (.inl ⟨hw,hu⟩)⟩ hp.1 hp.2 g.2
    simp only [ExDraw] at h
    split at h
    · rename_i b hw
      refine splitB_elim h (fun hb g=>?_) (fun hb g=>?_)
      · subst hb
        have em:=gMark_look hw
        exact runOk_congr (s1:=⟨gMark ops o s.T true,s.H⟩) em rfl (brT s ⟨gMark ops o s.T true,s.H⟩ em rfl (by show wantA ops o (look (gMark ops o s.T true))=some true; rw [em]; exact hw) g)
      · subst hb
        have em:=gMark_look hw
        refine runOk_congr (s1:=⟨gMark ops o s.T false,s.H⟩) em rfl ?_
        have hp:=look_put ⟨gMark ops o s.T false,s.H⟩ o ⟨.p (.val undef),none,[]⟩ rfl
        exact step ⟨gMark ops o s.T false,s.H⟩ ⟨.p (.val undef),none,[]⟩ _ ⟨g.1, .inl ⟨by show wantA ops o (look (gMark ops o s.T false))=some false; rw [em]; exact hw,rfl⟩⟩ hp.1 hp.2 g.2
    · exact h.elim
theorem noTmp_yield {T:Nat→Option AV} {o:Oper} (h:noTmpCall o=true):yieldOf T o.op=none:=by
 unfold noTmpCall at h
 unfold yieldOf
 split
 ·rename_i ho; rw [ho] at h; cases h
 ·rfl
theorem noTC_yield {ops:Array Oper} {s:St} {o:Oper} (h:(noTmpCall o||(yieldOf (look (gMark ops o s.T true)) o.op).isNone)=true):yieldOf (look (gMark ops o s.T true)) o.op=none:=by
 rcases Bool.or_eq_true _ _ |>.mp h with h | h
 ·exact noTmp_yield h
 ·simpa using h
theorem exOps_seq {P:Program} {N:Nat} {D:DB} {ops:Array Oper} {Q:AX→St→Prop}:∀ (l:List Oper) (k:Nat) (s:St) (φ0:Nat→Nat) (h0:Heap) (w0:World) (φ:Nat→Nat) (M0:Mset) (a:Act) (w:World),
  (∀ j,l[j]?=ops[k+j]?)→noTC ops s l=true→Evol φ0 h0 w0 φ (look s.H) w→Rel φ M0 N D (look s.T) (look s.H) a w→ExOps P N ops Q l s →
  wpOps P ops (Post N D Q φ0 M0 h0 w0) ((List.range l.length).map (k+·)) a w
 | [],k,s,φ0,h0,w0,φ,M0,a,w,hl,hn,E,r,h=>⟨φ, .normal,s,h,r,E,rfl⟩
 | o :: l,k,s,φ0,h0,w0,φ,M0,a,w,hl,hn,E,r,h=>by
  have h1:ops[k]?=some o:=by simpa using (hl 0).symm
  have hr:(List.range (o :: l).length).map (k+·)=k :: (List.range l.length).map (k+1+·):=by
   simp only [zLC,List.range_succ_eq_map,zMC,List.map_map,Nat.add_zero,List.cons.injEq,true_and]
   apply List.map_congr_left
   intro j _
   simp; omega
  rw [hr,wpOps_cons]
  unfold wpOp
  simp only [h1]
  simp only [noTC,bae] at hn
  have hl':∀ j,l[j]?=ops[k+1+j]?:=fun j=>by have:=hl (j+1); rwa [show k+(j+1)=k+1+j from by omega] at this
  simp only [ExOps] at h
  split at h
  ·rename_i b hw
   rw [wantA_ok r hw]
   refine splitB_elim h (fun hb g=>?_) (fun hb g=>?_)
   ·subst hb
    simp only [if_true]
    have em:=gMark_look hw
    have r1:Rel φ M0 N D (look (gMark ops o s.T true)) (look s.H) a w:=by rw [em]; exact r
    rw [noTC_yield hn.1] at g
    refine .inl (Go.Abs.Oper.wp_mono2 (exOp_ok (s:=⟨gMark ops o s.T true,s.H⟩) g r1) ?_ ?_)
    ·rintro a' w' ⟨φ',s',h2,h3,h4⟩
     exact exOps_seq l (k+1) s' φ0 h0 w0 φ' M0 a' w' hl' (noTC_all hn.2) (E.trans h4) h3 h2
    ·intro e a' w' p
     exact p.trans E
   ·subst hb
    simp only [Bool.false_eq_true,if_false]
    have em:=gMark_look hw
    have r1:Rel φ M0 N D (look (gMark ops o s.T false)) (look s.H) a w:=by rw [em]; exact r
    refine exOps_seq l (k+1) _ φ0 h0 w0 φ M0 _ w hl' (noTC_all hn.2) ?_ (Rel.put (s:=⟨gMark ops o s.T false,s.H⟩) r1 (dstLt_spec g.1) (by simp [RepA,RepP])) g.2
    cases o.dst <;> exact E
  ·exact h.elim
theorem exDraw_any {P:Program} {N:Nat} {ops:Array Oper} {s:St} {Q:AX→St→Prop} (h:ExDraw P N ops Q ops.toList [] s) {φ:Nat→Nat} {M0:Mset} {D:DB} {a:Act} {w:World} (r:Rel φ M0 N D (look s.T) (look s.H) a w) :
  wpAny P .any ops (Post N D Q φ M0 (look s.H) w) ops.size (Array.replicate ops.size false) a { w with drawn:=w.drawn+1 }:=by
 have hd:Evol φ (look s.H) w φ (look s.H) { w with drawn:=w.drawn+1 }:=evol_heap rfl rfl rfl rfl
 have r1:Rel φ M0 N D (look s.T) (look s.H) a { w with drawn:=w.drawn+1 }:=r.keep hd (hext_heap rfl) (relH_heap (w:=w) rfl hd r.hp)
 have hlf:∀ (j:Nat),(Array.replicate ops.size false).getD j false=false:=by
  intro j
  rcases Nat.lt_or_ge j ops.size with h | h
  ·simp [h]
  ·simp [h]
 have hunl:∀ n,unl (Array.replicate ops.size false) n≤n:=by
  intro n
  induction n with
  | zero=>simp [unl]
  | succ n ih=>simp only [unl]; split <;> omega
 rcases exDraw_run _ _ _ h with ⟨es,s',h1,h2,h3,h4,h5,h6⟩ | ⟨pre,o,es,s',h0,h1,h2,h3,h4,h5,h6,h7,h8⟩ | ⟨pre,o,rest,es,s',h0,h1,h2,h3,h4,h4',h4'',h5,h6,h8⟩
 ·refine draw_any (D:=D) (T0:=look s.T) (h0:=look s.H) (φ0:=φ) (w0:=w) (M0:=M0) (N:=N) es (by simpa using h1) (fun i o e ho he=>h2 i o e (by simpa using ho) he) (by show commutes ops (es.map foot)=true; simpa using h3) ?_ ops.size _ a _ φ zq (hunl _) (fun j o _ hj=>by rw [hlf] at hj; cases hj) ?_ ?_
  ·intro φ' a' w' r' E'
   rw [← h4,← h5] at r'
   rw [← h5] at E'
   exact ⟨φ', .normal,s',h6,r',E',rfl⟩
  ·rw [vF_none _ _ _ (fun j _=>hlf j),vF_none _ _ _ (fun j _=>hlf j)]; exact r1
  ·rw [vF_none _ _ _ (fun j _=>hlf j)]; exact hd
 ·have hsz:ops.size=pre.length+1:=by have:=congrArg List.length h0; simpa using this
  have hom:ops[pre.length]?=some o:=by
   have:ops.toList[pre.length]?=some o:=by rw [h0]; simp
   simpa using this
  have hts:tailSeq ops pre.length=true:=by
   unfold tailSeq
   rw [zAT]
   intro k hk
   simp only [List.mem_range,Bool.or_eq_true,zDT] at hk ⊢
   exact .inl zo
  refine draw_tail (D:=D) (T0:=look s.T) (h0:=look s.H) (φ0:=φ) (w0:=w) (M0:=M0) (N:=N) es pre.length zo h1 (fun i o e ho he=>h2 i o e (by simpa using ho) he) (by show commutes ops (es.map foot)=true; simpa using h3) (by simpa using h4) hts ?_ ops.size _ a _ φ zq (hunl _) (fun j _=>hlf j) (fun j o _ hj=>by rw [hlf] at hj; cases hj) ?_ ?_
  ·intro φ' a' w' r' E'
   rw [← h5,← h6] at r'
   rw [← h6] at E'
   rw [show ops.size - pre.length=1 from by omega]
   show wpOps _ _ _ [pre.length+0] _ _
   rw [wpOps_cons,Nat.add_zero]
   unfold wpOp
   simp only [hom,wantA_ok r' h7,if_true]
   refine .inl (Go.Abs.Oper.wp_mono2 (exOp_ok h8 r') ?_ ?_)
   ·rintro a'' w'' ⟨φ'',s'',g1,g2,g3⟩
    exact ⟨φ'', .normal,s'',g1,g2,E'.trans g3,rfl⟩
   ·intro e a'' w'' p
    exact p.trans E'
  ·rw [vF_none _ _ _ (fun j _=>hlf j),vF_none _ _ _ (fun j _=>hlf j)]; exact r1
  ·rw [vF_none _ _ _ (fun j _=>hlf j)]; exact hd
 ·have hsz:ops.size=pre.length+(rest.length+1):=by have:=congrArg List.length h0; simpa using this
  refine draw_tail (D:=D) (T0:=look s.T) (h0:=look s.H) (φ0:=φ) (w0:=w) (M0:=M0) (N:=N) es pre.length zo h1 (fun i o e ho he=>h2 i o e (by simpa using ho) he) (by show commutes ops (es.map foot)=true; simpa using h3) (by simpa using h4) (by simpa using h4') ?_ ops.size _ a _ φ zq (hunl _) (fun j _=>hlf j) (fun j o _ hj=>by rw [hlf] at hj; cases hj) ?_ ?_
  ·intro φ' a' w' r' E'
   rw [← h5,← h6] at r'
   rw [← h6] at E'
   have:=exOps_seq (o :: rest) pre.length s' φ (look s.H) w φ' M0 a' w' (fun j=>by
    have e1:ops[pre.length+j]?=ops.toList[pre.length+j]?:=by simp
    rw [e1,h0,List.getElem?_append_right zo]
    congr 1
    omega) h4'' E' r' h8
   rw [show ops.size - pre.length=(o :: rest).length from by simp; omega]
   exact this
  ·rw [vF_none _ _ _ (fun j _=>hlf j),vF_none _ _ _ (fun j _=>hlf j)]; exact r1
  ·rw [vF_none _ _ _ (fun j _=>hlf j)]; exact hd
theorem ex_draw {P:Program} {N:Nat} {ro:Option Nat} {id:Nat} {ops:Array Oper} {s:St} {Q:AX→St→Prop} (hm:P.follows .mixedOrders=true) (hnd:noDefer ops=true) (h:ExDraw P N ops Q ops.toList [] s):Ex P N ro (.region id ops true) s Q :=
 fun _ _ _ _ _ r=>wpIn_region_any hm (any_in hnd post_not_out _ _ _ _ (exDraw_any h r))
def argsT:Nat→List AV→List (Nat × AV)
 | _,[]=>[]
 | k,x :: xs=>(k,x) :: argsT (k+1) xs
theorem look_argsT:∀ (xs:List AV) (k t:Nat) (x:AV),look (argsT k xs) t=some x→k≤t∧xs[t - k]?=some x
 | [],k,t,x,h=>by simp [argsT,look] at h
 | y :: xs,k,t,x,h=>by
  simp only [argsT,look] at h
  by_cases e:k=t
  ·subst e
   simp at h
   subst h
   simp
  ·simp only [e,if_false] at h
   obtain ⟨h1,h2⟩:=look_argsT xs (k+1) t x h
   refine ⟨by omega,?_⟩
   have:t - k=(t - (k+1))+1:=by omega
   rw [this]
   simpa using h2
def resV (P:Program) (T:Nat→Option AV) (h:Heap):ResultVar→Option AV
 | .tmp t=>T t
 | .cell t ty=>match aLoad P T h ty (.tmp t) with | some u=>some u.1 | none=>none
def resVs (P:Program) (T:Nat→Option AV) (h:Heap):List ResultVar→Option (List AV)
 | []=>some []
 | x :: xs=>match resV P T h x,resVs P T h xs with | some v,some vs=>some (v :: vs) | _,_=>none
def resA (P:Program) (fn:Func) (T:Nat→Option AV) (h:Heap):Option AV :=
 match resVs P T h fn.results.toList with
 | some [x]=>some x
 | some xs=>some (.tup xs)
 | none=>none
theorem loadAt_loadVar {P:Program} {ty:TypeId} {v:Value} {w w':World} {x:Value} (h:(Instr.loadAt ty v).run P w=.ok x w'):(do loadVar ty (← asAddr v):Sem Value).run P w=.ok x w':=by
 cases v with
 | pointer q =>
  cases q with
  | none=>simp [Instr.loadAt,Instr.sureAddr,stuck] at h
  | some a=>simpa [Instr.loadAt,Instr.sureAddr,asAddr] using h
 | _=>simp [Instr.loadAt,Instr.sureAddr,stuck] at h
def resM (tmps:Array Value):ResultVar→Sem Value
 | .tmp t=>pure (tmps.getD t undef)
 | .cell t ty=>do loadVar ty (← asAddr (tmps.getD t undef))
theorem resV_ok {P:Program} {φ:Nat→Nat} {M0:Mset} {N:Nat} {D:DB} {T:Nat→Option AV} {h:Heap} {a:Act} {w:World} (r:Rel φ M0 N D T h a w) {x:ResultVar} {v:AV} (he:resV P T h x=some v) :
  ∃ y,(resM a.tmps x).run P w=.ok y w∧RepA φ h w (MM φ h M0) v y:=by
 cases x with
 | tmp t=>exact ⟨_,rfl,(r.tm t v he).2⟩
 | cell t ty =>
  simp only [resV] at he
  split at he
  ·rename_i u hu
   simp only [sie] at he
   subst he
   obtain ⟨_,y,h1,h2⟩:=load_run (P:=P) r hu
   exact ⟨y,loadAt_loadVar h1,h2⟩
  ·cases he
theorem resVs_ok {P:Program} {φ:Nat→Nat} {M0:Mset} {N:Nat} {D:DB} {T:Nat→Option AV} {h:Heap} {a:Act} {w:World} (r:Rel φ M0 N D T h a w):∀ {l:List ResultVar} {vs:List AV},resVs P T h l=some vs →
  ∃ ys,(l.mapM (resM a.tmps)).run P w=.ok ys w∧RepAs φ h w (MM φ h M0) vs ys
 | [],vs,he=>by simp only [resVs,sie] at he; subst he; exact ⟨[],by simp,by simp [RepAs]⟩
 | x :: l,vs,he=>by
  simp only [resVs] at he
  split at he
  ·rename_i v vs' h1 h2
   simp only [sie] at he
   subst he
   obtain ⟨y,g1,g2⟩:=resV_ok r h1
   obtain ⟨ys,g3,g4⟩:=resVs_ok r h2
   exact ⟨y :: ys,by simp [List.mapM_cons,g1,g3],by simp only [RepAs]; exact ⟨y,ys,rfl,g2,g4⟩⟩
  ·cases he
theorem resA_ok {P:Program} {fn:Func} {φ:Nat→Nat} {M0:Mset} {N:Nat} {D:DB} {T:Nat→Option AV} {h:Heap} {a:Act} {w:World} (r:Rel φ M0 N D T h a w) {x:AV} (he:resA P fn T h=some x) :
  ∃ v,(results fn a.tmps).run P w=.ok v w∧RepA φ h w (MM φ h M0) x v:=by
 have hrun:∀ ys:List Value,(fn.results.toList.mapM (resM a.tmps)).run P w=.ok ys w→(results fn a.tmps).run P w=.ok (if hh:ys.toArray.size=1 then ys.toArray[0] else .tuple ys.toArray) w:=by
  intro ys hy
  have e1:fn.results.mapM (resM a.tmps)=Functor.map List.toArray (fn.results.toList.mapM (resM a.tmps)):=Array.mapM_eq_mapM_toList ..
  have e2:results fn a.tmps=(do let vs ← fn.results.mapM (resM a.tmps); pure (if hh:vs.size=1 then vs[0] else .tuple vs)):=by
   unfold results
   congr 1
  rw [e2]
  simp only [Sem.run_bind,e1,Sem.run_map,hy,Result.andThen_ok,Sem.run_pure]
 unfold resA at he
 split at he
 ·rename_i y hy
  simp only [sie] at he
  subst he
  obtain ⟨ys,g1,g2⟩:=resVs_ok r hy
  simp only [RepAs] at g2
  obtain ⟨v,vs,rfl,h1,rfl⟩:=g2
  exact ⟨v,by rw [hrun _ g1]; simp,h1⟩
 ·rename_i xs hne hxs
  simp only [sie] at he
  subst he
  obtain ⟨ys,g1,g2⟩:=resVs_ok r hxs
  have hl:=repAs_length g2
  have hn1:¬ ys.toArray.size=1:=by
   intro h1
   simp only [List.size_toArray] at h1
   rw [h1] at hl
   match xs,hl with
   | [x],_=>exact hne x rfl
  refine ⟨.tuple ys.toArray,by rw [hrun _ g1,dif_neg hn1],?_⟩
  simp only [RepA]
  exact ⟨ys,rfl,g2⟩
 ·cases he
def RCall (P:Program) (f:FuncId) (args:List AV) (R:AEnd→Prop):Prop:=ACall P f args emp fun r h'=>R r∧h'=emp
def pureQ (P:Program) (fn:Func) (R:AEnd→Prop):AX→St→Prop
 | .ret,s=>∃ x y,resA P fn (look s.T) (look s.H)=some x∧le x y∧noRef y=true∧R (.ret y)
 | .normal,s=>∃ x y,resA P fn (look s.T) (look s.H)=some x∧le x y∧noRef y=true∧R (.ret y)
 | .panic x,s=>noRef x=true∧R (.panic x)
 | .exit _,_=>False
theorem evol_drop {φ φ':Nat→Nat} {h:Heap} {w w':World} (E:Evol φ emp w φ' h w'):Evol φ emp w φ' emp w' :=
 ⟨E.os,E.tape,E.output,E.size,E.um,E.same,E.cell,fun _ _ _ x=>absurd x not_mut_emp,(fun _ _ _ _ x=>by cases x),(fun _ _ _ _ _ x=>by cases x),(fun _ _ _ _ _ x=>by cases x),(fun _ _ _ _ x=>by cases x)⟩
structure Turned (ms:List Nat) (w w':World):Prop where
 os:w'.os=w.os
 tape:w'.tape=w.tape
 output:w'.output=w.output
 size:w'.heap.size=w.heap.size
 same:∀ k,k ∉ ms→w'.heap[k]?=w.heap[k]?
 turn:∀ k,k ∈ ms→w'.heap[k]?=some (.deferred none)
def LeavesW (P:Program) (fn:Func) (tmps:Array Value) (R:Ending→World→Prop):List Deferred→FrameMode→World→Prop
  | [],u,w=>Leaves P fn tmps R [] u w
  | d :: ds,u,w=>u ≠ .run ∧
      ((∃ r w',d.target=.collected r∧(Instr.takeDeferred r).run P w=.ok [] w'∧LeavesW P fn tmps R ds u w') ∨
       (∃ fv cap f args,d.target=.fn fv cap∧(invoke d.target d.args).run P w=.ok (.enter f args) w ∧
        CallsD P f args u w fun
          | .returned _,u',w'=>LeavesW P fn tmps R ds (settle u') w'
          | .panicked chain,u',w'=>LeavesW P fn tmps R ds (raised u' chain) w'
          | .outgrown,_,w'=>R .outgrown w'))
theorem leavesW_steps {P:Program} {fn:Func} {tmps:Array Value} {R:Ending→World→Prop}:∀ (ds:List Deferred) (u:FrameMode) (w:World) (fr:Frame)
  (cs:List Frame),fr.mode=u→fr.defers=ds→fr.tmps=tmps→P.funcs[fr.fn]?=some fn→fr.kind=.normal→LeavesW P fn tmps R ds u w →
  ∃ e w' fr',R e w'∧Comes P (lone fr cs w) (lone fr' cs w') e∧fr'.fn=fr.fn∧fr'.leaving P w' e:=by
 intro ds
 induction ds with
 | nil=>exact fun u w fr cs hu hd ht hf hk h=>leaves_steps [] u w fr cs hu hd ht hf hk h
 | cons d ds ih =>
  intro u w fr cs hu hd ht hf hk h
  obtain ⟨hrun,h⟩:=h
  rcases h with ⟨r,w',htar,htake,hrest⟩ | ⟨fv,cap,f,args,htar,hinv,hcall⟩
  ·have h1:=step_collected (cs:=cs) (hu ▸ hrun) hd htar htake
   obtain ⟨e',w'',fr',hR',hs',hfn',hl'⟩:=ih u w' { fr with defers:=[]++ds } cs hu rfl ht hf hk hrest
   exact ⟨e',w'',fr',hR',Comes.of_steps (.one h1) hs',hfn',hl'⟩
  ·have h1:=step_defer (cs:=cs) (hu ▸ hrun) hd htar hinv
   obtain ⟨e,u',w',frX,hR,hsteps,hkX,hgo⟩:=hcall { fr with defers:=ds } cs hu
   cases e with
   | outgrown=>exact ⟨.outgrown,w',fr,hR,Outgrown.of_steps (.one h1) hsteps,rfl,trivial⟩
   | returned v =>
    have h2:=step_going_returned (c:={ { fr with defers:=ds } with mode:=u' }) (cs:=cs) hkX hgo
    obtain ⟨e',w'',fr',hR',hs',hfn',hl'⟩:=ih (settle u') w' { { { fr with defers:=ds } with mode:=u' } with mode:=settle u' } cs rfl rfl ht hf hk hR
    exact ⟨e',w'',fr',hR',Comes.of_steps (.head h1 (Steps.trans hsteps (.one h2))) hs',hfn',hl'⟩
   | panicked chain =>
    have h2:=step_going_panicked (c:={ { fr with defers:=ds } with mode:=u' }) (cs:=cs) hgo
    obtain ⟨e',w'',fr',hR',hs',hfn',hl'⟩:=ih (raised u' chain) w' { { { fr with defers:=ds } with mode:=u' } with mode:=raised u' chain } cs rfl rfl ht hf hk hR
    exact ⟨e',w'',fr',hR',Comes.of_steps (.head h1 (Steps.trans hsteps (.one h2))) hs',hfn',hl'⟩
def bodyPostW (P:Program) (fn:Func) (R:Ending→World→Prop):Exit→Act→World→Prop
 | .normal,a,w | .ret,a,w=>LeavesW P fn a.tmps R a.defers .returning w
 | .panic chain,a,w=>LeavesW P fn a.tmps R a.defers (.panicking chain) w
 | .outgrown,_,w=>R .outgrown w
 | _,_,_=>False
theorem calls_of_wpW {P:Program} {f:FuncId} {fn:Func} {c:Code} {args:Array Value} {w:World} {R:Ending→World→Prop} (hf:P.funcs[f]?=some fn) (hb:fn.body=some c)
  (h:c.wpIn (wd none) 0 P (bodyPostW P fn R) { tmps:=args++Array.replicate (fn.ntmps - args.size) undef,defers:=[] } w):Calls P f args w R:=by
 have h:=wpIn_wide.1 h
 intro cs
 let b:Frame:={ (default:Frame) with fn:=f,kind:=.normal }
 have henter:Frame.enter P f args .normal=b.at { tmps:=args++Array.replicate (fn.ntmps - args.size) undef,defers:=[] } [.code c]:=by
  simp [Frame.enter,Frame.at,hf,hb,b]
 obtain ⟨e,a',w',hq,harr⟩:=h b [] cs
 rw [← henter] at harr
 cases e with
 | normal =>
  obtain ⟨e',w'',fr',hR,hs,hfn,hl⟩:=leavesW_steps a'.defers .returning w' { b.at a' [] with mode:=.returning } cs rfl rfl rfl hf rfl hq
  exact ⟨e',w'',fr',hR,Comes.of_steps (Steps.trans harr (.one step_end)) hs,hfn,hl⟩
 | ret =>
  obtain ⟨todo,hs₀⟩:=harr
  obtain ⟨e',w'',fr',hR,hs,hfn,hl⟩:=leavesW_steps a'.defers .returning w' { b.at a' todo with mode:=.returning } cs rfl rfl rfl hf rfl hq
  exact ⟨e',w'',fr',hR,Comes.of_steps hs₀ hs,hfn,hl⟩
 | panic chain =>
  obtain ⟨todo,hs₀⟩:=harr
  obtain ⟨e',w'',fr',hR,hs,hfn,hl⟩:=leavesW_steps a'.defers (.panicking chain) w' { b.at a' todo with mode:=.panicking chain } cs rfl rfl rfl hf rfl hq
  exact ⟨e',w'',fr',hR,Comes.of_steps hs₀ hs,hfn,hl⟩
 | exit id=>exact hq.elim
 | goto l=>exact hq.elim
 | outgrown=>exact ⟨.outgrown,w',b,hq,harr.resolve_left (by simp [b]),rfl,trivial⟩
theorem leavesM' {P:Program} {fn:Func} {tmps:Array Value} {R:Ending→World→Prop} {u:FrameMode} (hu:u ≠ .run) (ds:List Deferred):∀ (ms:List Nat) (w:World),ms.Nodup→(∀ r ∈ ms,w.heap[r]?=some (.deferred (some []))) →
  (∀ w',Turned ms w w'→LeavesW P fn tmps R ds u w')→LeavesW P fn tmps R ((ms.map fun r=>({ target:=.collected r,args:=#[] }:Deferred))++ds) u w
 | [],w,_,_,h=>h w ⟨rfl,rfl,rfl,rfl,fun _ _=>rfl,fun k hk=>by cases hk⟩
 | r :: ms,w,hn,hb,h=>by
  have h0:=hb r zq
  have hlt:r < w.heap.size:=(zGS.1 h0).1
  let w1:World:=w.putObj r (.deferred none)
  have hw1:∀ k:Nat,w1.heap[k]?=(w.heap.setIfInBounds r (.deferred none))[k]?:=fun k=>rfl
  have hrun:(Instr.takeDeferred r).run P w=.ok [] w1:=run_takeDeferred h0
  refine ⟨hu, .inl ⟨r,w1,rfl,hrun,leavesM' hu ds ms w1 (List.nodup_cons.1 hn).2 ?_ ?_⟩⟩
  ·intro k hk
   have:r ≠ k:=fun e=>(List.nodup_cons.1 hn).1 (e ▸ hk)
   rw [hw1,Array.getElem?_setIfInBounds_ne this]
   exact hb k (by simp [hk])
  ·intro w' t
   refine h w' ⟨t.os,t.tape,t.output,by rw [t.size]; simp [w1,World.putObj],fun k hk=>?_,fun k hk=>?_⟩
   ·simp only [List.mem_cons,not_or] at hk
    rw [t.same k hk.2,hw1,Array.getElem?_setIfInBounds_ne (Ne.symm hk.1)]
   ·rcases List.mem_cons.1 hk with e | e
    ·subst e
     rw [t.same k (List.nodup_cons.1 hn).1,hw1]
     simp [hlt]
    ·exact t.turn k e
theorem leavesM {P:Program} {fn:Func} {tmps:Array Value} {R:Ending→World→Prop} {u:FrameMode} (hu:u ≠ .run) (ms:List Nat) (w:World) (hn:ms.Nodup) (hb:∀ r ∈ ms,w.heap[r]?=some (.deferred (some [])))
  (h:∀ w',Turned ms w w'→Leaves P fn tmps R [] u w'):LeavesW P fn tmps R (ms.map fun r=>({ target:=.collected r,args:=#[] }:Deferred)) u w:=by
 have:=leavesM' (P:=P) (fn:=fn) (tmps:=tmps) (R:=R) hu [] ms w hn hb h
 simpa using this
theorem Rel.turned {φ:Nat→Nat} {M0:Mset} {N:Nat} {D:DB} {T:Nat→Option AV} {h:Heap} {a:Act} {w w':World} {ms:List Nat} (r:Rel φ M0 N D T h a w) (t:Turned ms w w')
  (hm:∀ r ∈ ms,w.heap[r]?=some (.deferred (some []))∧∀ b,h b ≠ none→φ b ≠ r):Rel φ M0 N ⟨[],0⟩ T h { a with defers:=[] } w':=by
 have hold:∀ b k,h b=some k→w'.heap[φ b]?=w.heap[φ b]?:=fun b k hb=>t.same _ fun hx=>(hm _ hx).2 b (by rw [hb]; simp) rfl
 have X:HExt φ h w φ h w':=⟨fun _ _ _ x=>⟨⟨_,_,x⟩,rfl⟩,fun b ty S n x=>⟨_,x,zNR _,fun _=>akept (rfl) (by rw [hold _ _ x])⟩,
  fun b ty S n x=>⟨_,x,zNR _,fun _=>⟨rfl,fun c hc=>⟨c,by rw [hold _ _ x]; exact hc,rfl⟩⟩⟩,fun _ _ _ h1 h2=>⟨⟨_,h1,h2⟩,rfl⟩⟩
 have hk:∀ r o v,w.cell? ⟨r,o,none⟩=some v→¬ MM φ h M0 r o→w'.cell? ⟨r,o,none⟩=some v∧¬ MM φ h M0 r o∧(Unm w r→Unm w' r):=by
  intro x o v h1 h2
  have:x ∉ ms:=fun hx=>by
   have:=(hm x hx).1
   simp [World.cell?,this] at h1
  refine ⟨?_,h2,fun hu=>hu.eq (t.same x this)⟩
  rw [← h1]
  simp [World.cell?,t.same x this]
 refine ⟨⟨Nat.zero_le _,[],rfl,List.nodup_nil,fun r hr=>by cases hr⟩,r.siz,⟨r.hp.inj,fun b k hb=>relB_keep hk X (hold b k hb) (r.hp.blk b k hb),r.hp.fr,fun x o hx=>by rw [t.size]; exact r.hp.lt x o hx,gmW_keep (fun g hg=>t.same g fun hx=>gmW_nd r.hp.gm.w g hg _ (hm g hx).1) r.hp.gm.w,r.hp.gm.m⟩,
  fun x y hx=>⟨(r.tm x y hx).1,(repA_keep hk X).1 _ _ (r.tm x y hx).2⟩⟩
theorem repA_turned {φ:Nat→Nat} {M0:Mset} {h:Heap} {w w':World} {ms:List Nat} (t:Turned ms w w') (hm:∀ r ∈ ms,w.heap[r]?=some (.deferred (some []))∧∀ b,h b ≠ none→φ b ≠ r) (x:AV) (v:Value)
  (hv:RepA φ h w (MM φ h M0) x v):RepA φ h w' (MM φ h M0) x v:=by
 have hold:∀ b k,h b=some k→w'.heap[φ b]?=w.heap[φ b]?:=fun b k hb=>t.same _ fun hx=>(hm _ hx).2 b (by rw [hb]; simp) rfl
 have X:HExt φ h w φ h w':=⟨fun _ _ _ x=>⟨⟨_,_,x⟩,rfl⟩,fun b ty S n x=>⟨_,x,zNR _,fun _=>akept (rfl) (by rw [hold _ _ x])⟩,
  fun b ty S n x=>⟨_,x,zNR _,fun _=>⟨rfl,fun c hc=>⟨c,by rw [hold _ _ x]; exact hc,rfl⟩⟩⟩,fun _ _ _ h1 h2=>⟨⟨_,h1,h2⟩,rfl⟩⟩
 have hn:∀ r o v,w.cell? ⟨r,o,none⟩=some v→r ∉ ms:=fun r o v h1 hx=>by
  have:=(hm r hx).1
  simp [World.cell?,this] at h1
 refine (repA_keep (fun r o v h1 h2=>⟨?_,h2,fun hu=>hu.eq (t.same r (hn r o v h1))⟩) X).1 _ _ hv
 rw [← h1]
 simp [World.cell?,t.same r (hn r o v h1)]
theorem Evol.turned {φ φ':Nat→Nat} {h h':Heap} {w w' w'':World} {ms:List Nat} (E:Evol φ h w φ' h' w') (t:Turned ms w' w'') (hnew:∀ r ∈ ms,w.heap.size≤r)
  (hm:∀ r ∈ ms,w'.heap[r]?=some (.deferred (some []))∧∀ b,h' b ≠ none→φ' b ≠ r):Evol φ h w φ' h' w'':=by
 have hold:∀ r,r < w.heap.size→w''.heap[r]?=w'.heap[r]?:=fun r hr=>t.same r fun hx=>by have:=hnew r hx; omega
 have hold2:∀ b k,h' b=some k→w''.heap[φ' b]?=w'.heap[φ' b]?:=fun b k hb=>t.same _ fun hx=>(hm _ hx).2 b (by rw [hb]; simp) rfl
 refine ⟨t.os.trans E.os,t.tape.trans E.tape,t.output.trans E.output,by rw [t.size]; exact E.size,fun r hr hu=>(E.um r hr hu).eq (hold r hr),fun r hr hno=>(hold r hr).trans (E.same r hr hno),fun r o hr hm=>?_,E.mu,E.kb,?_,?_,E.ko⟩
 ·rw [← E.cell r o hr hm]; simp [World.cell?,hold r hr]
 ·intro b ty S n hb hx
  obtain ⟨n',h1,h2,h3⟩:=E.kt b ty S n hb hx
  refine ⟨n',h1,h2,fun e=>⟨fun h=>by rw [hold2 b _ h1]; exact (h3 e).1 h,(h3 e).2.imp (fun h=>h) fun h3=>⟨h3.1,fun c hc=>?_⟩⟩⟩
  obtain ⟨c',h4,h5⟩:=h3.2 c hc
  exact ⟨c',by rw [← h3.1,hold2 b _ h1,h3.1]; exact h4,h5⟩
 ·intro b ty S n hb hx
  obtain ⟨n',h1,h2,h3⟩:=E.kv b ty S n hb hx
  refine ⟨n',h1,h2,fun e=>⟨(h3 e).1,fun c hc=>?_⟩⟩
  obtain ⟨c',h4,h5⟩:=(h3 e).2 c hc
  exact ⟨c',by rw [← (h3 e).1,hold2 b _ h1,(h3 e).1]; exact h4,h5⟩
def Out (R:AEnd→Heap→Prop) (φ:Nat→Nat) (h:Heap) (w:World) (M0:Mset) (e:Ending) (w':World):Prop :=
 ∃ φ' r h',R r h'∧RelH φ' h' w' M0∧Evol φ h w φ' h' w'∧RepE φ' h' w' (MM φ' h' M0) r e
theorem entry_rel {φ:Nat→Nat} {M0:Mset} {n:Nat} {h:Heap} {args:List AV} {vs:List Value} {w:World} (hH:RelH φ h w M0) (ha:RepAs φ h w (MM φ h M0) args vs) (hl:args.length≤n) :
  Rel φ M0 n ⟨[],w.heap.size⟩ (look (argsT 0 args)) h { tmps:=vs.toArray++Array.replicate (n - vs.toArray.size) undef,defers:=[] } w:=by
 have hlen:=repAs_length ha
 refine ⟨⟨zNR _,[],rfl,List.nodup_nil,fun r hr=>by cases hr⟩,by simp; omega,hH,fun t x ht=>?_⟩
 obtain ⟨_,h2⟩:=look_argsT args 0 t x ht
 simp only [Nat.sub_zero] at h2
 have hlt:t < args.length:=(zLG.1 h2).1
 obtain ⟨v,h3,h4⟩:=repAs_get ha h2
 refine ⟨by omega,?_⟩
 have:(vs.toArray++Array.replicate (n - vs.toArray.size) undef).getD t undef=v:=by
  rw [Array.getD_eq_getD_getElem?,Array.getElem?_append_left (by simp; omega)]
  simp [h3]
 rw [this]
 exact h4
theorem calls_of_ex {P:Program} {f:FuncId} {fn:Func} {c:Code} {args:List AV} {vs:List Value} {φ:Nat→Nat} {M0:Mset} {h:List (Nat × Blk)} {w:World} {R:AEnd→Heap→Prop} {Q:AX→St→Prop} (hf:P.funcs[f]?=some fn) (hb:fn.body=some c)
  (hl:args.length≤fn.ntmps) (hH:RelH φ (look h) w M0) (ha:RepAs φ (look h) w (MM φ (look h) M0) args vs) (hx:Ex P fn.ntmps none c ⟨argsT 0 args,h⟩ Q)
  (hret:∀ x s φ' a w',Q x s→x=.normal∨x=.ret→Rel φ' M0 fn.ntmps ⟨[],0⟩ (look s.T) (look s.H) a w'→Evol φ (look h) w φ' (look s.H) w'→∃ v,(results fn a.tmps).run P w'=.ok v w'∧Out R φ (look h) w M0 (.returned v) w')
  (hpan:∀ x s φ' a w' v,Q (.panic x) s→Rel φ' M0 fn.ntmps ⟨[],0⟩ (look s.T) (look s.H) a w'→Evol φ (look h) w φ' (look s.H) w'→RepA φ' (look s.H) w' (MM φ' (look s.H) M0) x v→Out R φ (look h) w M0 (.panicked [{ v:=v,recovered:=false }]) w')
  (hexit:∀ i s,¬ Q (.exit i) s):Calls P f vs.toArray w (Out R φ (look h) w M0):=by
 refine calls_of_wpW hf hb (wpIn_mono (hx φ M0 _ _ w (entry_rel hH ha hl)) ?_)
 rintro e a' w' ⟨φ',k,s',h1,h2,h3,h4⟩
 obtain ⟨hbase,ms,hd,hnd,hms⟩:=h2.dfs
 have hd':a'.defers=ms.map fun r=>({ target:=.collected r,args:=#[] }:Deferred):=by rw [hd]; simp
 have hm2:∀ r ∈ ms,w'.heap[r]?=some (.deferred (some []))∧∀ b,look s'.H b ≠ none→φ' b ≠ r:=fun r hr=>(hms r hr).2
 have go:∀ (u:FrameMode),u ≠ .run→(∀ w'',Turned ms w' w''→Rel φ' M0 fn.ntmps ⟨[],0⟩ (look s'.T) (look s'.H) { a' with defers:=[] } w''→Evol φ (look h) w φ' (look s'.H) w''→Leaves P fn a'.tmps (Out R φ (look h) w M0) [] u w'') →
   LeavesW P fn a'.tmps (Out R φ (look h) w M0) a'.defers u w':=by
  intro u hu g
  rw [hd']
  exact leavesM hu ms w' hnd (fun r hr=>(hms r hr).2.1) (fun w'' t=>g w'' t (h2.turned t hm2) (h3.turned t (fun r hr=>(hms r hr).1) hm2))
 cases k with
 | normal =>
  simp only [RepX] at h4
  subst h4
  exact go .returning zq fun w'' t r'' E''=>hret _ _ _ { a' with defers:=[] } _ h1 (.inl rfl) r'' E''
 | ret =>
  simp only [RepX] at h4
  subst h4
  exact go .returning zq fun w'' t r'' E''=>hret _ _ _ { a' with defers:=[] } _ h1 (.inr rfl) r'' E''
 | exit i=>exact absurd h1 (hexit i s')
 | panic x =>
  obtain ⟨v,rfl,h5⟩:=h4
  refine go (.panicking [{ v:=v,recovered:=false }]) zq fun w'' t r'' E''=>hpan _ _ _ _ _ _ h1 r'' E'' ?_
  exact repA_turned t hm2 _ _ h5
theorem rcall_of_ex {P:Program} {f:FuncId} {fn:Func} {c:Code} {args:List AV} {R:AEnd→Prop} (hf:P.funcs[f]?=some fn) (hb:fn.body=some c) (hl:args.length≤fn.ntmps)
  (h:Ex P fn.ntmps none c ⟨argsT 0 args,[]⟩ (pureQ P fn R)):RCall P f args R:=by
 intro φ M0 w vs hH ha
 have hE:∀ {φ':Nat→Nat} {s:St} {w':World},Evol φ emp w φ' (look s.H) w'→Evol φ emp w φ' emp w':=fun E=>evol_drop E
 have hM:∀ {φ':Nat→Nat} {s:St} {w':World},∀ r o v,w'.cell? ⟨r,o,none⟩=some v→¬ MM φ' (look s.H) M0 r o→w'.cell? ⟨r,o,none⟩=some v∧¬ MM φ' emp M0 r o∧(Unm w' r→Unm w' r):=fun r o v g1 g2=>⟨g1,fun g3=>g3.elim not_mut_emp (fun g4=>g2 (.inr g4)),id⟩
 refine calls_of_ex (h:=[]) hf hb hl hH ha h ?_ ?_ ?_
 ·intro x s φ' a w' hq hx r E
  have hq':∃ x y,resA P fn (look s.T) (look s.H)=some x∧le x y∧noRef y=true∧R (.ret y):=by rcases hx with rfl | rfl <;> exact hq
  obtain ⟨x,y,g1,g2,g3,g4⟩:=hq'
  obtain ⟨v,g5,g6⟩:=resA_ok r g1
  exact ⟨v,g5,φ', .ret y,emp,⟨g4,rfl⟩,relH_emp (fun x o hm=>r.hp.lt x o hm) r.hp.gm.w (fun g hg o h=>r.hp.gm.m g hg o (.inr h)),hE E,v,rfl,(repA_pure hM).1 _ _ g3 (le_rep.1 _ _ _ g2 g6)⟩
 ·intro x s φ' a w' v hq r E hv
  exact ⟨φ', .panic x,emp,⟨hq.2,rfl⟩,relH_emp (fun x o hm=>r.hp.lt x o hm) r.hp.gm.w (fun g hg o h=>r.hp.gm.m g hg o (.inr h)),hE E,v,rfl,(repA_pure hM).1 _ _ hq.1 hv⟩
 ·intro i s hq
  exact hq
theorem pcall_of_ex {P:Program} {f:FuncId} {fn:Func} {c:Code} {args:List AV} {X:AEnd} (hf:P.funcs[f]?=some fn) (hb:fn.body=some c) (hl:args.length≤fn.ntmps)
  (h:Ex P fn.ntmps none c ⟨argsT 0 args,[]⟩ (pureQ P fn (·=X))):PCall P f args X:=rcall_of_ex hf hb hl h
theorem le_refl':(∀ x:AV,le x x)∧(∀ xs:List AV,les xs xs):=by
 have key:∀ n:Nat,(∀ (x:AV),SizeOf.sizeOf x≤n→le x x)∧(∀ (xs:List AV),SizeOf.sizeOf xs≤n→les xs xs):=by
  intro n
  induction n with
  | zero =>
   refine ⟨fun x hx=>?_,fun es hx=>?_⟩
   ·cases x <;> simp at hx
   ·cases es <;> simp at hx
  | succ n ih =>
   obtain ⟨i1,i2⟩:=ih
   refine ⟨fun x hx=>?_,fun xs hx=>?_⟩
   ·cases x with
    | p x=>cases x <;> simp [le]
    | agg cs=>simp only [le]; exact ⟨cs,rfl,i2 cs (by simp at hx; omega)⟩
    | tup cs=>simp only [le]; exact ⟨cs,rfl,i2 cs (by simp at hx; omega)⟩
    | _=>simp [le]
   ·cases xs with
    | nil=>simp [les]
    | cons x xs=>simp only [les]; simp at hx; exact ⟨x,xs,rfl,i1 x zo,i2 xs zo⟩
 exact ⟨fun x=>(key (SizeOf.sizeOf x)).1 x (zNR _),fun xs=>(key (SizeOf.sizeOf xs)).2 xs (zNR _)⟩
theorem le_refl (x:AV):le x x:=le_refl'.1 x
theorem les_refl (xs:List AV):les xs xs:=le_refl'.2 xs
mutual
def okRef (h:Heap):AV→Bool
 | .p _=>true
 | .eptr _=>true
 | .tsl _ _ t=>(h t).isSome
 | .ptr b _=>(h b).isSome
 | .vnil=>true
 | .vsl _ t _=>(h t).isSome
 | .vptr t _ _ _=>(h t).isSome
 | .vtl _ t _ _ _=>(h t).isSome
 | .yv b=>(h b).isSome
 | .mv b=>(h b).isSome
 | .bsl b _=>(h b).isSome
 | .sfp b=>(h b).isSome
 | .iv b=>(h b).isSome
 | .agg cs=>okRefs h cs
 | .tup cs=>okRefs h cs
 | .fn _ a b=>okRefs h a&&okRefs h b
 | .ifc _ x=>okRef h x
def okRefs (h:Heap):List AV→Bool
 | []=>true
 | x :: xs=>okRef h x&&okRefs h xs
end
theorem okRefs_p (h:Heap):∀ l:List PV,okRefs h (l.map .p)=true
 | []=>by simp [okRefs]
 | x :: l=>by simp [okRefs,okRef,okRefs_p h l]
def leB:Blk→Blk→Prop
 | .box ty cs,k=>∃ cs',k=.box ty cs'∧les cs cs'
 | .arr ty S n,k=>k=.arr ty S n
 | .vec ty S es,k=>k=.vec ty S es
 | .lp T nf st pd,k=>k=.lp T nf st pd
 | .mp es,k=>k=.mp es
 | .mf es,k=>k=.mf es
 | .mg en cl es,k=>k=.mg en cl es
 | .it m cl sn,k=>k=.it m cl sn
 | .mm S G,k=>k=.mm S G
theorem leB_ob {k k':Blk} {x:OB} (h:leB k k') (ho:k.ob=some x):k'.ob=some x:=by
 cases k with
 | box ty cs=>cases ho
 | arr ty S n=>cases ho
 | vec ty S es=>cases ho
 | lp T nf st pd=>simp only [leB] at h; subst h; exact ho
 | mp es=>simp only [leB] at h; subst h; exact ho
 | mf es=>simp only [leB] at h; subst h; exact ho
 | mg en cl es=>simp only [leB] at h; subst h; exact ho
 | it m cl sn=>simp only [leB] at h; subst h; exact ho
 | mm S G=>simp only [leB] at h; subst h; exact ho
theorem repA_sub {φ:Nat→Nat} {h h':Heap} {w:World} {M M':Mset} (hM:∀ r o,M' r o→M r o) (hh:∀ b k',h' b=some k'→∃ k,h b=some k∧leB k k') :
  (∀ (x:AV) (v:Value),okRef h' x=true→RepA φ h w M x v→RepA φ h' w M' x v)∧(∀ (xs:List AV) (l:List Value),okRefs h' xs=true→RepAs φ h w M xs l→RepAs φ h' w M' xs l):=by
 obtain ⟨kp,ke,kc⟩:=repP_keep (w:=w) (w':=w) (M:=M) (M':=M') (fun r o v h1 h2=>⟨h1,fun h3=>h2 (hM r o h3),id⟩)
 have key:∀ n:Nat,(∀ (x:AV),SizeOf.sizeOf x≤n→∀ v,okRef h' x=true→RepA φ h w M x v→RepA φ h' w M' x v)∧(∀ (xs:List AV),SizeOf.sizeOf xs≤n→∀ l,okRefs h' xs=true→RepAs φ h w M xs l→RepAs φ h' w M' xs l):=by
  intro n
  induction n with
  | zero =>
   refine ⟨fun x hx=>?_,fun es hx=>?_⟩
   ·cases x <;> simp at hx
   ·cases es <;> simp at hx
  | succ n ih =>
   obtain ⟨i1,i2⟩:=ih
   refine ⟨fun x hx v hn hv=>?_,fun xs hx l hn hv=>?_⟩
   ·cases x with
    | p x=>simp only [RepA] at hv ⊢; exact kp x v hv
    | tsl S es t =>
     simp only [okRef] at hn
     obtain ⟨k',hk'⟩:=zIE.1 hn
     simp only [RepA] at hv ⊢
     obtain ⟨h1,ty,m,h2,h3⟩:=hv
     obtain ⟨k,e1,e2⟩:=hh t k' hk'
     rw [h2] at e1
     cases e1
     simp only [leB] at e2
     exact ⟨kp _ _ h1,ty,m,by rw [hk',e2],h3⟩
    | ptr b off =>
     simp only [okRef] at hn
     obtain ⟨k',hk'⟩:=zIE.1 hn
     simp only [RepA] at hv ⊢
     obtain ⟨h1,ty,cs,h2⟩:=hv
     obtain ⟨k,e1,e2⟩:=hh b k' hk'
     rw [h2] at e1
     cases e1
     simp only [leB] at e2
     obtain ⟨cs',e3,_⟩:=e2
     exact ⟨h1,ty,cs',by rw [hk',e3]⟩
    | bsl b n =>
     simp only [okRef] at hn
     obtain ⟨k',hk'⟩:=zIE.1 hn
     simp only [RepA] at hv ⊢
     obtain ⟨h1,ty,cs,h2⟩:=hv
     obtain ⟨k,e1,e2⟩:=hh b k' hk'
     rw [h2] at e1
     cases e1
     simp only [leB] at e2
     obtain ⟨cs',e3,_⟩:=e2
     exact ⟨h1,ty,cs',by rw [hk',e3]⟩
    | sfp b =>
     simp only [okRef] at hn
     obtain ⟨k',hk'⟩:=zIE.1 hn
     simp only [RepA] at hv ⊢
     obtain ⟨h1,ty,cs,h2⟩:=hv
     obtain ⟨k,e1,e2⟩:=hh b k' hk'
     rw [h2] at e1
     cases e1
     simp only [leB] at e2
     obtain ⟨cs',e3,_⟩:=e2
     exact ⟨h1,ty,cs',by rw [hk',e3]⟩
    | vnil=>simp only [RepA] at hv ⊢; exact hv
    | vsl S t n =>
     simp only [okRef] at hn
     obtain ⟨k',hk'⟩:=zIE.1 hn
     simp only [RepA] at hv ⊢
     obtain ⟨h1,ty,m,h2,h3⟩:=hv
     obtain ⟨k,e1,e2⟩:=hh t k' hk'
     rw [h2] at e1
     cases e1
     simp only [leB] at e2
     exact ⟨h1,ty,m,by rw [hk',e2],h3⟩
    | vtl S t n k m0 =>
     simp only [okRef] at hn
     obtain ⟨k',hk'⟩:=zIE.1 hn
     simp only [RepA] at hv ⊢
     obtain ⟨h1,ty,m,h2,h3⟩:=hv
     obtain ⟨k,e1,e2⟩:=hh t k' hk'
     rw [h2] at e1
     cases e1
     simp only [leB] at e2
     exact ⟨h1,ty,m,by rw [hk',e2],h3⟩
    | vptr t n k f =>
     simp only [okRef] at hn
     obtain ⟨k',hk'⟩:=zIE.1 hn
     simp only [RepA] at hv ⊢
     obtain ⟨h1,ty,S,m,h2,h3⟩:=hv
     obtain ⟨k,e1,e2⟩:=hh t k' hk'
     rw [h2] at e1
     cases e1
     simp only [leB] at e2
     exact ⟨h1,ty,S,m,by rw [hk',e2],h3⟩
    | yv b =>
     simp only [okRef] at hn
     obtain ⟨k',hk'⟩:=zIE.1 hn
     simp only [RepA] at hv ⊢
     obtain ⟨h1,k,T,nf,h2,h3⟩:=hv
     obtain ⟨k2,e1,e2⟩:=hh b k' hk'
     rw [h2] at e1
     cases e1
     exact ⟨h1,k',T,nf,hk',leB_ob e2 h3⟩
    | mv b =>
     simp only [okRef] at hn
     obtain ⟨k',hk'⟩:=zIE.1 hn
     simp only [RepA] at hv ⊢
     obtain ⟨h1,k,h2,h3⟩:=hv
     obtain ⟨k2,e1,e2⟩:=hh b k' hk'
     rw [h2] at e1
     cases e1
     exact ⟨h1,k',hk',leB_ob e2 h3⟩
    | iv b =>
     simp only [okRef] at hn
     obtain ⟨k',hk'⟩:=zIE.1 hn
     simp only [RepA] at hv ⊢
     obtain ⟨h1,k,h2,h3⟩:=hv
     obtain ⟨k2,e1,e2⟩:=hh b k' hk'
     rw [h2] at e1
     cases e1
     exact ⟨h1,k',hk',leB_ob e2 h3⟩
    | eptr cs =>
     simp only [RepA] at hv ⊢
     obtain ⟨r,o,h1,h2⟩:=hv
     exact ⟨r,o,h1,kc cs r o h2⟩
    | agg cs =>
     simp only [RepA,okRef] at hv hn ⊢
     obtain ⟨l,h1,h2⟩:=hv
     exact ⟨l,h1,i2 cs (by simp at hx; omega) l hn h2⟩
    | tup cs =>
     simp only [RepA,okRef] at hv hn ⊢
     obtain ⟨l,h1,h2⟩:=hv
     exact ⟨l,h1,i2 cs (by simp at hx; omega) l hn h2⟩
    | fn f a b =>
     simp only [RepA,okRef,bae] at hv hn ⊢
     obtain ⟨l,m,h1,h2,h3⟩:=hv
     simp at hx
     exact ⟨l,m,h1,i2 a zo l hn.1 h2,i2 b zo m hn.2 h3⟩
    | ifc t x =>
     simp only [RepA,okRef] at hv hn ⊢
     obtain ⟨y,h1,h2⟩:=hv
     exact ⟨y,h1,i1 x (by simp at hx; omega) y hn h2⟩
   ·cases xs with
    | nil=>simpa [RepAs] using hv
    | cons x xs =>
     simp only [RepAs,okRefs,bae] at hv hn ⊢
     simp at hx
     obtain ⟨y,ys,h1,h2,h3⟩:=hv
     exact ⟨y,ys,h1,i1 x zo y hn.1 h2,i2 xs zo ys hn.2 h3⟩
 exact ⟨fun x v=>(key (SizeOf.sizeOf x)).1 x (zNR _) v,fun xs l=>(key (SizeOf.sizeOf xs)).2 xs (zNR _) l⟩
def leO:Option AV→AV→Prop
 | some y,x=>le y x
 | none,_=>False
def leBO:Option Blk→Blk→Prop
 | some k,k'=>leB k k'
 | none,_=>False
def subT (T:Nat→Option AV) (h':Heap):List (Nat × AV)→Prop
 | []=>True
 | (t,x) :: l=>leO (T t) x∧okRef h' x=true∧subT T h' l
def okRefB (h:Heap):Blk→Bool
 | .box _ cs=>okRefs h cs
 | .arr _ _ _=>true
 | .vec _ _ _=>true
 | .lp T _ _ _=>okRefs h (T.map (·.2))
 | .mp es=>true
 | .mf es=>okRefs h (es.map (·.2.2))
 | .mg _ _ es=>okRefs h (es.map (·.2.2))
 | .it m _ _=>(h m).isSome
 | .mm _ _=>true
def subH (h h':Heap):List (Nat × Blk)→Prop
 | []=>True
 | (b,k) :: l=>leBO (h b) k∧okRefB h' k=true∧subH h h' l
def keepsAll (h':Heap):List (Nat × Blk)→Bool
 | []=>true
 | (b,_) :: l=>(decide (b < 1000)||(h' b).isSome)&&keepsAll h' l
theorem subT_spec {T:Nat→Option AV} {h':Heap}:∀ {l:List (Nat × AV)},subT T h' l→∀ t x,look l t=some x→∃ y,T t=some y∧le y x∧okRef h' x=true
 | [],_,t,x,hx=>by simp [look] at hx
 | (t0,x0) :: l,hs,t,x,hx=>by
  simp only [subT] at hs
  simp only [look] at hx
  by_cases e:t0=t
  ·simp only [e,if_true,sie] at hx
   subst hx e
   cases hq:T t0 with
   | none=>rw [hq] at hs; exact hs.1.elim
   | some y=>rw [hq] at hs; exact ⟨y,rfl,hs.1,hs.2.1⟩
  ·simp only [e,if_false] at hx
   exact subT_spec hs.2.2 t x hx
theorem subH_spec {h h':Heap}:∀ {l:List (Nat × Blk)},subH h h' l→∀ b k',look l b=some k'→(∃ k,h b=some k∧leB k k')∧okRefB h' k'=true
 | [],_,t,x,hx=>by simp [look] at hx
 | (t0,x0) :: l,hs,t,x,hx=>by
  simp only [subH] at hs
  simp only [look] at hx
  by_cases e:t0=t
  ·simp only [e,if_true,sie] at hx
   subst hx e
   cases hq:h t0 with
   | none=>rw [hq] at hs; exact hs.1.elim
   | some y=>rw [hq] at hs; exact ⟨⟨y,rfl,hs.1⟩,hs.2.1⟩
  ·simp only [e,if_false] at hx
   exact subH_spec hs.2.2 t x hx
theorem keepsAll_spec {h':Heap}:∀ {l:List (Nat × Blk)},keepsAll h' l=true→∀ b k,1000≤b→look l b=some k→∃ k',h' b=some k'
 | [],_,b,k,_,hx=>by simp [look] at hx
 | (b0,k0) :: l,hs,b,k,hb,hx=>by
  simp only [keepsAll,bae,Bool.or_eq_true,zDT] at hs
  simp only [look] at hx
  by_cases e:b0=b
  ·subst e
   rcases hs.1 with h1 | h1
   ·omega
   ·exact zIE.1 h1
  ·simp only [e,if_false] at hx
   exact keepsAll_spec hs.2 b k hb hx
theorem okRefs_pf {α:Type} (h:Heap) (f:α→PV):∀ (l:List α),okRefs h (l.map fun p=>.p (f p))=true
 | []=>rfl
 | x :: l=>by simp only [zMC,okRefs,okRef,Bool.true_and]; exact okRefs_pf h f l
theorem okRefs_mp (h:Heap):∀ (es:List (Value × PV)),okRefs h (es.map fun p=>.p p.2)=true
 | []=>rfl
 | x :: es=>by simp only [zMC,okRefs,okRef,Bool.true_and]; exact okRefs_mp h es
theorem okRefs_on {h:Heap}:∀ {es:List (Bool × List UInt8 × AV)},okRefs h (es.map (·.2.2))=true→okRefs h ((onF es).map (·.2.2))=true
 | [],_=>rfl
 | (f,k,x) :: es,hx=>by
  simp only [zMC,okRefs,bae] at hx
  cases f with
  | false=>exact okRefs_on (es:=es) hx.2
  | true=>simp only [onF,List.filter_cons_of_pos,zMC,okRefs,bae]; exact ⟨hx.1,okRefs_on (es:=es) hx.2⟩
theorem okRefs_look {h:Heap}:∀ {T:List (Nat × AV)} {t:Nat} {x:AV},okRefs h (T.map (·.2))=true→look T t=some x→okRef h x=true
 | [],t,x,_,hx=>by simp [look] at hx
 | (k,y) :: T,t,x,hT,hx=>by
  simp only [zMC,okRefs,bae] at hT
  simp only [look] at hx
  by_cases e:k=t
  ·simp only [e,if_true,sie] at hx
   subst hx
   exact hT.1
  ·simp only [e,if_false] at hx
   exact okRefs_look hT.2 hx
theorem rel_subS {N:Nat} {s s':St} (hT:subT (look s.T) (look s'.H) s'.T) (hH:subH (look s.H) (look s'.H) s'.H) (hK:keepsAll (look s'.H) s.H=true) {φ:Nat→Nat} {M0:Mset} {D:DB} {a:Act} {w:World} (r:Rel φ M0 N D (look s.T) (look s.H) a w):Rel φ M0 N D (look s'.T) (look s'.H) a w∧Evol φ (look s.H) w φ (look s'.H) w:=by
 have hh:∀ b k',look s'.H b=some k'→∃ k,look s.H b=some k∧leB k k':=fun b k' hb=>(subH_spec hH b k' hb).1
 have hmut:∀ r o,Mut φ (look s'.H) r o→Mut φ (look s.H) r o:=by
  rintro x o ⟨b,k',h1,h2,h3⟩
  obtain ⟨k,h4,h5⟩:=hh b k' h1
  refine ⟨b,k,h4,h2,?_⟩
  cases k with
  | box ty cs=>trivial
  | arr ty S n=>simp only [leB] at h5; subst h5; exact h3
  | vec ty S es=>trivial
  | lp T nf st pd=>trivial
  | mp es=>trivial
  | mf es=>trivial
  | mg en cl es=>trivial
  | it m cl sn=>trivial
  | mm S G=>trivial
 have hM:∀ r o,MM φ (look s'.H) M0 r o→MM φ (look s.H) M0 r o:=fun x o hx=>hx.elim (fun h=>.inl (hmut x o h)) .inr
 have hdom:∀ b,look s'.H b ≠ none→look s.H b ≠ none:=fun b hb=>by
  cases hq:look s'.H b with
  | none=>exact absurd hq hb
  | some k'=>obtain ⟨k,h1,_⟩:=hh b k' hq; rw [h1]; simp
 obtain ⟨c1,c2⟩:=repA_sub (φ:=φ) (w:=w) hM hh
 have hRH:RelH φ (look s'.H) w M0:=by
  refine ⟨fun b c hb hc=>r.hp.inj b c (hdom b hb) (hdom c hc),fun b k' hb=>?_,fun b hb=>r.hp.fr b (hdom b hb),r.hp.lt,r.hp.gm.sub hM⟩
  obtain ⟨⟨k,h1,h2⟩,h3⟩:=subH_spec hH b k' hb
  have h4:=r.hp.blk b k h1
  cases k with
  | box ty cs =>
   simp only [leB] at h2
   obtain ⟨cs',rfl,h5⟩:=h2
   obtain ⟨c,h6,h7⟩:=h4
   exact ⟨c,h6,c2 _ _ h3 (le_rep.2 _ _ _ h5 h7)⟩
  | arr ty S n=>simp only [leB] at h2; subst h2; exact h4
  | vec ty S es =>
   simp only [leB] at h2
   subst h2
   obtain ⟨c,cap,g1,g2,g3,g4,g5,g6,g7⟩:=h4
   exact ⟨c,cap,g1,g2,g3,g4,g5,g6,c2 _ _ (okRefs_p _ _) g7⟩
  | lp T nf st pd =>
   simp only [leB] at h2
   subst h2
   obtain ⟨tmps,d,g1,g2,g3⟩:=h4
   exact ⟨tmps,d,g1,g2,fun t x ht=>⟨(g3 t x ht).1,c1 _ _ (okRefs_look h3 ht) (g3 t x ht).2⟩⟩
  | mp es =>
   simp only [leB] at h2
   subst h2
   obtain ⟨en,cl,g1,g2,g3⟩:=h4
   exact ⟨en,cl,g1,g2,c2 _ _ (okRefs_mp _ _) g3⟩
  | mm S G =>
   simp only [leB] at h2
   subst h2
   obtain ⟨en,cl,L,ks,g1,g2,g3,g4,g5⟩:=h4
   exact ⟨en,cl,L,ks,g1,g2,c2 _ _ (okRefs_pf _ _ _) g3,c2 _ _ (okRefs_pf _ _ _) g4,g5⟩
  | mf es =>
   simp only [leB] at h2
   subst h2
   obtain ⟨en,cl,g1,g2,g3,g5⟩:=h4
   exact ⟨en,cl,g1,g2,c2 _ _ (okRefs_on h3) g3,g5⟩
  | mg en cl es =>
   simp only [leB] at h2
   subst h2
   obtain ⟨g1,g2,g3,g5⟩:=h4
   exact ⟨g1,g2,c2 _ _ (okRefs_on h3) g3,g5⟩
  | it m cl sn =>
   simp only [leB] at h2
   subst h2
   obtain ⟨g1,k0,g2,g3⟩:=h4
   obtain ⟨km,hkm⟩:=zIE.1 h3
   obtain ⟨k1,g5,g6⟩:=hh m km hkm
   rw [g2] at g5
   cases g5
   exact ⟨g1,km,hkm,leB_ob g6 g3⟩
 have hdfs:Marks φ D (look s'.H) a w:=by
  obtain ⟨h0,ms,h1,h2,h3⟩:=r.dfs
  exact ⟨h0,ms,h1,h2,fun x hx=>⟨(h3 x hx).1,(h3 x hx).2.1,fun b hb=>(h3 x hx).2.2 b (hdom b hb)⟩⟩
 refine ⟨⟨hdfs,r.siz,hRH,fun t x ht=>?_⟩,⟨rfl,rfl,rfl,zNR _,fun _ _ h=>h,fun _ _ _=>rfl,fun _ _ _ _=>rfl,fun x o _ hx=>hmut x o hx,?_,?_,?_,?_⟩⟩
 ·obtain ⟨y,h1,h2,h3⟩:=subT_spec hT t x ht
  exact ⟨(r.tm t y h1).1,c1 _ _ h3 (le_rep.1 _ _ _ h2 (r.tm t y h1).2)⟩
 ·intro b ty cs hb hbb
  obtain ⟨k',h1⟩:=keepsAll_spec hK b _ hb hbb
  obtain ⟨k,h2,h3⟩:=hh b k' h1
  rw [hbb] at h2
  cases h2
  simp only [leB] at h3
  obtain ⟨cs',h4,_⟩:=h3
  exact ⟨⟨cs',by rw [h1,h4]⟩,rfl⟩
 ·intro t ty S n ht htt
  obtain ⟨k',h1⟩:=keepsAll_spec hK t _ ht htt
  obtain ⟨k,h2,h3⟩:=hh t k' h1
  rw [htt] at h2
  cases h2
  simp only [leB] at h3
  exact ⟨n,by rw [h1,h3],zNR _,fun _=>akept (rfl) rfl⟩
 ·intro t ty S n ht htt
  obtain ⟨k',h1⟩:=keepsAll_spec hK t _ ht htt
  obtain ⟨k,h2,h3⟩:=hh t k' h1
  rw [htt] at h2
  cases h2
  simp only [leB] at h3
  exact ⟨n,by rw [h1,h3],zNR _,fun _=>⟨rfl,fun c hc=>⟨c,hc,rfl⟩⟩⟩
 ·intro b k x hb hbb ho
  obtain ⟨k',h1⟩:=keepsAll_spec hK b _ hb hbb
  obtain ⟨k2,h2,h3⟩:=hh b k' h1
  rw [hbb] at h2
  cases h2
  exact ⟨⟨k',h1,leB_ob h3 ho⟩,rfl⟩
theorem weak_sub {N:Nat} {s s':St} (hT:subT (look s.T) (look s'.H) s'.T) (hH:subH (look s.H) (look s'.H) s'.H) (hK:keepsAll (look s'.H) s.H=true):Weak N s s' :=
 fun φ _ _ _ _ r=>⟨φ,rel_subS hT hH hK r⟩
attribute [go_sem] byt_mkS ltI_f
attribute [go_sem ↓] ExOps ExOp ExDraw splitB_true splitB_false
attribute [go_sem] yieldOf wantA gMark aop aMove evO evOs evPs look argsT put' St.put ofV dstLt orE aBin aUn aConv intRes isShift shiftRes strRes aLoad aStore aNew cellsOf allOne AV.one isAggD aFieldAddr aIndexAddr bIndexAddr bLen bBuildSlice isB elems elemsS uV uC uP aPart aField aIndex aExtract aMakeFunc aMakeInterface aTypeAssert aNilCheck aLen aLenS aIndexS aEq aEqT eqV eqV.eqFs partV isConst toV toVs aBuild fillA placeS aBuildSlice aSlice natOf aAppend elemsN isNil callOf isV vLoad vStore vFieldAddr vIndexAddr vLen vAppend vMake vLit tIndexAddr tSlice tLen tClear allOneV Value.oneCell' resA resVs resV splitB_true splitB_false toPV toPVs nilTo slSz chunk
mutual
def ren (ρ:Nat→Nat):AV→AV
 | .p x=>.p x
 | .eptr cs=>.eptr cs
 | .tsl S es t=>.tsl S es (ρ t)
 | .ptr b off=>.ptr (ρ b) off
 | .vnil=>.vnil
 | .vsl S t n=>.vsl S (ρ t) n
 | .vptr t n k f=>.vptr (ρ t) n k f
 | .vtl S t n k m=>.vtl S (ρ t) n k m
 | .yv b=>.yv (ρ b)
 | .mv b=>.mv (ρ b)
 | .bsl b n=>.bsl (ρ b) n
 | .sfp b=>.sfp (ρ b)
 | .iv b=>.iv (ρ b)
 | .agg cs=>.agg (rens ρ cs)
 | .tup cs=>.tup (rens ρ cs)
 | .fn f a b=>.fn f (rens ρ a) (rens ρ b)
 | .ifc t x=>.ifc t (ren ρ x)
def rens (ρ:Nat→Nat):List AV→List AV
 | []=>[]
 | x :: xs=>ren ρ x :: rens ρ xs
end
def renB (ρ:Nat→Nat):Blk→Blk
 | .box ty cs=>.box ty (rens ρ cs)
 | .arr ty S n=>.arr ty S n
 | .vec ty S es=>.vec ty S es
 | .lp T nf st pd=>.lp (T.map fun p=>(p.1,ren ρ p.2)) nf st pd
 | .mp es=>.mp es
 | .mf es=>.mf (es.map fun e=>(e.1,e.2.1,ren ρ e.2.2))
 | .mg en cl es=>.mg en cl (es.map fun e=>(e.1,e.2.1,ren ρ e.2.2))
 | .it m cl sn=>.it (ρ m) cl sn
 | .mm S G=>.mm S G
def renO (ρ:Nat→Nat):OB→OB
 | .lp T nf=>.lp (T.map fun p=>(p.1,ren ρ p.2)) nf
 | .mp=>.mp
theorem renB_ob (ρ:Nat→Nat) (k:Blk):(renB ρ k).ob=k.ob.map (renO ρ):=by cases k <;> rfl
theorem ob_ren {ρ:Nat→Nat} {k:Blk} (h:(renB ρ k).ob=some .mp):k.ob=some .mp:=by
 rw [renB_ob] at h
 cases hk:k.ob with
 | none=>rw [hk] at h; cases h
 | some x =>
  rw [hk] at h
  cases x with
  | mp=>rfl
  | lp T nf=>simp [renO] at h
theorem look_mapT (ρ:Nat→Nat):∀ (T:List (Nat × AV)) (t:Nat),look (T.map fun p=>(p.1,ren ρ p.2)) t=(look T t).map (ren ρ)
 | [],t=>rfl
 | (k,v) :: T,t=>by
  simp only [zMC,look]
  by_cases e:k=t
  ·simp [e]
  ·simp only [e,if_false]; exact look_mapT ρ T t
theorem rens_pf {α:Type} (ρ:Nat→Nat) (f:α→PV):∀ (l:List α),rens ρ (l.map fun p=>.p (f p))=l.map fun p=>.p (f p)
 | []=>rfl
 | x :: l=>by simp only [zMC,rens,ren]; rw [rens_pf ρ f l]
theorem rens_p (ρ:Nat→Nat):∀ (es:List (Value × PV)),rens ρ (es.map fun p=>.p p.2)=es.map fun p=>.p p.2
 | []=>rfl
 | x :: es=>by simp only [zMC,rens,ren]; rw [rens_p ρ es]
theorem rens_on (ρ:Nat→Nat):∀ (es:List (Bool × List UInt8 × AV)),(onF (es.map fun e=>(e.1,e.2.1,ren ρ e.2.2))).map (·.2.2)=rens ρ ((onF es).map (·.2.2))
 | []=>rfl
 | (f,k,x) :: es=>by
  cases f with
  | false=>exact rens_on ρ es
  | true =>
   have:=rens_on ρ es
   simp only [onF] at this ⊢
   simp only [zMC,List.filter_cons_of_pos,rens,this]
theorem keys_on (ρ:Nat→Nat):∀ (es:List (Bool × List UInt8 × AV)),(onF (es.map fun e=>(e.1,e.2.1,ren ρ e.2.2))).map (fun e=>keyS e.2.1)=(onF es).map (fun e=>keyS e.2.1)
 | []=>rfl
 | (f,k,x) :: es=>by
  cases f with
  | false=>exact keys_on ρ es
  | true =>
   have:=keys_on ρ es
   simp only [onF] at this ⊢
   simp only [zMC,List.filter_cons_of_pos,this]
section
variable {ρ φ φc:Nat→Nat} {h hc:Heap} {w:World} {M Mc:Mset}
theorem ren_in (hφ:∀ c,hc c ≠ none→φc c=φ (ρ c)) (hM:∀ r o,Mc r o→M r o) (hh:∀ c k,hc c=some k→∃ k0,h (ρ c)=some k0∧leB k0 (renB ρ k)) :
  (∀ (x:AV) (v:Value),okRef hc x=true→RepA φ h w M (ren ρ x) v→RepA φc hc w Mc x v)∧(∀ (xs:List AV) (l:List Value),okRefs hc xs=true→RepAs φ h w M (rens ρ xs) l→RepAs φc hc w Mc xs l):=by
 obtain ⟨kp,ke,kc⟩:=repP_keep (w:=w) (w':=w) (M:=M) (M':=Mc) (fun r o v h1 h2=>⟨h1,fun h3=>h2 (hM r o h3),id⟩)
 have key:∀ n:Nat,(∀ (x:AV),SizeOf.sizeOf x≤n→∀ v,okRef hc x=true→RepA φ h w M (ren ρ x) v→RepA φc hc w Mc x v)∧(∀ (xs:List AV),SizeOf.sizeOf xs≤n→∀ l,okRefs hc xs=true→RepAs φ h w M (rens ρ xs) l→RepAs φc hc w Mc xs l):=by
  intro n
  induction n with
  | zero =>
   refine ⟨fun x hx=>?_,fun es hx=>?_⟩
   ·cases x <;> simp at hx
   ·cases es <;> simp at hx
  | succ n ih =>
   obtain ⟨i1,i2⟩:=ih
   refine ⟨fun x hx v hn hv=>?_,fun xs hx l hn hv=>?_⟩
   ·cases x with
    | p x=>simp only [ren,RepA] at hv ⊢; exact kp x v hv
    | tsl S es t =>
     simp only [okRef] at hn
     obtain ⟨k,hk⟩:=zIE.1 hn
     simp only [ren,RepA] at hv ⊢
     obtain ⟨h1,ty,m,h2,h3⟩:=hv
     obtain ⟨k0,e1,e2⟩:=hh t k hk
     rw [h2] at e1
     cases e1
     have hkk:k=.arr ty S m:=by
      cases k with
      | arr _ _ _=>simpa [leB,renB] using e2
      | _=>simp [leB,renB] at e2
     refine ⟨kp _ _ h1,ty,m,by rw [hk,hkk],?_⟩
     rw [hφ t (by rw [hk]; simp)]
     exact h3
    | ptr b off =>
     simp only [okRef] at hn
     obtain ⟨k,hk⟩:=zIE.1 hn
     simp only [ren,RepA] at hv ⊢
     obtain ⟨h1,ty,cs,h2⟩:=hv
     obtain ⟨k0,e1,e2⟩:=hh b k hk
     rw [h2] at e1
     cases e1
     cases k with
     | box ty' cs'=>exact ⟨by rw [hφ b (by rw [hk]; simp)]; exact h1,ty',cs',hk⟩
     | _=>simp [leB,renB] at e2
    | bsl b n =>
     simp only [okRef] at hn
     obtain ⟨k,hk⟩:=zIE.1 hn
     simp only [ren,RepA] at hv ⊢
     obtain ⟨h1,ty,cs,h2⟩:=hv
     obtain ⟨k0,e1,e2⟩:=hh b k hk
     rw [h2] at e1
     cases e1
     cases k with
     | box ty' cs'=>exact ⟨by rw [hφ b (by rw [hk]; simp)]; exact h1,ty',cs',hk⟩
     | _=>simp [leB,renB] at e2
    | sfp b =>
     simp only [okRef] at hn
     obtain ⟨k,hk⟩:=zIE.1 hn
     simp only [ren,RepA] at hv ⊢
     obtain ⟨h1,ty,cs,h2⟩:=hv
     obtain ⟨k0,e1,e2⟩:=hh b k hk
     rw [h2] at e1
     cases e1
     cases k with
     | box ty' cs'=>exact ⟨by rw [hφ b (by rw [hk]; simp)]; exact h1,ty',cs',hk⟩
     | _=>simp [leB,renB] at e2
    | vnil=>simp only [ren,RepA] at hv ⊢; exact hv
    | vsl S t n =>
     simp only [okRef] at hn
     obtain ⟨k,hk⟩:=zIE.1 hn
     simp only [ren,RepA] at hv ⊢
     obtain ⟨h1,ty,m,h2,h3⟩:=hv
     obtain ⟨k0,e1,e2⟩:=hh t k hk
     rw [h2] at e1
     cases e1
     have hkk:k=.vec ty S m:=by
      cases k with
      | vec _ _ _=>simpa [leB,renB] using e2
      | _=>simp [leB,renB] at e2
     refine ⟨h1,ty,m,by rw [hk,hkk],?_⟩
     rw [hφ t (by rw [hk]; simp)]
     exact h3
    | vtl S t n k0' m0 =>
     simp only [okRef] at hn
     obtain ⟨k,hk⟩:=zIE.1 hn
     simp only [ren,RepA] at hv ⊢
     obtain ⟨h1,ty,m,h2,h3⟩:=hv
     obtain ⟨k0,e1,e2⟩:=hh t k hk
     rw [h2] at e1
     cases e1
     have hkk:k=.vec ty S m:=by
      cases k with
      | vec _ _ _=>simpa [leB,renB] using e2
      | _=>simp [leB,renB] at e2
     refine ⟨h1,ty,m,by rw [hk,hkk],?_⟩
     rw [hφ t (by rw [hk]; simp)]
     exact h3
    | vptr t n k f =>
     simp only [okRef] at hn
     obtain ⟨k,hk⟩:=zIE.1 hn
     simp only [ren,RepA] at hv ⊢
     obtain ⟨h1,ty,S,m,h2,h3⟩:=hv
     obtain ⟨k0,e1,e2⟩:=hh t k hk
     rw [h2] at e1
     cases e1
     have hkk:k=.vec ty S m:=by
      cases k with
      | vec _ _ _=>simpa [leB,renB] using e2
      | _=>simp [leB,renB] at e2
     refine ⟨h1,ty,S,m,by rw [hk,hkk],?_⟩
     rw [hφ t (by rw [hk]; simp)]
     exact h3
    | yv b =>
     simp only [okRef] at hn
     obtain ⟨k,hk⟩:=zIE.1 hn
     simp only [ren,RepA] at hv ⊢
     obtain ⟨h1,k1,T,nf,h2,h3⟩:=hv
     obtain ⟨k0,e1,e2⟩:=hh b k hk
     rw [h2] at e1
     cases e1
     have e3:=leB_ob e2 h3
     rw [renB_ob] at e3
     refine ⟨by rw [hφ b (by rw [hk]; simp)]; exact h1,k,?_⟩
     cases k with
     | lp T' nf' st pd=>exact ⟨T',nf',hk,rfl⟩
     | _=>simp [Blk.ob,renO] at e3
    | mv b =>
     simp only [okRef] at hn
     obtain ⟨k,hk⟩:=zIE.1 hn
     simp only [ren,RepA] at hv ⊢
     obtain ⟨h1,k1,h2,h3⟩:=hv
     obtain ⟨k0,e1,e2⟩:=hh b k hk
     rw [h2] at e1
     cases e1
     have e3:=leB_ob e2 h3
     rw [renB_ob] at e3
     refine ⟨by rw [hφ b (by rw [hk]; simp)]; exact h1,k,?_⟩
     cases k with
     | mp es=>exact ⟨hk,rfl⟩
     | mf es=>exact ⟨hk,rfl⟩
     | mg en cl es=>exact ⟨hk,rfl⟩
     | it m cl sn=>exact ⟨hk,rfl⟩
     | mm S G=>exact ⟨hk,rfl⟩
     | _=>simp [Blk.ob,renO] at e3
    | iv b =>
     simp only [okRef] at hn
     obtain ⟨k,hk⟩:=zIE.1 hn
     simp only [ren,RepA] at hv ⊢
     obtain ⟨h1,k1,h2,h3⟩:=hv
     obtain ⟨k0,e1,e2⟩:=hh b k hk
     rw [h2] at e1
     cases e1
     have e3:=leB_ob e2 h3
     rw [renB_ob] at e3
     refine ⟨by rw [hφ b (by rw [hk]; simp)]; exact h1,k,?_⟩
     cases k with
     | mp es=>exact ⟨hk,rfl⟩
     | mf es=>exact ⟨hk,rfl⟩
     | mg en cl es=>exact ⟨hk,rfl⟩
     | it m cl sn=>exact ⟨hk,rfl⟩
     | mm S G=>exact ⟨hk,rfl⟩
     | _=>simp [Blk.ob,renO] at e3
    | eptr cs =>
     simp only [ren,RepA] at hv ⊢
     obtain ⟨r,o,h1,h2⟩:=hv
     exact ⟨r,o,h1,kc cs r o h2⟩
    | agg cs =>
     simp only [ren,RepA,okRef] at hv hn ⊢
     obtain ⟨l,h1,h2⟩:=hv
     exact ⟨l,h1,i2 cs (by simp at hx; omega) l hn h2⟩
    | tup cs =>
     simp only [ren,RepA,okRef] at hv hn ⊢
     obtain ⟨l,h1,h2⟩:=hv
     exact ⟨l,h1,i2 cs (by simp at hx; omega) l hn h2⟩
    | fn f a b =>
     simp only [ren,RepA,okRef,bae] at hv hn ⊢
     obtain ⟨l,m,h1,h2,h3⟩:=hv
     simp at hx
     exact ⟨l,m,h1,i2 a zo l hn.1 h2,i2 b zo m hn.2 h3⟩
    | ifc t x =>
     simp only [ren,RepA,okRef] at hv hn ⊢
     obtain ⟨y,h1,h2⟩:=hv
     exact ⟨y,h1,i1 x (by simp at hx; omega) y hn h2⟩
   ·cases xs with
    | nil=>simpa [rens,RepAs] using hv
    | cons x xs =>
     simp only [rens,RepAs,okRefs,bae] at hv hn ⊢
     simp at hx
     obtain ⟨y,ys,h1,h2,h3⟩:=hv
     exact ⟨y,ys,h1,i1 x zo y hn.1 h2,i2 xs zo ys hn.2 h3⟩
 exact ⟨fun x v=>(key (SizeOf.sizeOf x)).1 x (zNR _) v,fun xs l=>(key (SizeOf.sizeOf xs)).2 xs (zNR _) l⟩
theorem ren_out' (hφ:∀ c,hc c ≠ none→φ (ρ c)=φc c) (hM:∀ r o v,w.cell? ⟨r,o,none⟩=some v→M r o→Mc r o) (hh:∀ c k,hc c=some k→h (ρ c)=some (renB ρ k)) :
  (∀ (x:AV) (v:Value),RepA φc hc w Mc x v→RepA φ h w M (ren ρ x) v)∧(∀ (xs:List AV) (l:List Value),RepAs φc hc w Mc xs l→RepAs φ h w M (rens ρ xs) l):=by
 obtain ⟨kp,ke,kc⟩:=repP_keep (w:=w) (w':=w) (M:=Mc) (M':=M) (fun r o v h1 h2=>⟨h1,fun h3=>h2 (hM r o v h1 h3),id⟩)
 have key:∀ n:Nat,(∀ (x:AV),SizeOf.sizeOf x≤n→∀ v,RepA φc hc w Mc x v→RepA φ h w M (ren ρ x) v)∧(∀ (xs:List AV),SizeOf.sizeOf xs≤n→∀ l,RepAs φc hc w Mc xs l→RepAs φ h w M (rens ρ xs) l):=by
  intro n
  induction n with
  | zero =>
   refine ⟨fun x hx=>?_,fun es hx=>?_⟩
   ·cases x <;> simp at hx
   ·cases es <;> simp at hx
  | succ n ih =>
   obtain ⟨i1,i2⟩:=ih
   refine ⟨fun x hx v hv=>?_,fun xs hx l hv=>?_⟩
   ·cases x with
    | p x=>simp only [ren,RepA] at hv ⊢; exact kp x v hv
    | tsl S es t =>
     simp only [ren,RepA] at hv ⊢
     obtain ⟨h1,ty,m,h2,h3⟩:=hv
     refine ⟨kp _ _ h1,ty,m,by rw [hh t _ h2]; rfl,?_⟩
     rw [hφ t (by rw [h2]; simp)]
     exact h3
    | ptr b off =>
     simp only [ren,RepA] at hv ⊢
     obtain ⟨h1,ty,cs,h2⟩:=hv
     exact ⟨by rw [hφ b (by rw [h2]; simp)]; exact h1,ty,rens ρ cs,by rw [hh b _ h2]; rfl⟩
    | bsl b n =>
     simp only [ren,RepA] at hv ⊢
     obtain ⟨h1,ty,cs,h2⟩:=hv
     exact ⟨by rw [hφ b (by rw [h2]; simp)]; exact h1,ty,rens ρ cs,by rw [hh b _ h2]; rfl⟩
    | sfp b =>
     simp only [ren,RepA] at hv ⊢
     obtain ⟨h1,ty,cs,h2⟩:=hv
     exact ⟨by rw [hφ b (by rw [h2]; simp)]; exact h1,ty,rens ρ cs,by rw [hh b _ h2]; rfl⟩
    | vnil=>simp only [ren,RepA] at hv ⊢; exact hv
    | vsl S t n =>
     simp only [ren,RepA] at hv ⊢
     obtain ⟨h1,ty,m,h2,h3⟩:=hv
     refine ⟨h1,ty,m,by rw [hh t _ h2]; rfl,?_⟩
     rw [hφ t (by rw [h2]; simp)]
     exact h3
    | vtl S t n k m0 =>
     simp only [ren,RepA] at hv ⊢
     obtain ⟨h1,ty,m,h2,h3⟩:=hv
     refine ⟨h1,ty,m,by rw [hh t _ h2]; rfl,?_⟩
     rw [hφ t (by rw [h2]; simp)]
     exact h3
    | vptr t n k f =>
     simp only [ren,RepA] at hv ⊢
     obtain ⟨h1,ty,S,m,h2,h3⟩:=hv
     refine ⟨h1,ty,S,m,by rw [hh t _ h2]; rfl,?_⟩
     rw [hφ t (by rw [h2]; simp)]
     exact h3
    | yv b =>
     simp only [ren,RepA] at hv ⊢
     obtain ⟨h1,k,T,nf,h2,h3⟩:=hv
     exact ⟨by rw [hφ b (by rw [h2]; simp)]; exact h1,renB ρ k,_,nf,hh b _ h2,by rw [renB_ob,h3]; rfl⟩
    | mv b =>
     simp only [ren,RepA] at hv ⊢
     obtain ⟨h1,k,h2,h3⟩:=hv
     exact ⟨by rw [hφ b (by rw [h2]; simp)]; exact h1,renB ρ k,hh b _ h2,by rw [renB_ob,h3]; rfl⟩
    | iv b =>
     simp only [ren,RepA] at hv ⊢
     obtain ⟨h1,k,h2,h3⟩:=hv
     exact ⟨by rw [hφ b (by rw [h2]; simp)]; exact h1,renB ρ k,hh b _ h2,by rw [renB_ob,h3]; rfl⟩
    | eptr cs =>
     simp only [ren,RepA] at hv ⊢
     obtain ⟨r,o,h1,h2⟩:=hv
     exact ⟨r,o,h1,kc cs r o h2⟩
    | agg cs =>
     simp only [ren,RepA] at hv ⊢
     obtain ⟨l,h1,h2⟩:=hv
     exact ⟨l,h1,i2 cs (by simp at hx; omega) l h2⟩
    | tup cs =>
     simp only [ren,RepA] at hv ⊢
     obtain ⟨l,h1,h2⟩:=hv
     exact ⟨l,h1,i2 cs (by simp at hx; omega) l h2⟩
    | fn f a b =>
     simp only [ren,RepA] at hv ⊢
     obtain ⟨l,m,h1,h2,h3⟩:=hv
     simp at hx
     exact ⟨l,m,h1,i2 a zo l h2,i2 b zo m h3⟩
    | ifc t x =>
     simp only [ren,RepA] at hv ⊢
     obtain ⟨y,h1,h2⟩:=hv
     exact ⟨y,h1,i1 x (by simp at hx; omega) y h2⟩
   ·cases xs with
    | nil=>simpa [rens,RepAs] using hv
    | cons x xs =>
     simp only [rens,RepAs] at hv ⊢
     simp at hx
     obtain ⟨y,ys,h1,h2,h3⟩:=hv
     exact ⟨y,ys,h1,i1 x zo y h2,i2 xs zo ys h3⟩
 exact ⟨fun x v=>(key (SizeOf.sizeOf x)).1 x (zNR _) v,fun xs l=>(key (SizeOf.sizeOf xs)).2 xs (zNR _) l⟩
theorem ren_out (hφ:∀ c,hc c ≠ none→φ (ρ c)=φc c) (hM:∀ r o,M r o→Mc r o) (hh:∀ c k,hc c=some k→h (ρ c)=some (renB ρ k)) :
  (∀ (x:AV) (v:Value),RepA φc hc w Mc x v→RepA φ h w M (ren ρ x) v)∧(∀ (xs:List AV) (l:List Value),RepAs φc hc w Mc xs l→RepAs φ h w M (rens ρ xs) l) :=
 ren_out' hφ (fun r o _ _=>hM r o) hh
end
def backH (ρ:Nat→Nat) (hc':List (Nat × Blk)) (H:List (Nat × Blk)):List (Nat × Blk):=hc'.map (fun p=>(ρ p.1,renB ρ p.2))++H
def outDom (ρ:Nat→Nat) (hc hc' H:List (Nat × Blk)):Prop :=
 (∀ c ∈ hc.map (·.1),c ∈ hc'.map (·.1))∧(∀ c ∈ hc'.map (·.1),c ∈ hc.map (·.1)∨look H (ρ c)=none)∧(∀ c ∈ hc'.map (·.1),∀ d ∈ hc'.map (·.1),ρ c=ρ d→c=d)
theorem repAs_ps' {φ φ':Nat→Nat} {h h':Heap} {w:World} {M M':Mset} (hk:∀ r o v,w.cell? ⟨r,o,none⟩=some v→M' r o→M r o):∀ (l:List PV) (vs:List Value),RepAs φ h w M (l.map .p) vs→RepAs φ' h' w M' (l.map .p) vs
 | [],vs,hv=>by simpa [RepAs] using hv
 | x :: l,vs,hv=>by
  simp only [zMC,RepAs,RepA] at hv ⊢
  obtain ⟨y,ys,h1,h2,h3⟩:=hv
  exact ⟨y,ys,h1,(repP_keep (w:=w) (w':=w) (M:=M) (M':=M') (fun r o v h1 h2=>⟨h1,fun h3=>h2 (hk r o v h1 h3),id⟩)).1 x y h2,repAs_ps' hk l ys h3⟩
theorem repAs_ps {φ φ':Nat→Nat} {h h':Heap} {w:World} {M M':Mset} (hk:∀ r o,M' r o→M r o) (l:List PV) (vs:List Value):RepAs φ h w M (l.map .p) vs→RepAs φ' h' w M' (l.map .p) vs :=
 repAs_ps' (fun r o _ _=>hk r o) l vs
theorem look_append {α:Type}:∀ (a b:List (Nat × α)) (t:Nat),look (a++b) t=match look a t with | some v=>some v | none=>look b t
 | [],b,t=>rfl
 | (k,v) :: a,b,t=>by
  simp only [List.cons_append,look]
  by_cases e:k=t
  ·simp [e]
  ·simp only [e,if_false]; exact look_append a b t
theorem look_mem {α:Type}:∀ {a:List (Nat × α)} {t:Nat},look a t ≠ none↔t ∈ a.map (·.1)
 | [],t=>by simp [look]
 | (k,v) :: a,t=>by
  simp only [look,zMC,List.mem_cons]
  by_cases e:k=t
  ·simp [e]
  ·simp only [e,if_false,look_mem]
   constructor
   ·exact .inr
   ·rintro (h | h)
    ·exact absurd h.symm e
    ·exact h
theorem look_ren {ρ:Nat→Nat}:∀ {hc:List (Nat × Blk)} {t:Nat},(∀ c d,c ∈ hc.map (·.1)→d ∈ t :: hc.map (·.1)→ρ c=ρ d→c=d)→look (hc.map (fun p=>(ρ p.1,renB ρ p.2))) (ρ t)=(look hc t).map (renB ρ)
 | [],t,_=>rfl
 | (k,v) :: hc,t,hi=>by
  simp only [zMC,look]
  by_cases e:k=t
  ·simp [e]
  ·have:¬ ρ k=ρ t:=fun h=>e (hi k t zq zq h)
   simp only [e,this,if_false]
   refine look_ren (fun c d hc hd h=>hi c d (by simp at hc ⊢; exact .inr hc) ?_ h)
   simp at hd ⊢
   rcases hd with hd | hd
   ·exact .inl hd
   ·exact .inr (.inr hd)
theorem look_ren_none {ρ:Nat→Nat}:∀ {hc:List (Nat × Blk)} {b:Nat},(∀ c,c ∈ hc.map (·.1)→ρ c ≠ b)→look (hc.map (fun p=>(ρ p.1,renB ρ p.2))) b=none
 | [],b,_=>rfl
 | (k,v) :: hc,b,hi=>by
  simp only [zMC,look]
  have:¬ ρ k=b:=hi k zq
  simp only [this,if_false]
  exact look_ren_none (fun c hc=>hi c (by simp at hc ⊢; exact .inr hc))
theorem le_foldr_max:∀ (l:List Nat) (x:Nat),x ∈ l→x≤l.foldr max 0
 | a :: l,x,h=>by
  simp only [List.foldr_cons]
  rcases List.mem_cons.1 h with e | e
  ·subst e; exact Nat.le_max_left _ _
  ·exact Nat.le_trans (le_foldr_max l x e) (Nat.le_max_right _ _)
theorem frame_core {C:(Nat→Nat)→Array Value→World→(Ending→World→Prop)→Prop} (hmono:∀ φ vs w R R',C φ vs w R→(∀ e w',R e w'→R' e w')→C φ vs w R')
  {N:Nat} {args args':List AV} {dst:Option Tmp} {s:St} {K:St→Prop} {Q:AX→St→Prop} {hc:List (Nat × Blk)} {R:AEnd→Heap→Prop} (ρ:Nat→Nat)
  (hcall:∀ φ M0 w vs,RelH φ (look hc) w M0→RepAs φ (look hc) w (MM φ (look hc) M0) args' vs→C φ vs.toArray w fun e w'=>∃ φ' r h',R r h'∧RelH φ' h' w' M0∧Evol φ (look hc) w φ' h' w'∧RepE φ' h' w' (MM φ' h' M0) r e)
  (hargs:les args (rens ρ args')) (hok:okRefs (look hc) args'=true)
  (hbig:∀ c ∈ hc.map (·.1),1000≤c) (hokb:∀ c k,look hc c=some k→okRefB (look hc) k=true)
  (hsub:∀ c k,look hc c=some k→∃ k0,look s.H (ρ c)=some k0∧leB k0 (renB ρ k))
  (hinj:∀ c ∈ hc.map (·.1),∀ d ∈ hc.map (·.1),ρ c=ρ d→c=d) (hd:∀ t,dst=some t→t < N)
  (hret:∀ r h',R r h'→∃ hc' H2,h'=look hc'∧outDom ρ hc hc' s.H∧(∀ b,look H2 b=look (backH ρ hc' s.H) b) ∧
   (match r with | .ret x=>K (St.put ⟨s.T,H2⟩ dst (ren ρ x)) | .panic x=>Q (.panic (ren ρ x)) ⟨s.T,H2⟩)) :
  ∀ φ M0 D a w vs,Rel φ M0 N D (look s.T) (look s.H) a w→RepAs φ (look s.H) w (MM φ (look s.H) M0) args vs→C (fun c=>φ (ρ c)) vs.toArray w fun e w' =>
   match e with
   | .returned v=>∃ φ' s',K s'∧Rel φ' M0 N D (look s'.T) (look s'.H) (a.put dst v) w'∧Evol φ (look s.H) w φ' (look s'.H) w'
   | .panicked chain=>Post N D Q φ M0 (look s.H) w (.panic chain) a w'
   | .outgrown=>False:=by
 intro φ M0 D a w vs r ha
 let hr:Heap:=fun b=>if b ∈ (hc.map (·.1)).map ρ then none else look s.H b
 let φc:Nat→Nat:=fun c=>φ (ρ c)
 have hrh:∀ b k,hr b=some k→look s.H b=some k∧b ∉ (hc.map (·.1)).map ρ:=by
  intro b k hb
  simp only [hr] at hb
  split at hb
  ·cases hb
  ·rename_i hn; exact ⟨hb,hn⟩
 have hmutr:∀ x o,Mut φ hr x o→Mut φ (look s.H) x o:=by
  rintro x o ⟨b,k,h1,h2,h3⟩
  exact ⟨b,k,(hrh b k h1).1,h2,h3⟩
 have hdomc:∀ c,look hc c ≠ none→c ∈ hc.map (·.1):=fun c h=>look_mem.1 h
 have hmutc:∀ x o,Mut φc (look hc) x o→Mut φ (look s.H) x o:=by
  rintro x o ⟨c,k,h1,h2,h3⟩
  obtain ⟨k0,h4,h5⟩:=hsub c k h1
  refine ⟨ρ c,k0,h4,h2,?_⟩
  cases k0 with
  | arr ty S n =>
   cases k with
   | arr ty' S' n'=>simp only [leB,renB,Blk.arr.injEq] at h5; obtain ⟨rfl,rfl,rfl⟩:=h5; exact h3
   | _=>simp [leB,renB] at h5
  | _=>trivial
 have hMc:∀ x o,MM φc (look hc) (MB φ hr w M0) x o→MM φ (look s.H) M0 x o:=by
  rintro x o (h1 | ⟨h1 | h1,_⟩)
  ·exact .inl (hmutc x o h1)
  ·exact .inl (hmutr x o h1)
  ·exact .inr h1
 obtain ⟨in1,in2⟩:=ren_in (w:=w) (ρ:=ρ) (φ:=φ) (φc:=φc) (h:=look s.H) (hc:=look hc) (fun _ _=>rfl) hMc hsub
 have hHc:RelH φc (look hc) w (MB φ hr w M0):=by
  refine ⟨fun c d hcc hdd he=>?_,fun c k hk=>?_,fun c hcc o hm=>?_,fun x o hm=>?_,r.hp.gm.sub hMc⟩
  ·obtain ⟨kc,hkc⟩:=zNE.1 hcc
   obtain ⟨kd,hkd⟩:=zNE.1 hdd
   obtain ⟨k0,e0,_⟩:=hsub c kc hkc
   obtain ⟨k1,e1,_⟩:=hsub d kd hkd
   exact hinj c (hdomc c hcc) d (hdomc d hdd) (r.hp.inj (ρ c) (ρ d) (by rw [e0]; simp) (by rw [e1]; simp) he)
  ·obtain ⟨k0,h1,h2⟩:=hsub c k hk
   have h3:=r.hp.blk (ρ c) k0 h1
   cases k with
   | box ty cs =>
    cases k0 with
    | box ty0 cs0 =>
     simp only [leB,renB,Blk.box.injEq] at h2
     obtain ⟨cs',⟨e1,e2⟩,h5⟩:=h2
     obtain ⟨c0,h6,h7⟩:=h3
     refine ⟨c0,by rw [e1]; exact h6,in2 _ _ (hokb c _ hk) ?_⟩
     rw [e2]
     exact le_rep.2 _ _ _ h5 h7
    | _=>simp [leB,renB] at h2
   | arr ty S n =>
    cases k0 with
    | arr ty0 S0 n0=>simp only [leB,renB,Blk.arr.injEq] at h2; obtain ⟨rfl,rfl,rfl⟩:=h2; exact h3
    | _=>simp [leB,renB] at h2
   | vec ty S es =>
    cases k0 with
    | vec ty0 S0 n0 =>
     simp only [leB,renB,Blk.vec.injEq] at h2
     obtain ⟨rfl,rfl,rfl⟩:=h2
     obtain ⟨c0,cap,g1,g2,g3,g4,g5,g6,g7⟩:=h3
     exact ⟨c0,cap,g1,g2,g3,g4,g5,g6,repAs_ps hMc _ _ g7⟩
    | _=>simp [leB,renB] at h2
   | lp T nf st pd =>
    cases k0 with
    | lp T0 nf0 st0 pd0 =>
     simp only [leB,renB,Blk.lp.injEq] at h2
     obtain ⟨rfl,rfl,rfl,rfl⟩:=h2
     obtain ⟨tmps,d,g1,g2,g3⟩:=h3
     refine ⟨tmps,d,g1,g2,fun t x ht=>?_⟩
     have g4:=g3 t (ren ρ x) (by rw [look_mapT,ht]; rfl)
     exact ⟨g4.1,in1 _ _ (okRefs_look (hokb c _ hk) ht) g4.2⟩
    | _=>simp [leB,renB] at h2
   | mp es =>
    cases k0 with
    | mp es0 =>
     simp only [leB,renB,Blk.mp.injEq] at h2
     subst h2
     obtain ⟨en,cl,g1,g2,g3⟩:=h3
     refine ⟨en,cl,g1,g2,in2 _ _ (okRefs_mp _ _) ?_⟩
     rw [rens_p]; exact g3
    | _=>simp [leB,renB] at h2
   | mm S G =>
    cases k0 with
    | mm S0 G0 =>
     simp only [leB,renB,Blk.mm.injEq] at h2
     obtain ⟨rfl,rfl⟩:=h2
     obtain ⟨en,cl,L,ks,g1,g2,g3,g4,g5⟩:=h3
     exact ⟨en,cl,L,ks,g1,g2,in2 _ _ (okRefs_pf _ _ _) (by rw [rens_pf]; exact g3),in2 _ _ (okRefs_pf _ _ _) (by rw [rens_pf]; exact g4),g5⟩
    | _=>simp [leB,renB] at h2
   | mf es =>
    cases k0 with
    | mf es0 =>
     simp only [leB,renB,Blk.mf.injEq] at h2
     subst h2
     obtain ⟨en,cl,g1,g2,g3,g4⟩:=h3
     rw [keys_on] at g2
     rw [rens_on] at g3
     exact ⟨en,cl,g1,g2,in2 _ _ (okRefs_on (hokb c _ hk)) g3,g4⟩
    | _=>simp [leB,renB] at h2
   | mg en cl es =>
    cases k0 with
    | mg en0 cl0 es0 =>
     simp only [leB,renB,Blk.mg.injEq] at h2
     obtain ⟨rfl,rfl,rfl⟩:=h2
     obtain ⟨g1,g2,g3,g4⟩:=h3
     rw [keys_on] at g2
     rw [rens_on] at g3
     exact ⟨g1,g2,in2 _ _ (okRefs_on (hokb c _ hk)) g3,g4⟩
    | _=>simp [leB,renB] at h2
   | it m cl sn =>
    cases k0 with
    | it m0 cl0 sn0 =>
     simp only [leB,renB,Blk.it.injEq] at h2
     obtain ⟨e1,rfl,rfl⟩:=h2
     obtain ⟨g1,k1,g2,g3⟩:=h3
     obtain ⟨km,hkm⟩:=zIE.1 (hokb c _ hk)
     obtain ⟨k2,g4,g5⟩:=hsub m km hkm
     rw [← e1] at g1 g2
     rw [g2] at g4
     cases g4
     exact ⟨g1,km,hkm,ob_ren (leB_ob g5 g3)⟩
    | _=>simp [leB,renB] at h2
  ·obtain ⟨kc,hkc⟩:=zNE.1 hcc
   obtain ⟨k0,e0,_⟩:=hsub c kc hkc
   rcases hm with ⟨⟨b,k,h1,h2,_⟩ | hm,_⟩
   ·obtain ⟨h4,h5⟩:=hrh b k h1
    have:=r.hp.inj b (ρ c) (by rw [h4]; simp) (by rw [e0]; simp) h2
    exact h5 (by rw [this]; exact List.mem_map_of_mem (hdomc c hcc))
   ·exact r.hp.fr (ρ c) (by rw [e0]; simp) o hm
  ·exact hm.2
 refine hmono _ _ _ _ _ (hcall φc (MB φ hr w M0) w vs hHc (in2 _ _ hok (le_rep.2 _ _ _ hargs ha))) ?_
 rintro e w' ⟨φc',res,h',hR,hHc',E,hE⟩
 obtain ⟨hc',H2,rfl,⟨hd1,hd2,hd3⟩,hH2,hfin⟩:=hret res h' hR
 have hH2':look H2=look (backH ρ hc' s.H):=funext hH2
 have hnb:∀ b k,look s.H b=some k→b ∉ (hc.map (·.1)).map ρ→b ∉ (hc'.map (·.1)).map ρ:=by
  intro b k hb hn hm
  obtain ⟨c,hcm,rfl⟩:=List.mem_map.1 hm
  rcases hd2 c hcm with h1 | h1
  ·exact hn (List.mem_map_of_mem h1)
  ·rw [h1] at hb; cases hb
 have hsubr:∀ b,b ∉ (hc'.map (·.1)).map ρ→b ∉ (hc.map (·.1)).map ρ:=by
  intro b hn hm
  obtain ⟨c,hcm,rfl⟩:=List.mem_map.1 hm
  exact hn (List.mem_map_of_mem (hd1 c hcm))
 obtain ⟨KK,hKK⟩:∃ KK,KK=w'.heap.size+((hc'.map (·.1)).map φc').foldr max 0+1:=⟨_,rfl⟩
 have hψlt:∀ b,φ b < w.heap.size→liftF φ w.heap.size KK b=φ b:=fun b hb=>by simp [liftF,hb]
 have hψge:∀ b,¬ φ b < w.heap.size→liftF φ w.heap.size KK b=φ b+KK:=fun b hb=>by simp [liftF,hb]
 have hψc:∀ b c,c ∈ hc'.map (·.1)→¬ φ b < w.heap.size→φc' c < liftF φ w.heap.size KK b:=by
  intro b c hcm hb
  have:=le_foldr_max ((hc'.map (·.1)).map φc') (φc' c) (List.mem_map_of_mem hcm)
  rw [hψge b hb]; omega
 have hψinj:∀ b d,liftF φ w.heap.size KK b=liftF φ w.heap.size KK d→φ b=φ d:=by
  intro b d e
  by_cases e1:φ b < w.heap.size <;> by_cases e2:φ d < w.heap.size
  ·rw [hψlt b e1,hψlt d e2] at e; exact e
  ·rw [hψlt b e1,hψge d e2] at e; omega
  ·rw [hψge b e1,hψlt d e2] at e; omega
  ·rw [hψge b e1,hψge d e2] at e; omega
 have hex:∃ φ':Nat→Nat,(∀ c,c ∈ hc'.map (·.1)→φ' (ρ c)=φc' c)∧(∀ b,b ∉ (hc'.map (·.1)).map ρ→φ' b=liftF φ w.heap.size KK b):=by
  refine ⟨fun b=>match (hc'.map (·.1)).find? (fun c=>ρ c == b) with | some c=>φc' c | none=>liftF φ w.heap.size KK b,fun c hcc=>?_,fun b hb=>?_⟩
  ·cases hf:(hc'.map (·.1)).find? (fun d=>ρ d == ρ c) with
   | none =>
    have:=List.find?_eq_none.1 hf c hcc
    simp at this
   | some d =>
    have h1:=List.find?_some hf
    have h2:=List.mem_of_find?_eq_some hf
    simp only [beq_iff_eq] at h1
    simp only [hf]
    rw [hd3 d h2 c hcc h1]
  ·cases hf:(hc'.map (·.1)).find? (fun d=>ρ d == b) with
   | none=>simp only [hf]
   | some d =>
    have h1:=List.find?_some hf
    have h2:=List.mem_of_find?_eq_some hf
    simp only [beq_iff_eq] at h1
    exact absurd (by rw [← h1]; exact List.mem_map_of_mem h2) hb
 obtain ⟨φ',hφ1,hφ2⟩:=hex
 have hin:∀ c k,look hc' c=some k→c ∈ hc'.map (·.1):=fun c k hk=>look_mem.1 (by rw [hk]; simp)
 have hlookI:∀ c k,look hc' c=some k→look (backH ρ hc' s.H) (ρ c)=some (renB ρ k):=by
  intro c k hk
  unfold backH
  rw [look_append,look_ren (fun x y hx hy hxy=>hd3 x hx y (by rcases List.mem_cons.1 hy with rfl | hy; exact hin _ _ hk; exact hy) hxy),hk]
  rfl
 have hlookR:∀ b,b ∉ (hc'.map (·.1)).map ρ→look (backH ρ hc' s.H) b=look s.H b:=by
  intro b hb
  unfold backH
  rw [look_append,look_ren_none (fun c hcc e=>hb (by rw [← e]; exact List.mem_map_of_mem hcc))]
 have hcase:∀ b k,look (backH ρ hc' s.H) b=some k→(∃ c k',look hc' c=some k'∧ρ c=b∧k=renB ρ k')∨(b ∉ (hc'.map (·.1)).map ρ∧look s.H b=some k):=by
  intro b k hb
  by_cases hm:b ∈ (hc'.map (·.1)).map ρ
  ·obtain ⟨c,hcm,rfl⟩:=List.mem_map.1 hm
   obtain ⟨k',hk'⟩:=zNE.1 (look_mem.2 hcm)
   rw [hlookI c k' hk'] at hb
   exact .inl ⟨c,k',hk',rfl,(Option.some.inj hb).symm⟩
  ·exact .inr ⟨hm,by rw [← hlookR b hm]; exact hb⟩
 have hmut':∀ x o,Mut φ' (look (backH ρ hc' s.H)) x o→Mut φc' (look hc') x o∨(Mut φ hr x o∧x < w.heap.size)∨w'.heap.size≤x:=by
  rintro x o ⟨b,k,h1,h2,h3⟩
  rcases hcase b k h1 with ⟨c,k',g1,rfl,rfl⟩ | ⟨g1,g2⟩
  ·left
   refine ⟨c,k',g1,?_,?_⟩
   ·rw [← hφ1 c (hin _ _ g1)]; exact h2
   ·cases k' <;> exact h3
  ·right
   rw [hφ2 b g1] at h2
   by_cases hlt:φ b < w.heap.size
   ·rw [hψlt b hlt] at h2
    exact .inl ⟨⟨b,k,by simp only [hr]; rw [if_neg (hsubr b g1)]; exact g2,h2,h3⟩,by omega⟩
   ·rw [hψge b hlt] at h2
    exact .inr zo
 have hM':∀ x o v,w'.cell? ⟨x,o,none⟩=some v→MM φ' (look (backH ρ hc' s.H)) M0 x o→MM φc' (look hc') (MB φ hr w M0) x o:=by
  rintro x o v hcell (h1 | h1)
  ·rcases hmut' x o h1 with h2 | h2 | h2
   ·exact .inl h2
   ·exact .inr ⟨.inl h2.1,h2.2⟩
   ·have:=cell_lt hcell; omega
  ·exact .inr ⟨.inr h1,r.hp.lt x o h1⟩
 obtain ⟨out1,out2⟩:=ren_out' (w:=w') (ρ:=ρ) (φ:=φ') (φc:=φc') (h:=look (backH ρ hc' s.H)) (hc:=look hc') (fun c hcc=>hφ1 c (look_mem.1 hcc)) hM' hlookI
 have hE1:Evol φ (look s.H) w φ' (look (backH ρ hc' s.H)) w'∧HExt φ (look s.H) w φ' (look (backH ρ hc' s.H)) w':=by
  have hb:∀ b ty cs,look s.H b=some (.box ty cs)→(∃ cs',look (backH ρ hc' s.H) b=some (.box ty cs'))∧φ' b=φ b:=by
   intro b ty cs hb
   by_cases hm:b ∈ (hc.map (·.1)).map ρ
   ·obtain ⟨c,hcm,rfl⟩:=List.mem_map.1 hm
    obtain ⟨k,hk⟩:=zNE.1 (look_mem.2 hcm)
    obtain ⟨k0,e0,e1⟩:=hsub c k hk
    rw [hb] at e0
    cases e0
    cases k with
    | box ty1 cs1 =>
     simp only [leB,renB,Blk.box.injEq] at e1
     obtain ⟨cs2,⟨e2,_⟩,_⟩:=e1
     obtain ⟨⟨cs3,e3⟩,e4⟩:=E.kb c ty1 cs1 (hbig c hcm) hk
     refine ⟨⟨rens ρ cs3,by rw [hlookI c _ e3,e2]; rfl⟩,by rw [hφ1 c (hd1 c hcm),e4]⟩
    | _=>simp [leB,renB] at e1
   ·have hm':=hnb b _ hb hm
    exact ⟨⟨cs,by rw [hlookR b hm']; exact hb⟩,(hφ2 b hm').trans (lift_blk r.hp KK hb (fun _ _ e=>by cases e))⟩
  have ht:∀ t ty S n,look s.H t=some (.arr ty S n)→∃ n',look (backH ρ hc' s.H) t=some (.arr ty S n')∧n≤n' ∧
    (n'=n→AKept w w' (φ t) (φ' t) ty):=by
   intro t ty S n htt
   by_cases hm:t ∈ (hc.map (·.1)).map ρ
   ·obtain ⟨c,hcm,rfl⟩:=List.mem_map.1 hm
    obtain ⟨k,hk⟩:=zNE.1 (look_mem.2 hcm)
    obtain ⟨k0,e0,e1⟩:=hsub c k hk
    rw [htt] at e0
    cases e0
    cases k with
    | arr ty1 S1 n1 =>
     simp only [leB,renB,Blk.arr.injEq] at e1
     obtain ⟨rfl,rfl,rfl⟩:=e1
     obtain ⟨n',e3,e4,e5⟩:=E.kt c ty1 S1 n1 (hbig c hcm) hk
     refine ⟨n',by rw [hlookI c _ e3]; rfl,e4,fun e6=>?_⟩
     obtain ⟨e9,e10⟩:=e5 e6
     refine ⟨fun h0=>by rw [hφ1 c (hd1 c hcm)]; exact e9 h0,?_⟩
     rcases e10 with e7 | ⟨e7,e8⟩
     ·exact .inl e7
     exact .inr ⟨by rw [hφ1 c (hd1 c hcm),e7],e8⟩
    | _=>simp [leB,renB] at e1
   ·have hm':=hnb t _ htt hm
    refine ⟨n,by rw [hlookR t hm']; exact htt,zNR _,fun _=>?_⟩
    by_cases hlt:φ t < w.heap.size
    rotate_left
    ·exact akept_none (none_of_le zo) (by rw [hφ2 t hm',hψge t hlt]; exact none_of_le zo)
    refine akept ((hφ2 t hm').trans (hψlt t hlt)) (E.same (φ t) hlt (fun d hdd he=>?_))
    ·obtain ⟨kd,hkd⟩:=zNE.1 hdd
     obtain ⟨k0,e0,_⟩:=hsub d kd hkd
     have:=r.hp.inj (ρ d) t (by rw [e0]; simp) (by rw [htt]; simp) he
     exact hm (by rw [← this]; exact List.mem_map_of_mem (hdomc d hdd))
  have hv:∀ t ty S n,look s.H t=some (.vec ty S n)→∃ n',look (backH ρ hc' s.H) t=some (.vec ty S n')∧n.length≤n'.length ∧
    (n'.length=n.length→φ' t=φ t∧∀ c,w.heap[φ t]?=some (.cells c ty (0,0))→∃ c',w'.heap[φ t]?=some (.cells c' ty (0,0))∧c'.size=c.size):=by
   intro t ty S n htt
   by_cases hm:t ∈ (hc.map (·.1)).map ρ
   ·obtain ⟨c,hcm,rfl⟩:=List.mem_map.1 hm
    obtain ⟨k,hk⟩:=zNE.1 (look_mem.2 hcm)
    obtain ⟨k0,e0,e1⟩:=hsub c k hk
    rw [htt] at e0
    cases e0
    cases k with
    | vec ty1 S1 n1 =>
     simp only [leB,renB,Blk.vec.injEq] at e1
     obtain ⟨rfl,rfl,rfl⟩:=e1
     obtain ⟨n',e3,e4,e5⟩:=E.kv c ty1 S1 n1 (hbig c hcm) hk
     refine ⟨n',by rw [hlookI c _ e3]; rfl,e4,fun e6=>?_⟩
     obtain ⟨e7,e8⟩:=e5 e6
     exact ⟨by rw [hφ1 c (hd1 c hcm),e7],e8⟩
    | _=>simp [leB,renB] at e1
   ·have hm':=hnb t _ htt hm
    refine ⟨n,by rw [hlookR t hm']; exact htt,zNR _,fun _=>⟨(hφ2 t hm').trans (hψlt t (relH_ltv r.hp htt)),fun c hcc=>⟨c,?_,rfl⟩⟩⟩
    rw [E.same (φ t) (relH_ltv r.hp htt) (fun d hdd he=>?_)]
    ·exact hcc
    ·obtain ⟨kd,hkd⟩:=zNE.1 hdd
     obtain ⟨k0,e0,_⟩:=hsub d kd hkd
     have:=r.hp.inj (ρ d) t (by rw [e0]; simp) (by rw [htt]; simp) he
     exact hm (by rw [← this]; exact List.mem_map_of_mem (hdomc d hdd))
  have hob:∀ b k x,look s.H b=some k→k.ob=some x→(∃ k',look (backH ρ hc' s.H) b=some k'∧k'.ob=some x)∧φ' b=φ b:=by
   intro b k x hb ho
   by_cases hm:b ∈ (hc.map (·.1)).map ρ
   ·obtain ⟨c,hcm,rfl⟩:=List.mem_map.1 hm
    obtain ⟨k2,hk⟩:=zNE.1 (look_mem.2 hcm)
    obtain ⟨k0,e0,e1⟩:=hsub c k2 hk
    rw [hb] at e0
    cases e0
    have e2:=leB_ob e1 ho
    rw [renB_ob] at e2
    cases ho2:k2.ob with
    | none=>rw [ho2] at e2; cases e2
    | some x2 =>
     rw [ho2] at e2
     obtain ⟨⟨k',e3,e4⟩,e5⟩:=E.ko c k2 x2 (hbig c hcm) hk ho2
     exact ⟨⟨renB ρ k',hlookI c _ e3,by rw [renB_ob,e4]; exact e2⟩,by rw [hφ1 c (hd1 c hcm),e5]⟩
   ·have hm':=hnb b _ hb hm
    exact ⟨⟨k,by rw [hlookR b hm']; exact hb,ho⟩,(hφ2 b hm').trans (lift_blk r.hp KK hb (fun ty S e=>by rw [e] at ho; cases ho))⟩
  refine ⟨⟨E.os,E.tape,E.output,E.size,E.um,fun x hx hno=>E.same x hx (fun c hcc he=>?_),fun x o hx hm=>E.cell x o hx (fun h1=>hm (hmutc x o h1)),fun x o hx hm=>?_,fun b ty cs _ hbb=>hb b ty cs hbb,fun t ty S n _ htt=>ht t ty S n htt,fun t ty S n _ htt=>hv t ty S n htt,fun b k x _=>hob b k x⟩,
   fun b ty cs hbb=>⟨(hb b ty cs hbb).1.elim fun cs' h=>⟨ty,cs',h⟩,(hb b ty cs hbb).2⟩,ht,hv,hob⟩
  ·obtain ⟨kc,hkc⟩:=zNE.1 hcc
   obtain ⟨k0,e0,_⟩:=hsub c kc hkc
   exact hno (ρ c) (by rw [e0]; simp) he
  ·rcases hmut' x o hm with h1 | h1 | h1
   ·exact hmutc x o (E.mu x o hx h1)
   ·exact hmutr x o h1.1
   ·have:=E.size; omega
 obtain ⟨E1,X1⟩:=hE1
 have hH1:RelH φ' (look (backH ρ hc' s.H)) w' M0:=by
  refine ⟨fun b d hb hd' he=>?_,fun b k hb=>?_,fun b hb o hm=>?_,fun x o hm=>Nat.lt_of_lt_of_le (r.hp.lt x o hm) E.size,r.hp.gm.evol E1⟩
  ·obtain ⟨kb,hkb⟩:=zNE.1 hb
   obtain ⟨kd,hkd⟩:=zNE.1 hd'
   have mixed:∀ c k' b k,look hc' c=some k'→b ∉ (hc'.map (·.1)).map ρ→look s.H b=some k→φc' c ≠ liftF φ w.heap.size KK b:=by
    intro c k' b k g1 g2 g3 g4
    by_cases hlt:φ b < w.heap.size
    rotate_left
    ·have:=hψc b c (hin _ _ g1) hlt; omega
    rw [hψlt b hlt] at g4
    have hhr:hr b=some k:=by simp only [hr]; rw [if_neg (hsubr b g2)]; exact g3
    obtain ⟨o,ho⟩:=mut_big (φ:=φ) hhr
    exact hHc'.fr c (by rw [g1]; simp) o (by rw [g4]; exact ⟨.inl ho,hlt⟩)
   rcases hcase b kb hkb with ⟨c,k',g1,rfl,_⟩ | ⟨g1,g2⟩ <;> rcases hcase d kd hkd with ⟨c2,k2,g3,rfl,_⟩ | ⟨g3,g4⟩
   ·rw [hφ1 c (hin _ _ g1),hφ1 c2 (hin _ _ g3)] at he
    rw [hHc'.inj c c2 (by rw [g1]; simp) (by rw [g3]; simp) he]
   ·rw [hφ1 c (hin _ _ g1),hφ2 d g3] at he
    exact absurd he (mixed c k' d kd g1 g3 g4)
   ·rw [hφ1 c2 (hin _ _ g3),hφ2 b g1] at he
    exact absurd he.symm (mixed c2 k2 b kb g3 g1 g2)
   ·rw [hφ2 b g1,hφ2 d g3] at he
    exact r.hp.inj b d (by rw [g2]; simp) (by rw [g4]; simp) (hψinj b d he)
  ·rcases hcase b k hb with ⟨c,k',g1,rfl,rfl⟩ | ⟨g1,g2⟩
   ·rw [hφ1 c (hin _ _ g1)]
    have:=hHc'.blk c k' g1
    cases k' with
    | box ty cs=>obtain ⟨c0,h1,h2⟩:=this; exact ⟨c0,h1,out2 _ _ h2⟩
    | arr ty S n=>exact this
    | vec ty S es=>obtain ⟨c0,cap,q1,q2,q3,q4,q5,q6,q7⟩:=this; exact ⟨c0,cap,q1,q2,q3,q4,q5,q6,repAs_ps' hM' _ _ q7⟩
    | lp T nf st pd =>
     obtain ⟨tmps,d,q1,q2,q3⟩:=this
     refine ⟨tmps,d,q1,q2,fun t x ht=>?_⟩
     rw [look_mapT] at ht
     cases hl:look T t with
     | none=>rw [hl] at ht; cases ht
     | some y =>
      rw [hl] at ht
      cases ht
      exact ⟨(q3 t y hl).1,out1 _ _ (q3 t y hl).2⟩
    | mp es =>
     obtain ⟨en,cl,q1,q2,q3⟩:=this
     refine ⟨en,cl,q1,q2,?_⟩
     have:=out2 _ _ q3
     rw [rens_p] at this; exact this
    | mm S G =>
     obtain ⟨en,cl,L,ks,q1,q2,q3,q4,q5⟩:=this
     have k3:=out2 _ _ q3
     have k4:=out2 _ _ q4
     rw [rens_pf] at k3 k4
     exact ⟨en,cl,L,ks,q1,q2,k3,k4,q5⟩
    | mf es =>
     obtain ⟨en,cl,q1,q2,q3,q4⟩:=this
     exact ⟨en,cl,q1,by rw [keys_on]; exact q2,by rw [rens_on]; exact out2 _ _ q3,q4⟩
    | mg en cl es =>
     obtain ⟨q1,q2,q3,q4⟩:=this
     exact ⟨q1,by rw [keys_on]; exact q2,by rw [rens_on]; exact out2 _ _ q3,q4⟩
    | it m cl sn =>
     obtain ⟨q1,k2,q2,q3⟩:=this
     exact ⟨by rw [hφ1 m (hin _ _ q2)]; exact q1,renB ρ k2,hlookI m _ q2,by rw [renB_ob,q3]; rfl⟩
   ·rw [hφ2 b g1]
    by_cases hlt:φ b < w.heap.size
    rotate_left
    ·refine relB_keep (E1.keeps M0) X1 ?_ (r.hp.blk b k g2)
     rw [none_of_le (by omega:w.heap.size≤φ b),none_of_le (by rw [hψge b hlt]; omega)]
    rw [hψlt b hlt]
    refine relB_keep (E1.keeps M0) X1 (E.same (φ b) hlt (fun d hdd he=>?_)) (r.hp.blk b k g2)
    obtain ⟨kd,hkd⟩:=zNE.1 hdd
    obtain ⟨k0,e0,_⟩:=hsub d kd hkd
    have:=r.hp.inj (ρ d) b (by rw [e0]; simp) (by rw [g2]; simp) he
    exact hsubr b g1 (by rw [← this]; exact List.mem_map_of_mem (hdomc d hdd))
  ·obtain ⟨kb,hkb⟩:=zNE.1 hb
   rcases hcase b kb hkb with ⟨c,k',g1,rfl,_⟩ | ⟨g1,g2⟩
   ·rw [hφ1 c (hin _ _ g1)] at hm
    exact hHc'.fr c (by rw [g1]; simp) o ⟨.inr hm,r.hp.lt _ _ hm⟩
   ·rw [hφ2 b g1] at hm
    by_cases hlt:φ b < w.heap.size
    ·rw [hψlt b hlt] at hm
     exact r.hp.fr b (by rw [g2]; simp) o hm
    ·have:=r.hp.lt _ _ hm
     rw [hψge b hlt] at this
     omega
 have r1:Rel φ' M0 N D (look s.T) (look H2) a w':=by rw [hH2']; exact r.keep E1 X1 hH1
 rw [← hH2'] at E1 out1
 cases res with
 | ret x =>
  obtain ⟨v,rfl,hv⟩:=hE
  refine ⟨φ',_,hfin,Rel.put (s:=⟨s.T,H2⟩) r1 hd (out1 _ _ hv),?_⟩
  cases dst <;> exact E1
 | panic x =>
  obtain ⟨v,rfl,hv⟩:=hE
  exact ⟨φ', .panic (ren ρ x),_,hfin,r1,E1,v,rfl,out1 _ _ hv⟩
theorem call_frame {P:Program} {N:Nat} {f:FuncId} {args args':List AV} {dst:Option Tmp} {s:St} {K:St→Prop} {Q:AX→St→Prop} {hc:List (Nat × Blk)} {R:AEnd→Heap→Prop} (ρ:Nat→Nat)
  (hcall:ACall P f args' (look hc) R) (hargs:les args (rens ρ args')) (hok:okRefs (look hc) args'=true)
  (hbig:∀ c ∈ hc.map (·.1),1000≤c) (hokb:∀ c k,look hc c=some k→okRefB (look hc) k=true)
  (hsub:∀ c k,look hc c=some k→∃ k0,look s.H (ρ c)=some k0∧leB k0 (renB ρ k))
  (hinj:∀ c ∈ hc.map (·.1),∀ d ∈ hc.map (·.1),ρ c=ρ d→c=d) (hd:∀ t,dst=some t→t < N)
  (hret:∀ r h',R r h'→∃ hc' H2,h'=look hc'∧outDom ρ hc hc' s.H∧(∀ b,look H2 b=look (backH ρ hc' s.H) b) ∧
   (match r with | .ret x=>K (St.put ⟨s.T,H2⟩ dst (ren ρ x)) | .panic x=>Q (.panic (ren ρ x)) ⟨s.T,H2⟩)):CallEx P N f args dst s K Q :=
 fun φ M0 D a w vs r ha=>frame_core (C:=fun _ vs w R=>Calls P f vs w R) (fun _ _ _ _ _ h hq=>h.mono hq) ρ hcall hargs hok hbig hokb hsub hinj hd hret φ M0 D a w vs r ha
theorem YAt.mono {P:Program} {l:Nat} {args:Array Value} {w:World} {R R':Ending→World→Prop} (h:YAt P l args w R) (hq:∀ e w',R e w'→R' e w'):YAt P l args w R':=by
 obtain ⟨fn,tmps,assign,body,h1,h2⟩:=h
 exact ⟨fn,tmps,assign,body,h1,h2.mono hq⟩
def endR (P:Program) (fn:Func) (hc:List (Nat × Blk)) (R:AEnd→Heap→Prop) (s:St):Prop :=
 ∃ x y hc',resA P fn (look s.T) (look s.H)=some x∧le x y∧okRef (look hc') y=true∧subH (look s.H) (look hc') hc'∧keepsAll (look hc') hc=true∧R (.ret y) (look hc')
def bodyR (P:Program) (fn:Func) (hc:List (Nat × Blk)) (R:AEnd→Heap→Prop):AX→St→Prop
 | .ret,s=>endR P fn hc R s
 | .normal,s=>endR P fn hc R s
 | .panic x,s=>∃ y hc',le x y∧okRef (look hc') y=true∧subH (look s.H) (look hc') hc'∧keepsAll (look hc') hc=true∧R (.panic y) (look hc')
 | .exit _,_=>False
theorem sub_conv {φ φ0:Nat→Nat} {M0:Mset} {N:Nat} {D:DB} {s:St} {hc hc':List (Nat × Blk)} {a:Act} {w w0:World} (r:Rel φ M0 N D (look s.T) (look s.H) a w) (E:Evol φ0 (look hc) w0 φ (look s.H) w)
  (h1:subH (look s.H) (look hc') hc') (h2:keepsAll (look hc') hc=true) :
  RelH φ (look hc') w M0∧Evol φ0 (look hc) w0 φ (look hc') w∧∀ x v,okRef (look hc') x=true→RepA φ (look s.H) w (MM φ (look s.H) M0) x v→RepA φ (look hc') w (MM φ (look hc') M0) x v:=by
 have hh:∀ b k',look hc' b=some k'→∃ k,look s.H b=some k∧leB k k':=fun b k' hb=>(subH_spec h1 b k' hb).1
 have hmut:∀ r o,Mut φ (look hc') r o→Mut φ (look s.H) r o:=by
  rintro x o ⟨b,k',g1,g2,g3⟩
  obtain ⟨k,g4,g5⟩:=hh b k' g1
  refine ⟨b,k,g4,g2,?_⟩
  cases k with
  | arr ty S n=>simp only [leB] at g5; subst g5; exact g3
  | _=>trivial
 have hM:∀ r o,MM φ (look hc') M0 r o→MM φ (look s.H) M0 r o:=fun x o hx=>hx.elim (fun h=>.inl (hmut x o h)) .inr
 have hdom:∀ b,look hc' b ≠ none→look s.H b ≠ none:=fun b hb=>by
  cases hq:look hc' b with
  | none=>exact absurd hq hb
  | some k'=>obtain ⟨k,h1,_⟩:=hh b k' hq; rw [h1]; simp
 obtain ⟨c1,c2⟩:=repA_sub (φ:=φ) (w:=w) hM hh
 refine ⟨⟨fun b c hb hc=>r.hp.inj b c (hdom b hb) (hdom c hc),fun b k' hb=>?_,fun b hb=>r.hp.fr b (hdom b hb),r.hp.lt,r.hp.gm.sub hM⟩,?_,fun x v hx hv=>c1 x v hx hv⟩
 ·obtain ⟨⟨k,g1,g2⟩,g3⟩:=subH_spec h1 b k' hb
  have g4:=r.hp.blk b k g1
  cases k with
  | box ty cs =>
   simp only [leB] at g2
   obtain ⟨cs',rfl,g5⟩:=g2
   obtain ⟨c,g6,g7⟩:=g4
   exact ⟨c,g6,c2 _ _ g3 (le_rep.2 _ _ _ g5 g7)⟩
  | arr ty S n=>simp only [leB] at g2; subst g2; exact g4
  | vec ty S es=>simp only [leB] at g2; subst g2; obtain ⟨c,cap,q1,q2,q3,q4,q5,q6,q7⟩:=g4; exact ⟨c,cap,q1,q2,q3,q4,q5,q6,c2 _ _ (okRefs_p _ _) q7⟩
  | lp T nf st pd=>simp only [leB] at g2; subst g2; obtain ⟨tmps,d,q1,q2,q3⟩:=g4; exact ⟨tmps,d,q1,q2,fun t x ht=>⟨(q3 t x ht).1,c1 _ _ (okRefs_look g3 ht) (q3 t x ht).2⟩⟩
  | mp es=>simp only [leB] at g2; subst g2; obtain ⟨en,cl,q1,q2,q3⟩:=g4; exact ⟨en,cl,q1,q2,c2 _ _ (okRefs_mp _ _) q3⟩
  | mm S G=>simp only [leB] at g2; subst g2; obtain ⟨en,cl,L,ks,q1,q2,q3,q4,q5⟩:=g4; exact ⟨en,cl,L,ks,q1,q2,c2 _ _ (okRefs_pf _ _ _) q3,c2 _ _ (okRefs_pf _ _ _) q4,q5⟩
  | mf es=>simp only [leB] at g2; subst g2; obtain ⟨en,cl,q1,q2,q3,q4⟩:=g4; exact ⟨en,cl,q1,q2,c2 _ _ (okRefs_on g3) q3,q4⟩
  | mg en cl es=>simp only [leB] at g2; subst g2; obtain ⟨q1,q2,q3,q4⟩:=g4; exact ⟨q1,q2,c2 _ _ (okRefs_on g3) q3,q4⟩
  | it m cl sn =>
   simp only [leB] at g2
   subst g2
   obtain ⟨q1,k0,q2,q3⟩:=g4
   obtain ⟨km,hkm⟩:=zIE.1 g3
   obtain ⟨k1,q5,q6⟩:=hh m km hkm
   rw [q2] at q5
   cases q5
   exact ⟨q1,km,hkm,leB_ob q6 q3⟩
 ·refine ⟨E.os,E.tape,E.output,E.size,E.um,E.same,E.cell,fun x o hx hm=>E.mu x o hx (hmut x o hm),?_,?_,?_,?_⟩
  ·intro b ty cs hb hbb
   obtain ⟨⟨cs1,g1⟩,g2⟩:=E.kb b ty cs hb hbb
   obtain ⟨k',g3⟩:=keepsAll_spec h2 b _ hb hbb
   obtain ⟨k,g4,g5⟩:=hh b k' g3
   rw [g1] at g4
   cases g4
   simp only [leB] at g5
   obtain ⟨cs',g6,_⟩:=g5
   exact ⟨⟨cs',by rw [g3,g6]⟩,g2⟩
  ·intro t ty S n ht htt
   obtain ⟨n',g1,g2,g3⟩:=E.kt t ty S n ht htt
   obtain ⟨k',g4⟩:=keepsAll_spec h2 t _ ht htt
   obtain ⟨k,g5,g6⟩:=hh t k' g4
   rw [g1] at g5
   cases g5
   simp only [leB] at g6
   exact ⟨n',by rw [g4,g6],g2,g3⟩
  ·intro t ty S n ht htt
   obtain ⟨n',g1,g2,g3⟩:=E.kv t ty S n ht htt
   obtain ⟨k',g4⟩:=keepsAll_spec h2 t _ ht htt
   obtain ⟨k,g5,g6⟩:=hh t k' g4
   rw [g1] at g5
   cases g5
   simp only [leB] at g6
   exact ⟨n',by rw [g4,g6],g2,g3⟩
  ·intro b k x hb hbb ho
   obtain ⟨⟨k1,g1,g2⟩,g3⟩:=E.ko b k x hb hbb ho
   obtain ⟨k',g4⟩:=keepsAll_spec h2 b _ hb hbb
   obtain ⟨k2,g5,g6⟩:=hh b k' g4
   rw [g1] at g5
   cases g5
   exact ⟨⟨k',g4,leB_ob g6 g2⟩,g3⟩
theorem endR_out {P:Program} {fn:Func} {R:AEnd→Heap→Prop} {φ φ0:Nat→Nat} {hc:List (Nat × Blk)} {w0:World} {M0:Mset} {N:Nat} {D:DB} {s:St} {a:Act} {w:World} (r:Rel φ M0 N D (look s.T) (look s.H) a w)
  (E:Evol φ0 (look hc) w0 φ (look s.H) w) (h:endR P fn hc R s):∃ v,(results fn a.tmps).run P w=.ok v w∧Out R φ0 (look hc) w0 M0 (.returned v) w:=by
 obtain ⟨x,y,hc',h1,h2,h3,h4,h5,h6⟩:=h
 obtain ⟨v,g1,g2⟩:=resA_ok r h1
 obtain ⟨k1,k2,k3⟩:=sub_conv r E h4 h5
 exact ⟨v,g1,φ, .ret y,look hc',h6,k1,k2,v,rfl,k3 _ _ h3 (le_rep.1 _ _ _ h2 g2)⟩
theorem acall_of_ex {P:Program} {f:FuncId} {fn:Func} {c:Code} {args:List AV} {hc:List (Nat × Blk)} {R:AEnd→Heap→Prop} (hf:P.funcs[f]?=some fn) (hb:fn.body=some c) (hl:args.length≤fn.ntmps)
  (h:Ex P fn.ntmps none c ⟨argsT 0 args,hc⟩ (bodyR P fn hc R)):ACall P f args (look hc) R:=by
 intro φ M0 w vs hH ha
 refine calls_of_ex hf hb hl hH ha h ?_ ?_ ?_
 ·intro x s φ' a w' hq hx r E
  exact endR_out r E (by rcases hx with rfl | rfl <;> exact hq)
 ·intro x s φ' a w' v hq r E hv
  obtain ⟨y,hc',g1,g2,g3,g4,g5⟩:=hq
  obtain ⟨k1,k2,k3⟩:=sub_conv r E g3 g4
  exact ⟨φ', .panic y,look hc',g5,k1,k2,v,rfl,k3 _ _ g2 (le_rep.1 _ _ _ g1 hv)⟩
 ·intro i s hq
  exact hq
def nilI:AV:=.p (.val .nilIface)
theorem marks_inj:∀ {a b:List Nat},(a.map fun r=>({ target:=.collected r,args:=#[] }:Deferred))=(b.map fun r=>({ target:=.collected r,args:=#[] }:Deferred))→a=b
 | [],[],_=>rfl
 | [],_ :: _,h=>by cases h
 | _ :: _,[],h=>by cases h
 | x :: a,y :: b,h=>by
  simp only [zMC,List.cons.injEq,Deferred.mk.injEq,Target.collected.injEq,and_true] at h
  rw [h.1,marks_inj h.2]
theorem repAs_getP {φ:Nat→Nat} {h:Heap} {w:World} {M:Mset}:∀ {cs:List PV} {l:List Value},RepAs φ h w M (cs.map .p) l→∀ (j:Nat) (c:PV),cs[j]?=some c→∃ v:Value,l[j]?=some v∧RepP w M c v
 | [],l,_,j,c,hj=>by simp at hj
 | x :: cs,l,hr,j,c,hj=>by
  simp only [zMC,RepAs,RepA] at hr
  obtain ⟨y,ys,rfl,h1,h2⟩:=hr
  cases j with
  | zero=>simp at hj; subst hj; exact ⟨y,by simp,h1⟩
  | succ j =>
   obtain ⟨v,h3,h4⟩:=repAs_getP h2 j c (by simpa using hj)
   exact ⟨v,by simpa using h3,h4⟩
structure Good (ks:List Nat) (H:List (Nat × Blk)):Prop where
 keys:H.map (·.1)=ks
 ok:∀ c k,look H c=some k→okRefB (look H) k=true
attribute [go_sem] noRef noRefs ren rens leBO leB le les okRef okRefs
mutual
def flat:AV→Bool
 | .p (.val _)=>true
 | .agg l=>flats l
 | .tup l=>flats l
 | .ifc _ x=>flat x
 | _=>false
def flats:List AV→Bool
 | []=>true
 | x :: xs=>flat x&&flats xs
end
theorem repA_flat {φ φ':Nat→Nat} {h h':Heap} {w w':World} {M M':Mset}:(∀ (x:AV) (v:Value),flat x=true→RepA φ h w M x v→RepA φ' h' w' M' x v)∧(∀ (xs:List AV) (l:List Value),flats xs=true→RepAs φ h w M xs l→RepAs φ' h' w' M' xs l):=by
 have key:∀ n:Nat,(∀ (x:AV),SizeOf.sizeOf x≤n→∀ v,flat x=true→RepA φ h w M x v→RepA φ' h' w' M' x v)∧(∀ (xs:List AV),SizeOf.sizeOf xs≤n→∀ l,flats xs=true→RepAs φ h w M xs l→RepAs φ' h' w' M' xs l):=by
  intro n
  induction n with
  | zero =>
   refine ⟨fun x hx=>?_,fun es hx=>?_⟩
   ·cases x <;> simp at hx
   ·cases es <;> simp at hx
  | succ n ih =>
   obtain ⟨i1,i2⟩:=ih
   refine ⟨fun x hx v hf hv=>?_,fun xs hx l hf hv=>?_⟩
   ·cases x with
    | p x=>cases x with
     | val u=>simp only [RepA,RepP] at hv ⊢; exact hv
     | sl S es=>simp [flat] at hf
     | ad S es=>simp [flat] at hf
     | slu S es=>simp [flat] at hf
    | agg l=>simp only [flat,RepA] at hf hv ⊢; obtain ⟨m,h1,h2⟩:=hv; exact ⟨m,h1,i2 l (by simp at hx; omega) m hf h2⟩
    | tup l=>simp only [flat,RepA] at hf hv ⊢; obtain ⟨m,h1,h2⟩:=hv; exact ⟨m,h1,i2 l (by simp at hx; omega) m hf h2⟩
    | ifc t x=>simp only [flat,RepA] at hf hv ⊢; obtain ⟨y,h1,h2⟩:=hv; exact ⟨y,h1,i1 x (by simp at hx; omega) y hf h2⟩
    | _=>simp [flat] at hf
   ·cases xs with
    | nil=>simpa [RepAs] using hv
    | cons x xs =>
     simp only [flats,bae,RepAs] at hf hv ⊢
     simp at hx
     obtain ⟨y,ys,h1,h2,h3⟩:=hv
     exact ⟨y,ys,h1,i1 x zo y hf.1 h2,i2 xs zo ys hf.2 h3⟩
 exact ⟨fun x v=>(key (SizeOf.sizeOf x)).1 x (zNR _) v,fun xs l=>(key (SizeOf.sizeOf xs)).2 xs (zNR _) l⟩
def leR (H:Heap) (x y:AV):Prop :=
 le x y∨∃ (b off:Nat) (ty:TypeId) (l:List AV) (cs:List PV),x=.ptr b off∧y=.eptr (cs.drop off)∧H b=some (.box ty l)∧les l (cs.map .p)∧allOne (cs.map .p)=true
def lesR (H:Heap):List AV→List AV→Prop
 | [],ys=>ys=[]
 | x :: xs,ys=>∃ z zs,ys=z :: zs∧leR H x z∧lesR H xs zs
def roK (K:St→Prop) (Q:AX→St→Prop) (s:St) (dst:Option Tmp):AEnd→Prop
 | .ret x=>flat x=true∧K (s.put dst x)
 | .panic x=>flat x=true∧Q (.panic x) s
theorem call_ro {P:Program} {N:Nat} {f:FuncId} {args args':List AV} {dst:Option Tmp} {s:St} {K:St→Prop} {Q:AX→St→Prop} {X:AEnd}
  (hc:PCall P f args' X) (hle:lesR (look s.H) args args') (hn:noRefs args'=true) (hd:∀ t,dst=some t→t < N) (hx:roK K Q s dst X):CallEx P N f args dst s K Q:=by
 intro φ M0 D a w vs r ha
 let M1:Mset:=fun x o=>MB φ (look s.H) w M0 x o∧¬ ∃ b ty l,look s.H b=some (.box ty l)∧φ b=x
 have hH:RelH φ emp w M1:=relH_emp (fun x o hm=>mb_lt hm.1) r.hp.gm.w (fun g hg o h=>r.hp.gm.m g hg o h.1.1)
 have hM:∀ r o v,w.cell? ⟨r,o,none⟩=some v→¬ MM φ (look s.H) M0 r o→w.cell? ⟨r,o,none⟩=some v∧¬ MM φ emp M1 r o∧(Unm w r→Unm w r):=fun r o v h1 h2=>⟨h1,fun h3=>h3.elim not_mut_emp (fun h4=>h2 h4.1.1),id⟩
 have hP:=(repP_keep (w:=w) (w':=w) (M:=MM φ (look s.H) M0) (M':=MM φ emp M1) hM)
 have conv:∀ (xs ys:List AV) (vs:List Value),lesR (look s.H) xs ys→noRefs ys=true→RepAs φ (look s.H) w (MM φ (look s.H) M0) xs vs→RepAs φ emp w (MM φ emp M1) ys vs:=by
  intro xs
  induction xs with
  | nil=>intro ys vs h1 _ h2; simp only [lesR] at h1; subst h1; simpa [RepAs] using h2
  | cons x xs ih =>
   intro ys vs h1 h0 h2
   simp only [lesR] at h1
   obtain ⟨z,zs,rfl,h3,h4⟩:=h1
   simp only [noRefs,bae] at h0
   simp only [RepAs] at h2 ⊢
   obtain ⟨v,vs',rfl,h5,h6⟩:=h2
   refine ⟨v,vs',rfl,?_,ih zs vs' h4 h0.2 h6⟩
   rcases h3 with h3 | ⟨b,off,ty,l,cs,rfl,rfl,hb,hl,h1⟩
   ·exact (repA_pure hM).1 _ _ h0.1 (le_rep.1 _ _ _ h3 h5)
   ·simp only [RepA] at h5 ⊢
    obtain ⟨rfl,_⟩:=h5
    refine ⟨φ b,off,rfl,?_⟩
    obtain ⟨c0,hc0,hr0⟩:=r.hp.blk b _ hb
    have hr1:=le_rep.2 _ _ _ hl hr0
    rw [repCs_iff]
    intro j c hj
    rw [List.getElem?_drop] at hj
    obtain ⟨u,g1,g2⟩:=repAs_getP hr1 (off+j) c hj
    refine ⟨u,?_,?_,allOne_rep h1 hr1 u (List.mem_of_getElem? g1),hP.1 _ _ g2⟩
    ·rw [cell_block hc0]; simpa using g1
    ·rintro (h7 | h7)
     ·exact not_mut_emp h7
     ·exact h7.2 ⟨b,ty,l,hb,rfl⟩
 refine (hc φ M1 w vs hH (conv _ _ _ hle hn ha)).mono ?_
 rintro e w' ⟨φ',r',h',⟨rfl,rfl⟩,hH',E,he⟩
 obtain ⟨r,E1,X1,hC⟩:=r.lift (w'.heap.size - w.heap.size)
 obtain ⟨E2,X2,H2⟩:=evol_grow E.os E.tape E.output E.size (fun x hx=>E.same x hx (fun b hb=>absurd rfl hb)) r.hp hC
 have r2:Rel _ M0 N D (look s.T) (look s.H) a w':=r.keep E2 X2 H2
 cases r' with
 | ret x =>
  obtain ⟨v,rfl,hv⟩:=he
  exact ⟨_,s.put dst x,hx.2,r2.put hd (repA_flat.1 _ _ hx.1 hv),by cases dst <;> exact E1.trans E2⟩
 | panic x =>
  obtain ⟨v,rfl,hv⟩:=he
  exact ⟨_, .panic x,s,hx.2,r2,E1.trans E2,v,rfl,repA_flat.1 _ _ hx.1 hv⟩
theorem leR_ptr {H:Heap} {b off:Nat} {ty:TypeId} {l:List AV} {cs ds:List PV} (hb:H b=some (.box ty l)) (hl:les l (cs.map .p)) (h1:allOne (cs.map .p)=true) (hd:ds=cs.drop off):leR H (.ptr b off) (.eptr ds) :=
 .inr ⟨b,off,ty,l,cs,rfl,by rw [hd],hb,hl,h1⟩
theorem dr_call {P:Program} {N:Nat} {ops:Array Oper} {Q:AX→St→Prop} {o:Oper} {op:Op} {rest:List Oper} {acc:List Foot} {s0 s:St} {K:St→Prop} {f:FuncId} {args args':List AV} {x:AV}
  (hc:PCall P f args' (.ret x)) (hcall:callOf (look s.T) op=some (f,args)) (hb:bodyOk P f=true) (hd:dstLt N o.dst=true) (hle:les args args') (hn:noRefs args'=true) (hx:noRef x=true) (h:K (s.put o.dst x)):DrCall P N ops Q o op rest acc s0 s K :=
 .inl ⟨f,args,args',x,hcall,hb,hd,hle,hn,hx,hc,h⟩
attribute [go_sem] flat flats
mutual
def vfz (t S:Nat) (es:List (List PV)):AV→AV
 | .vsl S' t' n=>if t'=t then .p (.sl S es) else .vsl S' t' n
 | .agg l=>.agg (vfzs t S es l)
 | .tup l=>.tup (vfzs t S es l)
 | .fn f l m=>.fn f (vfzs t S es l) (vfzs t S es m)
 | .ifc ty x=>.ifc ty (vfz t S es x)
 | x=>x
def vfzs (t S:Nat) (es:List (List PV)):List AV→List AV
 | []=>[]
 | x :: xs=>vfz t S es x :: vfzs t S es xs
end
mutual
def vns (t:Nat):AV→Option (List Nat)
 | .vsl _ t' n=>if t'=t then some [n] else some []
 | .vptr t' _ _ _=>if t'=t then none else some []
 | .vtl _ t' _ _ _=>if t'=t then none else some []
 | .agg l=>vnss t l
 | .tup l=>vnss t l
 | .fn _ l m=>match vnss t l,vnss t m with | some a,some b=>some (a++b) | _,_=>none
 | .ifc _ x=>vns t x
 | _=>some []
def vnss (t:Nat):List AV→Option (List Nat)
 | []=>some []
 | x :: xs=>match vns t x,vnss t xs with | some a,some b=>some (a++b) | _,_=>none
end
def vfzB (t S:Nat) (es:List (List PV)):Blk→Blk
 | .box ty l=>.box ty (vfzs t S es l)
 | k=>k
def vnsB (t:Nat):Blk→Option (List Nat)
 | .box _ l=>vnss t l
 | _=>some []
def vfzH (t S:Nat) (es:List (List PV)):List (Nat × Blk)→List (Nat × Blk)
 | []=>[]
 | (c,k) :: l=>if c=t then vfzH t S es l else (c,vfzB t S es k) :: vfzH t S es l
def vnsH (t:Nat):List (Nat × Blk)→Option (List Nat)
 | []=>some []
 | (c,k) :: l=>match vnsB t k,vnsH t l with | some a,some b=>some (a++b) | _,_=>none
def vnsS (t:Nat) (s:St):Option (List Nat):=match vnss t (s.T.map (·.2)),vnsH t s.H with | some a,some b=>some (a++b) | _,_=>none
theorem look_vfzH (t S:Nat) (es:List (List PV)):∀ (H:List (Nat × Blk)) (c:Nat),look (vfzH t S es H) c=if c=t then none else (look H c).map (vfzB t S es)
 | [],c=>by simp [vfzH,look]
 | (d,k) :: H,c=>by
  simp only [vfzH]
  by_cases e:d=t
  ·simp only [e,if_true,look_vfzH t S es H c,look]
   by_cases e2:c=t
   ·simp [e2]
   ·have:¬ t=c:=fun h=>e2 h.symm
    simp [e2,this]
  ·simp only [e,if_false,look,look_vfzH t S es H c]
   by_cases e2:d=c
   ·subst e2; simp [e]
   ·simp [e2]
theorem look_vfzT (t S:Nat) (es:List (List PV)):∀ (T:List (Nat × AV)) (x:Nat),look (T.map fun p=>(p.1,vfz t S es p.2)) x=(look T x).map (vfz t S es)
 | [],x=>rfl
 | (k,v) :: T,x=>by
  simp only [zMC,look]
  by_cases e:k=x
  ·simp [e]
  ·simp only [e,if_false]; exact look_vfzT t S es T x
theorem repA_vfz {φ:Nat→Nat} {h h':Heap} {w:World} {M M':Mset} (t S:Nat) (es:List (List PV)) (n0:Nat) (hM:∀ r o,M' r o→M r o) (hh:∀ c k,c ≠ t→h c=some k→h' c=some (vfzB t S es k)) (hb:∃ ty,h t=some (.vec ty S es))
  (hes:∀ v,(∃ cap c ty,v=.slice (some ⟨φ t,0,none⟩) es.length cap∧w.heap[φ t]?=some (.cells c ty (0,0))∧es.length≤cap)→RepP w M' (.sl S es) v) (hnob:∀ c k,h c=some k→k.ob=none∨(∃ es,k=.mp es)∨∃ S G,k=.mm S G) :
  (∀ (x:AV) (v:Value) (L:List Nat),vns t x=some L→(∀ n ∈ L,n=es.length)→RepA φ h w M x v→RepA φ h' w M' (vfz t S es x) v)∧(∀ (xs:List AV) (l:List Value) (L:List Nat),vnss t xs=some L→(∀ n ∈ L,n=es.length)→RepAs φ h w M xs l→RepAs φ h' w M' (vfzs t S es xs) l):=by
 obtain ⟨kp,ke,kc⟩:=repP_keep (w:=w) (w':=w) (M:=M) (M':=M') (fun r o v h1 h2=>⟨h1,fun h3=>h2 (hM r o h3),id⟩)
 obtain ⟨ty0,hb⟩:=hb
 have key:∀ n:Nat,(∀ (x:AV),SizeOf.sizeOf x≤n→∀ v L,vns t x=some L→(∀ n ∈ L,n=es.length)→RepA φ h w M x v→RepA φ h' w M' (vfz t S es x) v)∧(∀ (xs:List AV),SizeOf.sizeOf xs≤n→∀ l L,vnss t xs=some L→(∀ n ∈ L,n=es.length)→RepAs φ h w M xs l→RepAs φ h' w M' (vfzs t S es xs) l):=by
  intro n
  induction n with
  | zero =>
   refine ⟨fun x hx=>?_,fun es hx=>?_⟩
   ·cases x <;> simp at hx
   ·cases es <;> simp at hx
  | succ n ih =>
   obtain ⟨i1,i2⟩:=ih
   refine ⟨fun x hx v L hL hn hv=>?_,fun xs hx l L hL hn hv=>?_⟩
   ·cases x with
    | p x=>simp only [vfz,RepA] at hv ⊢; exact kp x v hv
    | tsl S' es' t' =>
     simp only [vfz,RepA] at hv ⊢
     obtain ⟨h1,ty,m,h2,h3⟩:=hv
     have hne:t' ≠ t:=fun e=>by rw [e,hb] at h2; cases h2
     exact ⟨kp _ _ h1,ty,m,by rw [hh t' _ hne h2]; rfl,h3⟩
    | ptr c off =>
     simp only [vfz,RepA] at hv ⊢
     obtain ⟨h1,ty,l,h2⟩:=hv
     have hne:c ≠ t:=fun e=>by rw [e,hb] at h2; cases h2
     exact ⟨h1,ty,vfzs t S es l,by rw [hh c _ hne h2]; rfl⟩
    | bsl c off =>
     simp only [vfz,RepA] at hv ⊢
     obtain ⟨h1,ty,l,h2⟩:=hv
     have hne:c ≠ t:=fun e=>by rw [e,hb] at h2; cases h2
     exact ⟨h1,ty,vfzs t S es l,by rw [hh c _ hne h2]; rfl⟩
    | sfp c =>
     simp only [vfz,RepA] at hv ⊢
     obtain ⟨h1,ty,l,h2⟩:=hv
     have hne:c ≠ t:=fun e=>by rw [e,hb] at h2; cases h2
     exact ⟨h1,ty,vfzs t S es l,by rw [hh c _ hne h2]; rfl⟩
    | vnil=>simp only [vfz,RepA] at hv ⊢; exact hv
    | vsl S' t' m =>
     by_cases e:t'=t
     ·subst e
      simp only [vns,if_true,sie] at hL
      subst hL
      have hm:=hn m zq
      simp only [vfz,if_true,RepA] at hv ⊢
      obtain ⟨h1,ty,es',h2,h3,h4⟩:=hv
      rw [hb] at h2
      cases h2
      obtain ⟨cap,c,g1,g2,g3,g4,g5⟩:=h4 hm
      exact hes v ⟨cap,c,_,by rw [← hm]; exact g1,g2,by rw [← hm]; exact g4⟩
     ·simp only [vfz,e,if_false,RepA] at hv ⊢
      obtain ⟨h1,ty,m',h2,h3⟩:=hv
      exact ⟨h1,ty,m',by rw [hh t' _ e h2]; rfl,h3⟩
    | vtl S' t' m k m0 =>
     by_cases e:t'=t
     ·simp [vns,e] at hL
     ·simp only [vfz,RepA] at hv ⊢
      obtain ⟨h1,ty,m',h2,h3⟩:=hv
      exact ⟨h1,ty,m',by rw [hh t' _ e h2]; rfl,h3⟩
    | vptr t' m k f =>
     by_cases e:t'=t
     ·simp [vns,e] at hL
     ·simp only [vfz,RepA] at hv ⊢
      obtain ⟨h1,ty,S',m',h2,h3⟩:=hv
      exact ⟨h1,ty,S',m',by rw [hh t' _ e h2]; rfl,h3⟩
    | eptr l =>
     simp only [vfz,RepA] at hv ⊢
     obtain ⟨r,o,h1,h2⟩:=hv
     exact ⟨r,o,h1,kc l r o h2⟩
    | yv c =>
     simp only [RepA] at hv
     obtain ⟨_,k,T,nf,h2,h3⟩:=hv
     rcases hnob c k h2 with h4 | ⟨_,rfl⟩ | ⟨_,_,rfl⟩
     ·rw [h4] at h3; cases h3
     ·cases h3
     ·cases h3
    | mv c =>
     simp only [vfz,RepA] at hv ⊢
     obtain ⟨h1,k,h2,h3⟩:=hv
     rcases hnob c k h2 with h4 | ⟨es',rfl⟩ | ⟨S',G',rfl⟩
     ·rw [h4] at h3; cases h3
     ·have hne:c ≠ t:=fun e=>by rw [e,hb] at h2; cases h2
      exact ⟨h1, .mp es',by rw [hh c _ hne h2]; rfl,rfl⟩
     ·have hne:c ≠ t:=fun e=>by rw [e,hb] at h2; cases h2
      exact ⟨h1, .mm S' G',by rw [hh c _ hne h2]; rfl,rfl⟩
    | iv c =>
     simp only [vfz,RepA] at hv ⊢
     obtain ⟨h1,k,h2,h3⟩:=hv
     rcases hnob c k h2 with h4 | ⟨es',rfl⟩ | ⟨S',G',rfl⟩
     ·rw [h4] at h3; cases h3
     ·have hne:c ≠ t:=fun e=>by rw [e,hb] at h2; cases h2
      exact ⟨h1, .mp es',by rw [hh c _ hne h2]; rfl,rfl⟩
     ·have hne:c ≠ t:=fun e=>by rw [e,hb] at h2; cases h2
      exact ⟨h1, .mm S' G',by rw [hh c _ hne h2]; rfl,rfl⟩
    | agg l =>
     simp only [vfz,vns,RepA] at hv hL ⊢
     obtain ⟨m,h1,h2⟩:=hv
     exact ⟨m,h1,i2 l (by simp at hx; omega) m L hL hn h2⟩
    | tup l =>
     simp only [vfz,vns,RepA] at hv hL ⊢
     obtain ⟨m,h1,h2⟩:=hv
     exact ⟨m,h1,i2 l (by simp at hx; omega) m L hL hn h2⟩
    | fn f p q =>
     simp only [vfz,vns,RepA] at hv hL ⊢
     obtain ⟨l,m,h1,h2,h3⟩:=hv
     simp at hx
     split at hL
     ·rename_i La Lb ha hb'
      simp only [sie] at hL
      subst hL
      exact ⟨l,m,h1,i2 p zo l La ha (fun n h=>hn n (by simp [h])) h2,i2 q zo m Lb hb' (fun n h=>hn n (by simp [h])) h3⟩
     ·cases hL
    | ifc ty x =>
     simp only [vfz,vns,RepA] at hv hL ⊢
     obtain ⟨y,h1,h2⟩:=hv
     exact ⟨y,h1,i1 x (by simp at hx; omega) y L hL hn h2⟩
   ·cases xs with
    | nil=>simpa [vfzs,RepAs] using hv
    | cons x xs =>
     simp only [vfzs,vnss,RepAs] at hv hL ⊢
     simp at hx
     obtain ⟨y,ys,h1,h2,h3⟩:=hv
     split at hL
     ·rename_i La Lb ha hb'
      simp only [sie] at hL
      subst hL
      exact ⟨y,ys,h1,i1 x zo y La ha (fun n h=>hn n (by simp [h])) h2,i2 xs zo ys Lb hb' (fun n h=>hn n (by simp [h])) h3⟩
     ·cases hL
 exact ⟨fun x v=>(key (SizeOf.sizeOf x)).1 x (zNR _) v,fun xs l=>(key (SizeOf.sizeOf xs)).2 xs (zNR _) l⟩
theorem vnss_look {t:Nat}:∀ {T:List (Nat × AV)} {L:List Nat} {x:Nat} {v:AV},vnss t (T.map (·.2))=some L→look T x=some v→∃ L',vns t v=some L'∧∀ n ∈ L',n ∈ L
 | [],L,x,v,_,h=>by simp [look] at h
 | (k,y) :: T,L,x,v,hL,h=>by
  simp only [zMC,vnss] at hL
  split at hL
  ·rename_i La Lb ha hb
   simp only [sie] at hL
   subst hL
   simp only [look] at h
   by_cases e:k=x
   ·simp only [e,if_true,sie] at h
    subst h
    exact ⟨La,ha,fun n hn=>by simp [hn]⟩
   ·simp only [e,if_false] at h
    obtain ⟨L',h1,h2⟩:=vnss_look hb h
    exact ⟨L',h1,fun n hn=>by simp [h2 n hn]⟩
  ·cases hL
theorem vnsH_look {t:Nat}:∀ {H:List (Nat × Blk)} {L:List Nat} {c:Nat} {k:Blk},vnsH t H=some L→look H c=some k→∃ L',vnsB t k=some L'∧∀ n ∈ L',n ∈ L
 | [],L,x,v,_,h=>by simp [look] at h
 | (b,y) :: H,L,c,k,hL,h=>by
  simp only [vnsH] at hL
  split at hL
  ·rename_i La Lb ha hb
   simp only [sie] at hL
   subst hL
   simp only [look] at h
   by_cases e:b=c
   ·simp only [e,if_true,sie] at h
    subst h
    exact ⟨La,ha,fun n hn=>by simp [hn]⟩
   ·simp only [e,if_false] at h
    obtain ⟨L',h1,h2⟩:=vnsH_look hb h
    exact ⟨L',h1,fun n hn=>by simp [h2 n hn]⟩
  ·cases hL
def noLmf:List (Nat × Blk)→Bool
 | []=>true
 | (_,k) :: l=>(match k with | .mp _=>true | .mm _ _=>true | k=>k.ob.isNone)&&noLmf l
theorem noLmf_spec:∀ {H:List (Nat × Blk)},noLmf H=true→∀ c k,look H c=some k→k.ob=none∨(∃ es,k=.mp es)∨∃ S G,k=.mm S G
 | [],_,c,k,h=>by cases h
 | (b,q) :: H,hn,c,k,h=>by
  simp only [noLmf,bae] at hn
  simp only [look] at h
  split at h
  ·cases h
   have:=hn.1
   split at this
   ·exact .inr (.inl ⟨_,rfl⟩)
   ·exact .inr (.inr ⟨_,_,rfl⟩)
   ·exact .inl (by simpa using this)
  ·exact noLmf_spec hn.2 c k h
theorem weak_vfz {N:Nat} {s:St} (t:Nat) (ty:TypeId) (S:Nat) (es:List (List PV)) (L:List Nat) (hb:look s.H t=some (.vec ty S es)) (hL:vnsS t s=some L) (hn:∀ n ∈ L,n=es.length) (hlt:Nat.blt t 1000=true) (hno:noLmf s.H=true) :
  Weak N s ⟨s.T.map fun p=>(p.1,vfz t S es p.2),vfzH t S es s.H⟩:=by
 have hlt':t < 1000:=by simpa [Nat.blt_eq] using hlt
 unfold vnsS at hL
 split at hL
 rotate_left
 ·cases hL
 rename_i L1 L2 hL1 hL2
 simp only [sie] at hL
 subst hL
 intro φ M0 D a w r
 refine ⟨φ,?_⟩
 have hdom:∀ c k',look (vfzH t S es s.H) c=some k'→c ≠ t∧∃ k,look s.H c=some k∧k'=vfzB t S es k:=by
  intro c k' hc
  rw [look_vfzH] at hc
  by_cases e:c=t
  ·simp [e] at hc
  ·simp only [e,if_false] at hc
   cases hk:look s.H c with
   | none=>rw [hk] at hc; cases hc
   | some k=>rw [hk] at hc; cases hc; exact ⟨e,k,rfl,rfl⟩
 have hmut:∀ x o,Mut φ (look (vfzH t S es s.H)) x o→Mut φ (look s.H) x o∧x ≠ φ t:=by
  rintro x o ⟨c,k',g1,g2,g3⟩
  obtain ⟨e,k,g4,rfl⟩:=hdom c k' g1
  refine ⟨⟨c,k,g4,g2,by cases k <;> exact g3⟩,fun hx=>e ?_⟩
  exact r.hp.inj c t (by rw [g4]; simp) (by rw [hb]; simp) (by rw [g2,hx])
 have hM:∀ x o,MM φ (look (vfzH t S es s.H)) M0 x o→MM φ (look s.H) M0 x o:=fun x o hx=>hx.elim (fun h=>.inl (hmut x o h).1) .inr
 have hMb:∀ o,¬ MM φ (look (vfzH t S es s.H)) M0 (φ t) o:=by
  rintro o (hx | hx)
  ·exact (hmut _ _ hx).2 rfl
  ·exact r.hp.fr t (by rw [hb]; simp) o hx
 obtain ⟨c0,cap0,hc0,hsz,hle,hmx,hS,h1,hr0⟩:=r.hp.blk t _ hb
 have hes:∀ v,(∃ cap c ty,v=.slice (some ⟨φ t,0,none⟩) es.length cap∧w.heap[φ t]?=some (.cells c ty (0,0))∧es.length≤cap)→RepP w (MM φ (look (vfzH t S es s.H)) M0) (.sl S es) v:=by
  rintro v ⟨cap,c,ty',rfl,hc,hcap⟩
  simp only [RepP]
  refine .inl ⟨φ t,0,cap,rfl,hcap,?_,fun _=>unm_some hc⟩
  rw [repEs_iff]
  refine ⟨hS,?_⟩
  rw [repCs_iff]
  intro j q hj
  obtain ⟨u,g1,g2⟩:=repAs_getP hr0 j q hj
  have g3:c0.toList[j]?=some u:=by
   rw [List.getElem?_take] at g1
   split at g1
   ·exact g1
   ·cases g1
  refine ⟨u,?_,hMb _,h1 u (List.mem_of_getElem? g3),(repP_keep (w:=w) (w':=w) (fun r o v h1 h2=>⟨h1,fun h3=>h2 (hM r o h3),id⟩)).1 _ _ g2⟩
  rw [cell_block hc0]
  simpa using g3
 obtain ⟨k1,k2⟩:=repA_vfz (φ:=φ) (h:=look s.H) (h':=look (vfzH t S es s.H)) (w:=w) (M:=MM φ (look s.H) M0) t S es es.length hM
  (fun c k hne hk=>by rw [look_vfzH,if_neg hne,hk]; rfl) ⟨ty,hb⟩ hes (noLmf_spec hno)
 have E:Evol φ (look s.H) w φ (look (vfzH t S es s.H)) w:=by
  refine ⟨rfl,rfl,rfl,zNR _,fun _ _ h=>h,fun _ _ _=>rfl,fun _ _ _ _=>rfl,fun x o _ hx=>(hmut x o hx).1,?_,?_,?_,?_⟩
  ·intro c ty' l hc hcc
   have hne:c ≠ t:=by omega
   exact ⟨⟨vfzs t S es l,by rw [look_vfzH,if_neg hne,hcc]; rfl⟩,rfl⟩
  ·intro c ty' S' n hc hcc
   have hne:c ≠ t:=by omega
   exact ⟨n,by rw [look_vfzH,if_neg hne,hcc]; rfl,zNR _,fun _=>akept (rfl) rfl⟩
  ·intro c ty' S' n hc hcc
   have hne:c ≠ t:=by omega
   exact ⟨n,by rw [look_vfzH,if_neg hne,hcc]; rfl,zNR _,fun _=>⟨rfl,fun c hc=>⟨c,hc,rfl⟩⟩⟩
  ·intro c k x hc hcc ho
   rcases noLmf_spec hno c k hcc with h4 | ⟨es',rfl⟩ | ⟨S',G',rfl⟩
   ·rw [h4] at ho; cases ho
   ·have hne:c ≠ t:=by omega
    exact ⟨⟨.mp es',by rw [look_vfzH,if_neg hne,hcc]; rfl,ho⟩,rfl⟩
   ·have hne:c ≠ t:=by omega
    exact ⟨⟨.mm S' G',by rw [look_vfzH,if_neg hne,hcc]; rfl,ho⟩,rfl⟩
 refine ⟨⟨r.dfs.keep E,r.siz,⟨?_,?_,?_,r.hp.lt,r.hp.gm.evol E⟩,?_⟩,E⟩
 ·intro c d hc hd he
  obtain ⟨kc,hkc⟩:=zNE.1 hc
  obtain ⟨kd,hkd⟩:=zNE.1 hd
  obtain ⟨_,k1,e1,_⟩:=hdom c kc hkc
  obtain ⟨_,k2,e2,_⟩:=hdom d kd hkd
  exact r.hp.inj c d (by rw [e1]; simp) (by rw [e2]; simp) he
 ·intro c k' hk'
  obtain ⟨_,k,e1,rfl⟩:=hdom c k' hk'
  have:=r.hp.blk c k e1
  cases k with
  | box ty' l =>
   obtain ⟨c1,q1,q2⟩:=this
   obtain ⟨L',g1,g2⟩:=vnsH_look hL2 e1
   exact ⟨c1,q1,k2 _ _ L' g1 (fun n h=>hn n (by simp [g2 n h])) q2⟩
  | arr ty' S n=>exact this
  | vec ty' S es=>obtain ⟨c1,cap,q1,q2,q3,q4,q5,q6,q7⟩:=this; exact ⟨c1,cap,q1,q2,q3,q4,q5,q6,repAs_ps hM _ _ q7⟩
  | lp T nf st pd=>rcases noLmf_spec hno c _ e1 with h4 | ⟨_,h4⟩ | ⟨_,_,h4⟩ <;> cases h4
  | mp es =>
   obtain ⟨en,cl,q1,q2,q3⟩:=this
   have e:es.map (fun p=>AV.p p.2)=(es.map (·.2)).map .p:=by simp
   refine ⟨en,cl,q1,q2,?_⟩
   rw [e] at q3 ⊢
   exact repAs_ps hM _ _ q3
  | mf es=>rcases noLmf_spec hno c _ e1 with h4 | ⟨_,h4⟩ | ⟨_,_,h4⟩ <;> cases h4
  | mg en cl es=>rcases noLmf_spec hno c _ e1 with h4 | ⟨_,h4⟩ | ⟨_,_,h4⟩ <;> cases h4
  | it m cl sn=>rcases noLmf_spec hno c _ e1 with h4 | ⟨_,h4⟩ | ⟨_,_,h4⟩ <;> cases h4
  | mm S' G' =>
   obtain ⟨en,cl,L',ks,q1,q2,q3,q4,q5⟩:=this
   have e:L'.map (fun p=>AV.p (.ad S' p.1))=(L'.map (fun p=>PV.ad S' p.1)).map .p:=by simp
   have e':L'.map (fun p=>AV.p p.2)=(L'.map (·.2)).map .p:=by simp
   refine ⟨en,cl,L',ks,q1,q2,?_,?_,q5⟩
   ·rw [e] at q3 ⊢
    exact repAs_ps hM _ _ q3
   ·rw [e'] at q4 ⊢
    exact repAs_ps hM _ _ q4
 ·intro c hc o hm
  obtain ⟨kc,hkc⟩:=zNE.1 hc
  obtain ⟨_,k1,e1,_⟩:=hdom c kc hkc
  exact r.hp.fr c (by rw [e1]; simp) o hm
 ·intro x y hy
  rw [look_vfzT] at hy
  cases hq:look s.T x with
  | none=>rw [hq] at hy; cases hy
  | some z =>
   rw [hq] at hy
   cases hy
   obtain ⟨L',g1,g2⟩:=vnss_look hL1 hq
   exact ⟨(r.tm x z hq).1,k1 _ _ L' g1 (fun n h=>hn n (by simp [g2 n h])) (r.tm x z hq).2⟩
theorem turn_steps {P:Program} {cs:List Frame}:∀ (ms:List Nat) (fr:Frame) (w:World),fr.mode ≠ .run→ms.Nodup→(∀ r ∈ ms,w.heap[r]?=some (.deferred (some []))) →
  fr.defers=(ms.map fun r=>({ target:=.collected r,args:=#[] }:Deferred))→∃ w',Turned ms w w'∧Steps P (lone fr cs w) (lone { fr with defers:=[] } cs w')
 | [],fr,w,_,_,_,hd=>by
  refine ⟨w,⟨rfl,rfl,rfl,rfl,fun _ _=>rfl,fun k hk=>by cases hk⟩,?_⟩
  have:{ fr with defers:=[] }=fr:=by cases fr; simp only at hd; subst hd; rfl
  rw [this]
  exact Steps.refl _ _
 | r :: ms,fr,w,hm,hn,hb,hd=>by
  have h0:=hb r zq
  have hlt:r < w.heap.size:=(zGS.1 h0).1
  have hw1:∀ k:Nat,(w.putObj r (.deferred none)).heap[k]?=(w.heap.setIfInBounds r (.deferred none))[k]?:=fun k=>rfl
  have h1:=step_collected (cs:=cs) hm hd rfl (run_takeDeferred (P:=P) h0)
  obtain ⟨w',t,hs⟩:=turn_steps (P:=P) (cs:=cs) ms { fr with defers:=[]++(ms.map fun r=>({ target:=.collected r,args:=#[] }:Deferred)) } (w.putObj r (.deferred none)) hm (List.nodup_cons.1 hn).2 (fun k hk=>by
   have:r ≠ k:=fun e=>(List.nodup_cons.1 hn).1 (e ▸ hk)
   rw [hw1,Array.getElem?_setIfInBounds_ne this]
   exact hb k (by simp [hk])) rfl
  refine ⟨w',⟨t.os,t.tape,t.output,by rw [t.size]; simp [World.putObj],fun k hk=>?_,fun k hk=>?_⟩, .head h1 hs⟩
  ·simp only [List.mem_cons,not_or] at hk
   rw [t.same k hk.2,hw1,Array.getElem?_setIfInBounds_ne (Ne.symm hk.1)]
  ·rcases List.mem_cons.1 hk with e | e
   ·subst e
    rw [t.same k (List.nodup_cons.1 hn).1,hw1]
    simp [hlt]
   ·exact t.turn k e
theorem callsD_marks {P:Program} {f:FuncId} {fn:Func} {c:Code} {args:Array Value} {u:FrameMode} {w:World} {R:Ending→FrameMode→World→Prop} (hf:P.funcs[f]?=some fn) (hb:fn.body=some c)
  (h:∀ (c₀:Frame) (cs:List Frame),c₀.mode=u→c.wpS P (fun e a cs' w'=>(e=.normal∨e=.ret)∧∃ ms u',a.defers=(ms.map fun r=>({ target:=.collected r,args:=#[] }:Deferred))∧ms.Nodup∧(∀ r ∈ ms,w'.heap[r]?=some (.deferred (some []))) ∧
   cs'={ c₀ with mode:=u' } :: cs∧∀ w'',Turned ms w' w''→∃ v,(results fn a.tmps).run P w''=.ok v w''∧R (.returned v) u' w'') { tmps:=args++Array.replicate (fn.ntmps - args.size) undef,defers:=[] } (c₀ :: cs) w):CallsD P f args u w R:=by
 intro c₀ cs hu
 let b:Frame:={ (default:Frame) with fn:=f,kind:=.deferred }
 have henter:Frame.enter P f args .deferred=b.at { tmps:=args++Array.replicate (fn.ntmps - args.size) undef,defers:=[] } [.code c]:=by
  simp [Frame.enter,Frame.at,hf,hb,b]
 obtain ⟨e,a',cs',w',⟨he,ms,u',hd,hn,hms,rfl,hq⟩,harr⟩:=h c₀ cs hu b [] rfl rfl
 rw [← henter] at harr
 have fin:∀ todo,Steps P (lone (Frame.enter P f args .deferred) (c₀ :: cs) w) (lone { b.at a' todo with mode:=.returning } ({ c₀ with mode:=u' } :: cs) w') →
   ∃ e u'' w'' fr,R e u'' w''∧Comes P (lone (Frame.enter P f args .deferred) (c₀ :: cs) w) (lone fr ({ c₀ with mode:=u'' } :: cs) w'') e∧fr.kind=.deferred∧fr.going P w'' e:=by
  intro todo hs
  obtain ⟨w'',t,hs2⟩:=turn_steps (P:=P) (cs:={ c₀ with mode:=u' } :: cs) ms { b.at a' todo with mode:=.returning } w' zq hn hms hd
  obtain ⟨v,hr,hR⟩:=hq w'' t
  exact ⟨.returned v,u',w'',_,hR,Steps.trans hs hs2,rfl,rfl,rfl,fn,hf,hr⟩
 rcases he with rfl | rfl
 ·exact fin [] (Steps.trans harr (.one step_end))
 ·obtain ⟨todo,hs⟩:=harr
  exact fin todo hs
structure Recoverer (P:Program) (g:FuncId) where
 fn:Func
 id:Nat
 o1:Oper
 o2:Oper
 d1:Tmp
 d2:Tmp
 ts:Array TypeId
 rest:Code
 hf:P.funcs[g]?=some fn
 hb:fn.body=some (.seq (.region id #[o1,o2] false) rest)
 hop1:o1.op=.call ⟨.builtin .recover,#[],ts⟩
 hop2:o2.op=.assign (.tmp d1)
 hg1:o1.guard=none
 hg2:o2.guard=none
 hd1:o1.dst=some d1
 hd2:o2.dst=some d2
 hlt1:d1 < fn.ntmps
 hlt2:d2 < fn.ntmps
def recOk (u u':FrameMode) (v:Value):Prop:=∀ (c0:Frame) (cs:List Frame),c0.mode=u→(recoverD (c0 :: cs)=some (v,{ c0 with mode:=u' } :: cs))∨(recoverD (c0 :: cs)=none∧v=.nilIface∧u'=u)
def CD (P:Program) (g:FuncId) (vs:Array Value) (w:World) (R:Ending→World→Prop):Prop:=∀ u u' v vl,vs=(v :: vl).toArray→recOk u u' v→CallsD P g vl.toArray u w fun e u'' w'=>u''=u'∧R e w'
def bodyN (P:Program) (fn:Func) (hc:List (Nat × Blk)) (R:AEnd→Heap→Prop):AX→St→Prop
 | .panic _,_=>False
 | x,s=>bodyR P fn hc R x s
theorem rel_two {φ:Nat→Nat} {M0:Mset} {N:Nat} {D:DB} {T:List (Nat × AV)} {h:Heap} {a:Act} {w:World} {d:Tmp} {x:AV} {v:Value} (r:Rel φ M0 N D (look T) h a w) (hd:d < N) (hv:RepA φ h w (MM φ h M0) x v):Rel φ M0 N D (look ((d,x) :: T)) h (a.put (some d) v) w:=by
 refine ⟨r.dfs,by simp [Act.put,r.siz],r.hp,fun t y ht=>?_⟩
 simp only [look] at ht
 by_cases e:d=t
 ·simp only [e,if_true,sie] at ht
  subst ht
  subst e
  refine ⟨hd,?_⟩
  have h0:d < a.tmps.size:=by rw [r.siz]; exact hd
  have:(a.put (some d) v).tmps.getD d undef=v:=by simp [Act.put,h0]
  rw [this]
  exact hv
 ·simp only [e,if_false] at ht
  obtain ⟨g1,g2⟩:=r.tm t y ht
  refine ⟨g1,?_⟩
  have:(a.put (some d) v).tmps.getD t undef=a.tmps.getD t undef:=by simp [Act.put,Array.getElem?_setIfInBounds_ne e]
  rw [this]
  exact g2
theorem dcall_of_ex {P:Program} {g:FuncId} (C:Recoverer P g) {rv:AV} {caps:List AV} {hc:List (Nat × Blk)} {R:AEnd→Heap→Prop} (hl:caps.length≤C.fn.ntmps)
  (h:Ex P C.fn.ntmps none C.rest ⟨(C.d2,rv) :: (C.d1,rv) :: argsT 0 caps,hc⟩ (bodyN P C.fn hc R)) :
  ∀ φ M0 w vs,RelH φ (look hc) w M0→RepAs φ (look hc) w (MM φ (look hc) M0) (rv :: caps) vs→CD P g vs.toArray w (Out R φ (look hc) w M0):=by
 intro φ M0 w vs hH ha u u' v vl hvs hrec
 simp only [RepAs] at ha
 obtain ⟨y,ys,rfl,hrv,hcaps⟩:=ha
 have hvs':y=v∧ys=vl:=by
  have:=congrArg Array.toList hvs
  simpa using this
 obtain ⟨rfl,rfl⟩:=hvs'
 refine callsD_marks C.hf C.hb fun c0 cs hm=>wpS_seq (wpS_region ?_)
 have hrange:List.range (#[C.o1,C.o2]:Array Oper).size=[0,1]:=rfl
 rw [hrange]
 have hw1:∀ y,Region.wanted C.o1 y=true:=fun y=>by simp [Region.wanted,C.hg1]
 have hw2:∀ y,Region.wanted C.o2 y=true:=fun y=>by simp [Region.wanted,C.hg2]
 have hrun1:∀ (a:Act) (w:World),(execOp a.eval C.o1).run P w=.ok .recover w:=fun a w=>by simp [execOp,C.hop1,resolve,invoke,builtin]
 have r0:=entry_rel hH hcaps hl
 generalize ha0:({ tmps:=ys.toArray++Array.replicate (C.fn.ntmps - ys.toArray.size) undef,defers:=[] }:Act)=a0 at r0
 have r1:=rel_two (d:=C.d1) r0 C.hlt1 hrv
 have he1:(a0.put C.o1.dst y).eval (.tmp C.d1)=y:=by
  have h0:C.d1 < a0.tmps.size:=by rw [r0.siz]; exact C.hlt1
  simp [Act.put,C.hd1,Act.eval,h0]
 have r2:=rel_two (d:=C.d2) r1 C.hlt2 hrv
 have rest:∀ (cs1:List Frame),cs1={ c0 with mode:=u' } :: cs→wpOpsS P #[C.o1,C.o2] (Exit.thenS (C.rest.wpS P (fun e a cs' w'=>(e=.normal∨e=.ret)∧∃ ms u'',a.defers=(ms.map fun r=>({ target:=.collected r,args:=#[] }:Deferred))∧ms.Nodup∧(∀ r ∈ ms,w'.heap[r]?=some (.deferred (some []))) ∧
   cs'={ c0 with mode:=u'' } :: cs∧∀ w'',Turned ms w' w''→∃ v,(results C.fn a.tmps).run P w''=.ok v w''∧(u''=u'∧Out R φ (look hc) w M0 (.returned v) w''))) (fun e a cs' w'=>(e=.normal∨e=.ret)∧∃ ms u'',a.defers=(ms.map fun r=>({ target:=.collected r,args:=#[] }:Deferred))∧ms.Nodup∧(∀ r ∈ ms,w'.heap[r]?=some (.deferred (some []))) ∧
   cs'={ c0 with mode:=u'' } :: cs∧∀ w'',Turned ms w' w''→∃ v,(results C.fn a.tmps).run P w''=.ok v w''∧(u''=u'∧Out R φ (look hc) w M0 (.returned v) w''))) [1] (a0.put C.o1.dst y) cs1 w:=by
  intro cs1 hcs
  have hget:(#[C.o1,C.o2]:Array Oper)[1]?=some C.o2:=rfl
  have hrun2:(execOp (a0.put C.o1.dst y).eval C.o2).run P w=.ok (.value y) w:=by
   generalize a0.put C.o1.dst y=A at he1
   simp [execOp,C.hop2,he1]
  simp only [wpOpsS,hget,hw2,if_true,hrun2,Oper.upon]
  show C.rest.wpS P _ ((a0.put C.o1.dst y).put C.o2.dst y) cs1 w
  rw [C.hd1,C.hd2]
  refine wpS_of_wp (wpIn_wide.1 (wpIn_mono (h φ M0 _ _ w r2) ?_))
  rintro e a' w' ⟨φ',k,s',h1,h2,h3,h4⟩
  obtain ⟨hbase,ms,hd,hnd,hms⟩:=h2.dfs
  have hd':a'.defers=ms.map fun r=>({ target:=.collected r,args:=#[] }:Deferred):=by rw [hd]; simp
  have hm2:∀ r ∈ ms,w'.heap[r]?=some (.deferred (some []))∧∀ b,look s'.H b ≠ none→φ' b ≠ r:=fun r hr=>(hms r hr).2
  have go:endR P C.fn hc R s'→∃ ms u'',a'.defers=(ms.map fun r=>({ target:=.collected r,args:=#[] }:Deferred))∧ms.Nodup∧(∀ r ∈ ms,w'.heap[r]?=some (.deferred (some []))) ∧
    cs1={ c0 with mode:=u'' } :: cs∧∀ w'',Turned ms w' w''→∃ v,(results C.fn a'.tmps).run P w''=.ok v w''∧(u''=u'∧Out R φ (look hc) w M0 (.returned v) w''):=by
   intro hend
   refine ⟨ms,u',hd',hnd,fun r hr=>(hm2 r hr).1,hcs,fun w'' t=>?_⟩
   obtain ⟨v,g1,g2⟩:=endR_out (h2.turned t hm2) (h3.turned t (fun r hr=>(hms r hr).1) hm2) hend
   exact ⟨v,g1,rfl,g2⟩
  cases k with
  | normal =>
   simp only [RepX] at h4
   subst h4
   exact ⟨.inl rfl,go h1⟩
  | ret =>
   simp only [RepX] at h4
   subst h4
   exact ⟨.inr rfl,go h1⟩
  | exit i=>exact h1.elim
  | panic x=>exact h1.elim
 have hget:(#[C.o1,C.o2]:Array Oper)[0]?=some C.o1:=rfl
 rcases hrec c0 cs hm with h1 | ⟨h1,rfl,rfl⟩
 ·rw [wpOpsS]
  simp only [hget,hw1,if_true,hrun1,h1]
  exact rest _ rfl
 ·rw [wpOpsS]
  simp only [hget,hw1,if_true,hrun1,h1]
  exact rest _ (by subst hm; rfl)
def DEx (P:Program) (N:Nat) (g:FuncId) (args:List AV) (s:St) (K:St→Prop):Prop :=
 ∀ φ M0 D a w vs,Rel φ M0 N D (look s.T) (look s.H) a w→RepAs φ (look s.H) w (MM φ (look s.H) M0) args vs→CD P g vs.toArray w fun e w' =>
  match e with
  | .returned v=>∃ φ' s',K s'∧Rel φ' M0 N D (look s'.T) (look s'.H) a w'∧Evol φ (look s.H) w φ' (look s'.H) w'
  | _=>False
theorem dex_frame {P:Program} {N:Nat} {g:FuncId} {args args':List AV} {s:St} {K:St→Prop} {hc:List (Nat × Blk)} {R:AEnd→Heap→Prop} (ρ:Nat→Nat)
  (hcall:∀ φ M0 w vs,RelH φ (look hc) w M0→RepAs φ (look hc) w (MM φ (look hc) M0) args' vs→CD P g vs.toArray w (Out R φ (look hc) w M0))
  (hargs:les args (rens ρ args')) (hok:okRefs (look hc) args'=true)
  (hbig:∀ c ∈ hc.map (·.1),1000≤c) (hokb:∀ c k,look hc c=some k→okRefB (look hc) k=true)
  (hsub:∀ c k,look hc c=some k→∃ k0,look s.H (ρ c)=some k0∧leB k0 (renB ρ k))
  (hinj:∀ c ∈ hc.map (·.1),∀ d ∈ hc.map (·.1),ρ c=ρ d→c=d)
  (hret:∀ r h',R r h'→∃ hc' H2,h'=look hc'∧outDom ρ hc hc' s.H∧(∀ b,look H2 b=look (backH ρ hc' s.H) b) ∧
   (match r with | .ret x=>K (St.put ⟨s.T,H2⟩ none (ren ρ x)) | .panic x=>False)):DEx P N g args s K:=by
 intro φ M0 D a w vs r ha
 have:=frame_core (C:=fun _ vs w R=>CD P g vs w R) (fun _ vs w R R' h hq u u' v vl e hr=>(h u u' v vl e hr).mono (fun e u'' w' p=>⟨p.1,hq _ _ p.2⟩)) (N:=N) (dst:=none) (K:=K) (Q:=fun _ _=>False) ρ hcall hargs hok hbig hokb hsub hinj (fun t ht=>by cases ht) hret φ M0 D a w vs r ha
 intro u u' v vl e hr
 refine (this u u' v vl e hr).mono ?_
 rintro e u'' w' ⟨rfl,he⟩
 refine ⟨rfl,?_⟩
 cases e with
 | returned v=>exact he
 | panicked c=>obtain ⟨_,x,_,hF,_,_,hx⟩:=he; exact hF
 | outgrown=>exact he
def sg (L:List (Nat × Nat)) (x:Nat):Nat:=(look L x).getD x
def sgI (L:List (Nat × Nat)) (x:Nat):Nat:=sg (L.map fun p=>(p.2,p.1)) x
def sgT (L:List (Nat × Nat)) (T:List (Nat × AV)):List (Nat × AV):=T.map fun p=>(p.1,ren (sg L) p.2)
def sgH (L:List (Nat × Nat)) (H:List (Nat × Blk)):List (Nat × Blk):=H.map fun p=>(sg L p.1,renB (sg L) p.2)
def sgOk (L:List (Nat × Nat)) (H:List (Nat × Blk)):Bool:=H.all (fun p=>sgI L (sg L p.1) == p.1)&&L.all (fun p=>Nat.blt p.1 1000&&Nat.ble 1000 p.2&&sg L p.1 == p.2&&(match look H p.1 with | some (.box _ _)=>true | _=>false))
def capsL (L:List (Nat × Nat)):List AV:=L.map fun p=>.ptr p.2 0
theorem look_sgT (L:List (Nat × Nat)):∀ (T:List (Nat × AV)) (t:Nat),look (sgT L T) t=(look T t).map (ren (sg L))
 | [],t=>rfl
 | (k,v) :: T,t=>by
  simp only [sgT,zMC,look]
  by_cases e:k=t
  ·simp [e]
  ·simp only [e,if_false]; exact look_sgT L T t
structure Deferrer2 (fn:Func) (g:FuncId) where
 r1:Code
 rest:Code
 id:Nat
 o1:Oper
 o2:Oper
 caps:Array Operand
 tbs:List Tmp
 tc:Tmp
 ts:Array TypeId
 hb:fn.body=some (.seq r1 (.seq (.region id #[o1,o2] false) rest))
 hop1:o1.op=.makeFunc (.func g) #[] caps
 hcaps:caps.toList=tbs.map .tmp
 hop2:o2.op=.defer ⟨.value (.tmp tc),#[],ts⟩
 hg1:o1.guard=none
 hg2:o2.guard=none
 hd1:o1.dst=some tc
 hd2:o2.dst=none
 hlt:tc < fn.ntmps
def deferQ2 (P:Program) (fn:Func) (hc:List (Nat × Blk)) (N:Nat) (g:FuncId) (caps:List AV) (R:AEnd→Heap→Prop):AX→St→Prop
 | .ret,s=>DEx P N g (nilI :: caps) s (endR P fn hc R)
 | .normal,s=>DEx P N g (nilI :: caps) s (endR P fn hc R)
 | .panic v,s=>DEx P N g (v :: caps) s (endR P fn hc R)
 | .exit _,_=>False
theorem acall_defer2 {P:Program} {f g:FuncId} {fn:Func} {args:List AV} {hc:List (Nat × Blk)} {R:AEnd→Heap→Prop} (F:Deferrer2 fn g) (L:List (Nat × Nat)) (hf:P.funcs[f]?=some fn) (hl:args.length≤fn.ntmps)
  (hbg:bodyOk P g=true)
  (h:Ex P fn.ntmps none F.r1 ⟨argsT 0 args,hc⟩ (fun x s=>x=.normal∧F.tbs.map (look s.T)=L.map (fun p=>some (.ptr p.1 0))∧sgOk L s.H=true∧(∀ c k x,look s.H c=some k→k.ob=some x→(some x).map (renO (sg L))=some x) ∧
   Ex P fn.ntmps none F.rest ⟨(F.tc, .fn (.func g) [] (capsL L)) :: sgT L s.T,sgH L s.H⟩ (deferQ2 P fn hc fn.ntmps g (capsL L) R))):ACall P f args (look hc) R:=by
 intro φ M0 w vs hH ha
 refine calls_of_wpW hf F.hb ?_
 refine wpIn_seq (wpIn_mono (h φ M0 _ _ w (entry_rel hH ha hl)) ?_)
 rintro e a1 w1 ⟨φ1,k,s,⟨rfl,htbs,hsg,hnob,hrest⟩,r1,E1,hx⟩
 simp only [RepX] at hx
 subst hx
 show Code.wpIn (wd none) 0 P (.seq (.region F.id #[F.o1,F.o2] false) F.rest) _ a1 w1
 simp only [sgOk,bae,zAT,beq_iff_eq] at hsg
 obtain ⟨hsg1,hsg2⟩:=hsg
 have hL:∀ p ∈ L,p.1 < 1000∧1000≤p.2∧∃ ty cs,look s.H p.1=some (.box ty cs):=by
  intro p hp
  have:=hsg2 p hp
  obtain ⟨⟨⟨g1,g2⟩,_⟩,g3⟩:=this
  refine ⟨by simpa [Nat.blt_eq] using g1,Nat.le_of_ble_eq_true g2,?_⟩
  split at g3
  ·rename_i ty cs he; exact ⟨ty,cs,he⟩
  ·cases g3
 let ps:Array Value:=F.caps.map a1.eval
 have hps:ps.toList=F.tbs.map fun t=>a1.eval (.tmp t):=by simp [ps,F.hcaps,Function.comp_def]
 have hpv:ps.toList=L.map fun p=>.pointer (some ⟨φ1 p.1,0,none⟩):=by
  rw [hps]
  have:∀ (ts:List Tmp) (L:List (Nat × Nat)),ts.map (look s.T)=L.map (fun p=>some (.ptr p.1 0))→ts.map (fun t=>a1.eval (.tmp t))=L.map fun p=>.pointer (some ⟨φ1 p.1,0,none⟩):=by
   intro ts
   induction ts with
   | nil=>intro L hh; cases L with
    | nil=>rfl
    | cons p L=>cases hh
   | cons t ts ih=>intro L hh; cases L with
    | nil=>cases hh
    | cons p L =>
     simp only [zMC,List.cons.injEq] at hh ⊢
     refine ⟨?_,ih L hh.2⟩
     have:=(r1.tm t _ hh.1).2
     simp only [RepA] at this
     exact this.1
  exact this _ _ htbs
 let d:Deferred:={ target:=.fn (.func g) ps,args:=#[] }
 let a2:Act:={ tmps:=a1.tmps.setIfInBounds F.tc (.func (.func g) #[] ps),defers:=d :: a1.defers }
 have hwp:∀ Q,Code.wpIn (wd none) 0 P F.rest Q a2 w1→Code.wpIn (wd none) 0 P (.seq (.region F.id #[F.o1,F.o2] false) F.rest) Q a1 w1:=by
  intro Q hq
  refine wpIn_seq (wpIn_region ?_)
  have hrange:List.range (#[F.o1,F.o2]:Array Oper).size=[0,1]:=rfl
  rw [hrange]
  have hget0:(#[F.o1,F.o2]:Array Oper)[0]?=some F.o1:=rfl
  have hget1:(#[F.o1,F.o2]:Array Oper)[1]?=some F.o2:=rfl
  have hw1:∀ y,Region.wanted F.o1 y=true:=fun y=>by simp [Region.wanted,F.hg1]
  have hw2:∀ y,Region.wanted F.o2 y=true:=fun y=>by simp [Region.wanted,F.hg2]
  have hrun1:(execOp a1.eval F.o1).run P w1=.ok (.value (.func (.func g) #[] ps)) w1:=by simp [execOp,F.hop1,Instr.makeFunc,ps]
  have htc:(a1.put F.o1.dst (.func (.func g) #[] ps)).eval (.tmp F.tc)=.func (.func g) #[] ps:=by
   have h0:F.tc < a1.tmps.size:=by rw [r1.siz]; exact F.hlt
   simp [Act.put,F.hd1,Act.eval,h0]
  have hrun2:(execOp (a1.put F.o1.dst (.func (.func g) #[] ps)).eval F.o2).run P w1=.ok (.defer d) w1:=by
   simp [execOp,F.hop2,resolve,htc,Deferred.ofValue,d]
  simp only [wpOpsIn,hget0,hget1,hw1,hw2,if_true]
  refine ⟨fun _ _=>trivial,?_⟩
  show Oper.uponIn _ _ _ _ _ _ _ (Sem.run P (execOp a1.eval F.o1) w1)
  rw [hrun1]
  refine ⟨fun _ _=>trivial,?_⟩
  show Oper.uponIn _ _ _ _ _ _ _ (Sem.run P (execOp (a1.put F.o1.dst (.func (.func g) #[] ps)).eval F.o2) w1)
  rw [hrun2]
  show Code.wpIn (wd none) 0 P F.rest Q _ w1
  have:({ (a1.put F.o1.dst (.func (.func g) #[] ps)) with defers:=d :: (a1.put F.o1.dst (.func (.func g) #[] ps)).defers }:Act).put F.o2.dst undef=a2:=by
   simp [Act.put,F.hd1,F.hd2,a2]
  rw [this]
  exact hq
 refine hwp _ ?_
 have hinv:∀ c ∈ s.H.map (·.1),sgI L (sg L c)=c:=by
  intro c hc
  obtain ⟨p,hp,rfl⟩:=List.mem_map.1 hc
  exact hsg1 p hp
 have hkeep:∀ c,1000≤c→sg L c=c:=by
  intro c hc
  unfold sg
  cases hq:look L c with
  | none=>rfl
  | some d =>
   have:c ∈ L.map (·.1):=look_mem.1 (by rw [hq]; simp)
   obtain ⟨p,hp,rfl⟩:=List.mem_map.1 this
   have:=(hL p hp).1
   omega
 let φ2:Nat→Nat:=fun x=>φ1 (sgI L x)
 have hφ2:∀ c,look s.H c ≠ none→φ2 (sg L c)=φ1 c:=fun c hc=>by simp only [φ2]; rw [hinv c (look_mem.1 hc)]
 have hsinj:∀ c d,c ∈ s.H.map (·.1)→d ∈ s.H.map (·.1)→sg L c=sg L d→c=d:=fun c d hc hd he=>by rw [← hinv c hc,he,hinv d hd]
 have hlook:∀ c k,look s.H c=some k→look (sgH L s.H) (sg L c)=some (renB (sg L) k):=by
  intro c k hk
  have hcm:c ∈ s.H.map (·.1):=look_mem.1 (by rw [hk]; simp)
  unfold sgH
  rw [look_ren (fun x y hx hy hxy=>hsinj x y hx (by rcases List.mem_cons.1 hy with rfl | hy; exact hcm; exact hy) hxy),hk]
  rfl
 have hcase:∀ x k,look (sgH L s.H) x=some k→∃ c k',look s.H c=some k'∧sg L c=x∧k=renB (sg L) k':=by
  intro x k hx
  have:x ∈ (sgH L s.H).map (·.1):=look_mem.1 (by rw [hx]; simp)
  simp only [sgH,List.map_map,List.mem_map,Function.comp] at this
  obtain ⟨q,hq,rfl⟩:=this
  have hqm:q.1 ∈ s.H.map (·.1):=List.mem_map_of_mem hq
  obtain ⟨k',hk'⟩:=zNE.1 (look_mem.2 hqm)
  rw [hlook q.1 k' hk'] at hx
  exact ⟨q.1,k',hk',rfl,(Option.some.inj hx).symm⟩
 have hmut:∀ x o,Mut φ2 (look (sgH L s.H)) x o→Mut φ1 (look s.H) x o:=by
  rintro x o ⟨y,k,g1,g2,g3⟩
  obtain ⟨c,k',g4,rfl,rfl⟩:=hcase y k g1
  refine ⟨c,k',g4,?_,?_⟩
  ·rw [← hφ2 c (by rw [g4]; simp)]; exact g2
  ·cases k' <;> exact g3
 have hM:∀ x o,MM φ2 (look (sgH L s.H)) M0 x o→MM φ1 (look s.H) M0 x o:=fun x o hx=>hx.elim (fun h=>.inl (hmut x o h)) .inr
 obtain ⟨o1,o2⟩:=ren_out (w:=w1) (ρ:=sg L) (φ:=φ2) (φc:=φ1) (h:=look (sgH L s.H)) (hc:=look s.H) hφ2 hM hlook
 have hH2:RelH φ2 (look (sgH L s.H)) w1 M0:=by
  refine ⟨fun x y hx hy he=>?_,fun x k hx=>?_,fun x hx o hm=>?_,r1.hp.lt,r1.hp.gm.sub hM⟩
  ·obtain ⟨kx,hkx⟩:=zNE.1 hx
   obtain ⟨ky,hky⟩:=zNE.1 hy
   obtain ⟨c,k1,g1,rfl,_⟩:=hcase x kx hkx
   obtain ⟨c',k2,g2,rfl,_⟩:=hcase y ky hky
   rw [hφ2 c (by rw [g1]; simp),hφ2 c' (by rw [g2]; simp)] at he
   rw [r1.hp.inj c c' (by rw [g1]; simp) (by rw [g2]; simp) he]
  ·obtain ⟨c,k',g1,rfl,rfl⟩:=hcase x k hx
   rw [hφ2 c (by rw [g1]; simp)]
   have:=r1.hp.blk c k' g1
   cases k' with
   | box ty cs=>obtain ⟨c0,q1,q2⟩:=this; exact ⟨c0,q1,o2 _ _ q2⟩
   | arr ty S n=>exact this
   | vec ty S es=>obtain ⟨c0,cap,q1,q2,q3,q4,q5,q6,q7⟩:=this; exact ⟨c0,cap,q1,q2,q3,q4,q5,q6,repAs_ps hM _ _ q7⟩
   | lp T nf st pd =>
    obtain ⟨tmps,d,q1,q2,q3⟩:=this
    refine ⟨tmps,d,q1,q2,fun t x ht=>?_⟩
    rw [look_mapT] at ht
    cases hl:look T t with
    | none=>rw [hl] at ht; cases ht
    | some y =>
     rw [hl] at ht
     cases ht
     exact ⟨(q3 t y hl).1,o1 _ _ (q3 t y hl).2⟩
   | mp es =>
    obtain ⟨en,cl,q1,q2,q3⟩:=this
    refine ⟨en,cl,q1,q2,?_⟩
    have:=o2 _ _ q3
    rw [rens_p] at this; exact this
   | mm S G =>
    obtain ⟨en,cl,L,ks,q1,q2,q3,q4,q5⟩:=this
    have k3:=o2 _ _ q3
    have k4:=o2 _ _ q4
    rw [rens_pf] at k3 k4
    exact ⟨en,cl,L,ks,q1,q2,k3,k4,q5⟩
   | mf es =>
    obtain ⟨en,cl,q1,q2,q3,q4⟩:=this
    exact ⟨en,cl,q1,by rw [keys_on]; exact q2,by rw [rens_on]; exact o2 _ _ q3,q4⟩
   | mg en cl es =>
    obtain ⟨q1,q2,q3,q4⟩:=this
    exact ⟨q1,by rw [keys_on]; exact q2,by rw [rens_on]; exact o2 _ _ q3,q4⟩
   | it m cl sn =>
    obtain ⟨q1,k2,q2,q3⟩:=this
    exact ⟨by rw [hφ2 m (by rw [q2]; simp)]; exact q1,_,hlook m _ q2,by rw [renB_ob,q3]; rfl⟩
  ·obtain ⟨kx,hkx⟩:=zNE.1 hx
   obtain ⟨c,k1,g1,rfl,_⟩:=hcase x kx hkx
   rw [hφ2 c (by rw [g1]; simp)] at hm
   exact r1.hp.fr c (by rw [g1]; simp) o hm
 have hE2:Evol φ1 (look s.H) w1 φ2 (look (sgH L s.H)) w1:=by
  have hsame:∀ c k,1000≤c→look s.H c=some k→look (sgH L s.H) c=some (renB (sg L) k)∧φ2 c=φ1 c:=by
   intro c k hc hcc
   have h1:=hlook c _ hcc
   have h2:=hφ2 c (by rw [hcc]; simp)
   rw [hkeep c hc] at h1 h2
   exact ⟨h1,h2⟩
  refine ⟨rfl,rfl,rfl,zNR _,fun _ _ h=>h,fun _ _ _=>rfl,fun _ _ _ _=>rfl,fun x o _ hm=>hmut x o hm,?_,?_,?_,?_⟩
  ·intro c ty cs hc hcc
   obtain ⟨h1,h2⟩:=hsame c _ hc hcc
   exact ⟨⟨rens (sg L) cs,h1⟩,h2⟩
  ·intro t ty S n ht htt
   obtain ⟨h1,h2⟩:=hsame t _ ht htt
   exact ⟨n,h1,zNR _,fun _=>akept (h2) rfl⟩
  ·intro t ty S n ht htt
   obtain ⟨h1,h2⟩:=hsame t _ ht htt
   exact ⟨n,h1,zNR _,fun _=>⟨h2,fun c hc=>⟨c,hc,rfl⟩⟩⟩
  ·intro c k x hc hcc ho
   obtain ⟨h1,h2⟩:=hsame c _ hc hcc
   exact ⟨⟨_,h1,by rw [renB_ob,ho]; exact hnob c k x hcc ho⟩,h2⟩
 have hcapsL:(L.map fun p=>AV.ptr (sg L p.1) 0)=capsL L:=List.map_congr_left fun p hp=>by rw [(hsg2 p hp).1.2]
 have hboxes:∀ p ∈ L,∃ ty cs,look (sgH L s.H) (sg L p.1)=some (.box ty cs):=by
  intro p hp
  obtain ⟨_,_,ty,cs,hb⟩:=hL p hp
  exact ⟨ty,rens (sg L) cs,hlook _ _ hb⟩
 have r2:Rel φ2 M0 fn.ntmps ⟨d :: a1.defers,w1.heap.size⟩ (look ((F.tc, .fn (.func g) [] (L.map fun p=>.ptr (sg L p.1) 0)) :: sgT L s.T)) (look (sgH L s.H)) a2 w1:=by
  refine ⟨⟨zNR _,[],rfl,List.nodup_nil,fun r hr=>by cases hr⟩,by simp [a2,r1.siz],hH2,fun t x ht=>?_⟩
  simp only [look] at ht
  by_cases e:F.tc=t
  ·simp only [e,if_true,sie] at ht
   subst ht
   refine ⟨e ▸ F.hlt,?_⟩
   have h0:t < a1.tmps.size:=by rw [r1.siz]; exact e ▸ F.hlt
   have:a2.tmps.getD t undef=.func (.func g) #[] ps:=by simp [a2,e,h0]
   rw [this]
   simp only [RepA,RepAs]
   refine ⟨[],ps.toList,by simp,rfl,?_⟩
   rw [hpv]
   have:∀ l:List (Nat × Nat),(∀ p ∈ l,p ∈ L)→RepAs φ2 (look (sgH L s.H)) w1 (MM φ2 (look (sgH L s.H)) M0) (l.map fun p=>.ptr (sg L p.1) 0) (l.map fun p=>.pointer (some ⟨φ1 p.1,0,none⟩)):=by
    intro l
    induction l with
    | nil=>intro _; simp [RepAs]
    | cons p l ih =>
     intro hh
     simp only [zMC,RepAs]
     refine ⟨_,_,rfl,?_,ih fun q hq=>hh q (by simp [hq])⟩
     simp only [RepA]
     obtain ⟨_,_,ty,cs,hb⟩:=hL p (hh p zq)
     exact ⟨by rw [hφ2 p.1 (by rw [hb]; simp)],hboxes p (hh p zq)⟩
   exact this L fun p hp=>hp
  ·simp only [e,if_false] at ht
   rw [look_sgT] at ht
   cases hq:look s.T t with
   | none=>rw [hq] at ht; cases ht
   | some y =>
    rw [hq] at ht
    simp only [Option.map_some,sie] at ht
    subst ht
    obtain ⟨g1,g2⟩:=r1.tm t y hq
    refine ⟨g1,?_⟩
    have:a2.tmps.getD t undef=a1.tmps.getD t undef:=by simp [a2,Array.getElem?_setIfInBounds_ne e]
    rw [this]
    exact o1 _ _ g2
 rw [hcapsL] at r2
 refine wpIn_mono (hrest φ2 M0 _ a2 w1 r2) ?_
 rintro e a3 w3 ⟨φ3,k,s3,hq,r3,E3,hx⟩
 have Etot:=(E1.trans hE2).trans E3
 have hinvk:∀ w,(invoke (.fn (.func g) ps) #[]).run P w=.ok (.enter g ps) w:=fun w=>by
  simp only [invoke]
  rw [run_callFunc hbg]
  simp
 obtain ⟨hbase,ms,hd,hnd,hms⟩:=r3.dfs
 have hm2:∀ r ∈ ms,w3.heap[r]?=some (.deferred (some []))∧∀ b,look s3.H b ≠ none→φ3 b ≠ r:=fun r hr=>(hms r hr).2
 have hold1:∀ ms1:List Nat,a1.defers=(ms1.map fun r=>({ target:=.collected r,args:=#[] }:Deferred))→∀ r ∈ ms1,r < w1.heap.size:=by
  intro ms1 h1 r hr
  obtain ⟨_,ms0,h2,_,h3⟩:=r1.dfs
  have e:ms1=ms0:=by
   rw [h1] at h2
   simp only [List.append_nil] at h2
   exact marks_inj h2
  rw [e] at hr
  exact (zGS.1 (h3 r hr).2.1).1
 have mk1:Marks φ3 ⟨[],w.heap.size⟩ (look s3.H) a1 w3:=(r1.dfs.keep hE2).keep E3
 have hcap3:RepAs φ3 (look s3.H) w3 (MM φ3 (look s3.H) M0) (capsL L) ps.toList:=by
  rw [hpv]
  have:∀ l:List (Nat × Nat),(∀ p ∈ l,p ∈ L)→RepAs φ3 (look s3.H) w3 (MM φ3 (look s3.H) M0) (capsL l) (l.map fun p=>.pointer (some ⟨φ1 p.1,0,none⟩)):=by
   intro l
   induction l with
   | nil=>intro _; simp [capsL,RepAs]
   | cons p l ih =>
    intro hh
    have hp:=hh p zq
    simp only [capsL,zMC,RepAs]
    refine ⟨_,_,rfl,?_,ih fun q hq=>hh q (by simp [hq])⟩
    simp only [RepA]
    obtain ⟨_,h1000,ty,cs,hb⟩:=hL p hp
    obtain ⟨ty2,cs2,hb2⟩:=hboxes p hp
    rw [(hsg2 p hp).1.2] at hb2
    obtain ⟨⟨cs3,hb3⟩,hφ3⟩:=E3.kb p.2 ty2 _ h1000 hb2
    refine ⟨?_,ty2,cs3,hb3⟩
    rw [hφ3,← (hsg2 p hp).1.2,hφ2 p.1 (by rw [hb]; simp)]
  exact this L fun p hp=>hp
 have go:∀ (u u':FrameMode) (rv:AV),u ≠ .run→settle u'=.returning→DEx P fn.ntmps g (rv :: capsL L) s3 (endR P fn hc R) →
   (∀ w',Turned ms w3 w'→∃ v,RepA φ3 (look s3.H) w' (MM φ3 (look s3.H) M0) rv v∧recOk u u' v) →
   LeavesW P fn a3.tmps (Out R φ (look hc) w M0) a3.defers u w3:=by
  intro u u' rv hu hset hcall hrec
  rw [hd]
  refine leavesM' hu _ ms w3 hnd (fun r hr=>(hms r hr).2.1) fun w4 t=>?_
  have r4:=r3.turned t hm2
  have E4:=Etot.turned t (fun r hr=>Nat.le_trans E1.size (hms r hr).1) hm2
  obtain ⟨v,hv,hm⟩:=hrec w4 t
  have hcap4:RepAs φ3 (look s3.H) w4 (MM φ3 (look s3.H) M0) (rv :: capsL L) (v :: ps.toList):=by
   simp only [RepAs]
   refine ⟨v,ps.toList,rfl,hv,?_⟩
   have:∀ (xs:List AV) (l:List Value),RepAs φ3 (look s3.H) w3 (MM φ3 (look s3.H) M0) xs l→RepAs φ3 (look s3.H) w4 (MM φ3 (look s3.H) M0) xs l:=by
    intro xs
    induction xs with
    | nil=>intro l hl; simpa [RepAs] using hl
    | cons x xs ih =>
     intro l hl
     simp only [RepAs] at hl ⊢
     obtain ⟨y,ys,rfl,h1,h2⟩:=hl
     exact ⟨y,ys,rfl,repA_turned t hm2 _ _ h1,ih _ h2⟩
   exact this _ _ hcap3
  have hCD:=hcall φ3 M0 _ _ w4 (v :: ps.toList) r4 hcap4 u u' v ps.toList rfl hm
  rw [Array.toArray_toList] at hCD
  refine ⟨hu, .inr ⟨.func g,ps,g,ps,rfl,hinvk w4,hCD.mono ?_⟩⟩
  rintro e u'' w5 ⟨rfl,he⟩
  cases e with
  | panicked c=>exact he.elim
  | outgrown=>exact he.elim
  | returned x =>
  obtain ⟨φ5,s5,g1,g2,g3⟩:=he
  show LeavesW P fn a3.tmps (Out R φ (look hc) w M0) a1.defers (settle u'') w5
  rw [hset]
  obtain ⟨_,ms1,hd1,hnd1,hms1⟩:=mk1
  have hd1':a1.defers=(ms1.map fun r=>({ target:=.collected r,args:=#[] }:Deferred))++[]:=hd1
  have hms5:∀ r ∈ ms1,w5.heap[r]?=some (.deferred (some []))∧∀ b,look s5.H b ≠ none→φ5 b ≠ r:=by
   intro r hr
   have h3:=hms1 r hr
   have hnot:r ∉ ms:=fun hx=>by
    have h6:w1.heap.size≤r:=(hms r hx).1
    have h7:=hold1 ms1 (by simpa using hd1) r hr
    omega
   have h4:w4.heap[r]?=some (.deferred (some [])):=by rw [t.same r hnot]; exact h3.2.1
   have hlt:r < w4.heap.size:=(zGS.1 h4).1
   refine ⟨(g3.same r hlt h3.2.2).trans h4,fun b hb e=>?_⟩
   cases hk:look s5.H b with
   | none=>exact hb hk
   | some k =>
    obtain ⟨o,ho⟩:=mut_big (φ:=φ5) hk
    rw [e] at ho
    obtain ⟨b0,k0,hb0,hφ,_⟩:=g3.mu r o hlt ho
    exact h3.2.2 b0 (by rw [hb0]; simp) hφ
  rw [hd1']
  refine leavesM' zq _ ms1 w5 hnd1 (fun r hr=>(hms5 r hr).1) fun w6 t6=>?_
  have r6:=g2.turned t6 hms5
  have E6:=(E4.trans g3).turned t6 (fun r hr=>(hms1 r hr).1) hms5
  obtain ⟨y,q1,q2⟩:=endR_out r6 E6 g1
  exact ⟨y,q1,q2⟩
 cases k with
 | normal =>
  simp only [RepX] at hx
  subst hx
  exact go .returning .returning nilI zq rfl hq fun w' t=>⟨.nilIface,by simp [nilI,RepA,RepP],fun c0 cs hm=>.inr ⟨by simp [recoverD,hm],rfl,rfl⟩⟩
 | ret =>
  simp only [RepX] at hx
  subst hx
  exact go .returning .returning nilI zq rfl hq fun w' t=>⟨.nilIface,by simp [nilI,RepA,RepP],fun c0 cs hm=>.inr ⟨by simp [recoverD,hm],rfl,rfl⟩⟩
 | exit i=>exact hq.elim
 | panic x =>
  obtain ⟨v,rfl,hv⟩:=hx
  refine go (.panicking [{ v:=v,recovered:=false }]) (.panicking [{ v:=v,recovered:=true }]) x zq rfl hq fun w' t=>⟨v,?_,fun c0 cs hm=>.inl (by simp [recoverD,hm])⟩
  exact repA_turned t hm2 _ _ hv
theorem krf {α:Type} {a b:α} (h:a=b:=by kernel_rfl):a=b:=h
theorem kff {α β:Type} {f g:α→β} (h:∀ x,f x=g x:=by intro _; kernel_rfl):∀ x,f x=g x:=h
def bxc (cs:List PV):List AV:=cs.map .p
def ag (cs:List PV):AV:=.agg (cs.map .p)
inductive Conv where
 | id
 | sl (S:Nat)
 | vn
 | vt
 | agg (l:List Conv)
mutual
def cv:Conv→AV→AV
 | .sl _, .tsl S es _=>.p (.sl S es)
 | .sl S, .p (.val (.slice none 0 0))=>.p (.sl S [])
 | .vn, .p (.val (.slice none 0 0))=>.vnil
 | .sl S, .vnil=>.p (.sl S [])
 | .vt, .vsl S t n=>.vtl S t n 0 n
 | .agg cs, .agg xs=>.agg (cvs cs xs)
 | .agg cs, .tup xs=>.tup (cvs cs xs)
 | _,x=>x
def cvs:List Conv→List AV→List AV
 | _,[]=>[]
 | [],x :: xs=>x :: xs
 | c :: cs,x :: xs=>cv c x :: cvs cs xs
end
theorem cv_le':∀ n:Nat,(∀ (x:AV),SizeOf.sizeOf x≤n→∀ c,le x (cv c x))∧(∀ (xs:List AV),SizeOf.sizeOf xs≤n→∀ cs,les xs (cvs cs xs)):=by
 intro n
 induction n with
 | zero =>
  refine ⟨fun x hx=>?_,fun es hx=>?_⟩
  ·cases x <;> simp at hx
  ·cases es <;> simp at hx
 | succ n ih =>
  obtain ⟨i1,i2⟩:=ih
  refine ⟨fun x hx c=>?_,fun xs hx cs=>?_⟩
  ·unfold cv
   split
   ·simp [le]
   ·simp [le]
   ·simp [le]
   ·simp [le]
   ·simp [le]
   ·rename_i cs xs
    simp only [le]
    simp at hx
    exact ⟨_,rfl,i2 xs zo cs⟩
   ·rename_i cs xs
    simp only [le]
    simp at hx
    exact ⟨_,rfl,i2 xs zo cs⟩
   ·exact le_refl x
  ·cases xs with
   | nil=>simp [cvs,les]
   | cons x xs =>
    simp at hx
    cases cs with
    | nil=>simp only [cvs]; exact les_refl _
    | cons c cs=>simp only [cvs,les]; exact ⟨_,_,rfl,i1 x zo c,i2 xs zo cs⟩
theorem cv_le (c:Conv) (x:AV):le x (cv c x):=(cv_le' (SizeOf.sizeOf x)).1 x (zNR _) c
theorem cvs_les (cs:List Conv) (xs:List AV):les xs (cvs cs xs):=(cv_le' (SizeOf.sizeOf xs)).2 xs (zNR _) cs
def convAt (C:List (Nat × Conv)) (t:Nat):Conv:=(look C t).getD .id
def pickT (C:List (Nat × Conv)) (T:List (Nat × AV)):List Nat→List (Nat × AV)
 | []=>[]
 | t :: L=>match look T t with | some x=>(t,cv (convAt C t) x) :: pickT C T L | none=>pickT C T L
def cvB (cs:List Conv):Blk→Blk
 | .box ty xs=>.box ty (cvs cs xs)
 | k=>k
def pickH (C:List (Nat × List Conv)) (H:List (Nat × Blk)):List Nat→List (Nat × Blk)
 | []=>[]
 | b :: L=>match look H b with | some k=>(b,cvB ((look C b).getD []) k) :: pickH C H L | none=>pickH C H L
structure Keep where
 ts:List Nat
 bs:List Nat
 ct:List (Nat × Conv):=[]
 cb:List (Nat × List Conv):=[]
def shr (K:Keep) (s:St):St:=⟨pickT K.ct s.T K.ts,pickH K.cb s.H K.bs⟩
def okT (h:Heap):List (Nat × AV)→Bool
 | []=>true
 | (_,x) :: l=>okRef h x&&okT h l
def okH (h:Heap):List (Nat × Blk)→Bool
 | []=>true
 | (_,k) :: l=>okRefB h k&&okH h l
def shrOk (s s':St):Bool:=okT (look s'.H) s'.T&&okH (look s'.H) s'.H&&keepsAll (look s'.H) s.H
def shrQ (K:Keep) (s:St):Option St:=if shrOk s (shr K s) then some (shr K s) else none
theorem leB_cv (cs:List Conv) (k:Blk):leB k (cvB cs k):=by
 cases k with
 | box ty xs=>exact ⟨_,rfl,cvs_les cs xs⟩
 | arr ty S n=>rfl
 | vec ty S es=>rfl
 | lp T nf st pd=>rfl
 | mp es=>rfl
 | mf es=>rfl
 | mg en cl es=>rfl
 | it m cl sn=>rfl
 | mm S G=>rfl
theorem subT_pick {T:List (Nat × AV)} {h':Heap} {C:List (Nat × Conv)}:∀ {L:List Nat},okT h' (pickT C T L)=true→subT (look T) h' (pickT C T L)
 | [],_=>by simp [pickT,subT]
 | t :: L,h=>by
  simp only [pickT] at h ⊢
  cases ht:look T t with
  | none=>simp only [ht] at h ⊢; exact subT_pick h
  | some x =>
   simp only [ht,okT,bae] at h ⊢
   simp only [subT,ht,leO]
   exact ⟨cv_le _ _,h.1,subT_pick h.2⟩
theorem subH_pick {H:List (Nat × Blk)} {h':Heap} {C:List (Nat × List Conv)}:∀ {L:List Nat},okH h' (pickH C H L)=true→subH (look H) h' (pickH C H L)
 | [],_=>by simp [pickH,subH]
 | b :: L,h=>by
  simp only [pickH] at h ⊢
  cases hb:look H b with
  | none=>simp only [hb] at h ⊢; exact subH_pick h
  | some k =>
   simp only [hb,okH,bae] at h ⊢
   simp only [subH,hb,leBO]
   exact ⟨leB_cv _ _,h.1,subH_pick h.2⟩
theorem weak_shr {N:Nat} {K:Keep} {s s':St} (h:shrQ K s=some s'):Weak N s s':=by
 unfold shrQ at h
 split at h
 ·rename_i hok
  simp only [sie] at h
  subst h
  simp only [shrOk,bae] at hok
  exact weak_sub (subT_pick hok.1.1) (subH_pick hok.1.2) hok.2
 ·cases h
structure SimE {R:Type} (o:Option R) (P:Program) (N:Nat) (ro:Option Nat) (c:Code) (s:St) (Q:R→AX→St→Prop):Prop where
 intro ::
 h:∀ r,o=some r→Ex P N ro c s (Q r)
structure SimQ {R:Type} (o:Option R) (Q:R→AX→St→Prop) (x:AX) (s:St):Prop where
 intro ::
 h:∀ r,o=some r→Q r x s
def seqQ {R:Type} (P:Program) (N:Nat) (ro:Option Nat) (y:Code) (Q:R→AX→St→Prop):R→AX→St→Prop:=fun r=>andThen (fun s'=>Ex P N ro y s' (Q r)) (Q r)
def blkQ {R:Type} (id:Nat) (Q:R→AX→St→Prop):R→AX→St→Prop:=fun r=>inBlock id (Q r)
def kQ {V R:Type} (N:Nat) (k:V→Option R) (S:V→St) (Q:R→AX→St→Prop):R→AX→St→Prop:=fun r=>andThen (fun s'=>∃ v,k v=some r∧Weak N s' (S v)) (Q r)
def nrmQ {V:Type} (N:Nat) (S:V→St):V→AX→St→Prop:=fun v x s'=>x=.normal∧Weak N s' (S v)
section
variable {R V:Type} {o o1 o2:Option R} {P:Program} {N:Nat} {ro:Option Nat} {x y c:Code} {s s':St} {Q:R→AX→St→Prop}
theorem sS (h:SimE o P N ro x s (seqQ P N ro y Q)):SimE o P N ro (.seq x y) s Q:=⟨fun r hr=>ex_seq (h.h r hr)⟩
theorem sK (h:SimQ o Q .normal s):SimE o P N ro .skip s Q:=⟨fun r hr=>ex_skip (h.h r hr)⟩
theorem sim_label {l:Nat} (h:SimQ o Q .normal s):SimE o P N ro (.label l) s Q:=⟨fun r hr=>ex_label (h.h r hr)⟩
theorem sT (h:SimQ o Q .ret s):SimE o P N ro .ret s Q:=⟨fun r hr=>ex_ret (h.h r hr)⟩
theorem sim_exit {id:Nat} (h:SimQ o Q (.exit id) s):SimE o P N ro (.exit id) s Q:=⟨fun r hr=>ex_exit (h.h r hr)⟩
theorem sB {id:Nat} (h:SimE o P N ro c s (blkQ id Q)):SimE o P N ro (.block id c) s Q:=⟨fun r hr=>ex_block (h.h r hr)⟩
theorem sim_scope (h:SimE o P N ro c s Q):SimE o P N ro (.scope c) s Q:=⟨fun r hr=>ex_scope (h.h r hr)⟩
theorem sim_weak (hw:Weak N s s') (h:SimE o P N ro c s' Q):SimE o P N ro c s Q:=⟨fun r hr=>ex_weak hw (h.h r hr)⟩
theorem sP (K:Keep) (s':St) (hw:shrQ K s=some s') (h:SimE o P N ro c s' Q):SimE o P N ro c s Q:=⟨fun r hr=>ex_weak (weak_shr hw) (h.h r hr)⟩
theorem sC {a:Operand} (b:Bool) (hb:evO (look s.T) a=some (.p (.val (.bool b)))) (h1:SimE o1 P N ro x s Q) (h2:SimE o2 P N ro y s Q):SimE (cond b o1 o2) P N ro (.cond a x y) s Q:=by
 refine ⟨fun r hr=>?_⟩
 refine ex_cond b hb (fun e=>?_) (fun e=>?_)
 ·subst e; exact h1.h r hr
 ·subst e; exact h2.h r hr
theorem sim_condT {a:Operand} (hb:evO (look s.T) a=some (.p (.val (.bool true)))) (h1:SimE o P N ro x s Q):SimE o P N ro (.cond a x y) s Q:=⟨fun r hr=>ex_cond true hb (fun _=>h1.h r hr) (fun e=>by cases e)⟩
theorem sim_condF {a:Operand} (hb:evO (look s.T) a=some (.p (.val (.bool false)))) (h1:SimE o P N ro y s Q):SimE o P N ro (.cond a x y) s Q:=⟨fun r hr=>ex_cond false hb (fun e=>by cases e) (fun _=>h1.h r hr)⟩
theorem sN (K:Keep) (s':St) (hw:shrQ K s=some s') (h:SimE o P N ro y s' Q):SimQ o (seqQ P N ro y Q) .normal s:=⟨fun r hr=>(sP (Q:=Q) K s' hw h).h r hr⟩
theorem sq_r (h:SimQ o Q .ret s):SimQ o (seqQ P N ro y Q) .ret s:=⟨fun r hr=>h.h r hr⟩
theorem sq_x {i:Nat} (h:SimQ o Q (.exit i) s):SimQ o (seqQ P N ro y Q) (.exit i) s:=⟨fun r hr=>h.h r hr⟩
theorem sq_p {p:AV} (h:SimQ o Q (.panic p) s):SimQ o (seqQ P N ro y Q) (.panic p) s:=⟨fun r hr=>h.h r hr⟩
theorem bq_n {id:Nat} (h:SimQ o Q .normal s):SimQ o (blkQ id Q) .normal s:=⟨fun r hr=>h.h r hr⟩
theorem bq_r {id:Nat} (h:SimQ o Q .ret s):SimQ o (blkQ id Q) .ret s:=⟨fun r hr=>h.h r hr⟩
theorem bq_p {id:Nat} {p:AV} (h:SimQ o Q (.panic p) s):SimQ o (blkQ id Q) (.panic p) s:=⟨fun r hr=>h.h r hr⟩
theorem bq_hit {id:Nat} (h:SimQ o Q .normal s):SimQ o (blkQ id Q) (.exit id) s:=by
 refine ⟨fun r hr=>?_⟩
 have:=h.h r hr
 simp only [blkQ,inBlock,if_true]; exact this
theorem bq_miss {id i:Nat} (hi:(i == id)=false) (h:SimQ o Q (.exit i) s):SimQ o (blkQ id Q) (.exit i) s:=by
 refine ⟨fun r hr=>?_⟩
 have:=h.h r hr
 have hne:¬ i=id:=by simpa using hi
 simp only [blkQ,inBlock,hne,if_false]; exact this
theorem kq_n {k:V→Option R} {S:V→St} (v:V) (K:Keep) (hw:shrQ K s=some (S v)):SimQ (k v) (kQ N k S Q) .normal s:=⟨fun r hr=>⟨v,hr,weak_shr hw⟩⟩
theorem kq_w {k:V→Option R} {S:V→St} (v:V) (hw:Weak N s (S v)):SimQ (k v) (kQ N k S Q) .normal s:=⟨fun r hr=>⟨v,hr,hw⟩⟩
theorem kq_r {k:V→Option R} {S:V→St} (h:SimQ o Q .ret s):SimQ o (kQ N k S Q) .ret s:=⟨fun r hr=>h.h r hr⟩
theorem kq_x {k:V→Option R} {S:V→St} {i:Nat} (h:SimQ o Q (.exit i) s):SimQ o (kQ N k S Q) (.exit i) s:=⟨fun r hr=>h.h r hr⟩
theorem kq_p {k:V→Option R} {S:V→St} {p:AV} (h:SimQ o Q (.panic p) s):SimQ o (kQ N k S Q) (.panic p) s:=⟨fun r hr=>h.h r hr⟩
theorem nq_n {S:V→St} (v:V) (K:Keep) (hw:shrQ K s=some (S v)):SimQ (some v) (nrmQ N S) .normal s:=⟨fun r hr=>by cases hr; exact ⟨rfl,weak_shr hw⟩⟩
theorem sim_cps (S:V→St) (k:V→Option R) (h2:∀ v,SimE (k v) P N ro y (S v) Q) (h1:SimE o P N ro x s (kQ N k S Q)):SimE o P N ro (.seq x y) s Q:=by
 refine ⟨fun r hr=>?_⟩
 refine ex_seq (ex_mono (h1.h r hr) ?_)
 intro e s' he
 cases e with
 | normal=>obtain ⟨v,hv,hw⟩:=he; exact ex_weak hw ((h2 v).h r hv)
 | exit i=>exact he
 | ret=>exact he
 | panic p=>exact he
theorem sBi (S:V→St) {m:Option V} {k:V→Option R} (h1:SimE m P N ro x s (nrmQ N S)) (h2:∀ v,SimE (k v) P N ro y (S v) Q):SimE (m.bind k) P N ro (.seq x y) s Q:=by
 refine ⟨fun r hr=>?_⟩
 obtain ⟨v,hv,hk⟩:=zBS.1 hr
 refine ex_seq (ex_mono (h1.h v hv) ?_)
 rintro e s' ⟨rfl,hw⟩
 exact ex_weak hw ((h2 v).h r hk)
end
def loopN {V R:Type} (B:(V→Option R)→V→Option R):Nat→V→Option R
 | 0,_=>none
 | k+1,v=>B (loopN B k) v
theorem sim_loop {R V:Type} {P:Program} {N:Nat} {ro:Option Nat} {c:Code} {s:St} {Q:R→AX→St→Prop} (S:V→St) {B:(V→Option R)→V→Option R} {n:Nat} {v0:V} (hw:Weak N s (S v0))
  (hB:∀ rec v,SimE (B rec v) P N ro c (S v) (kQ N rec S Q)):SimE (loopN B n v0) P N ro (.loop c) s Q:=by
 refine ⟨fun r hr=>?_⟩
 refine ex_weak hw (ex_loop (ι:={ p:Nat × V // loopN B p.1 p.2=some r }) (fun p=>S p.1.2) (fun p=>p.1.1) ⟨(n,v0),hr⟩ ?_)
 rintro ⟨⟨k,v⟩,hk⟩
 cases k with
 | zero=>cases hk
 | succ k =>
  refine ex_mono ((hB (loopN B k) v).h r hk) ?_
  intro e s' he
  cases e with
  | normal=>obtain ⟨v',hv',hw'⟩:=he; exact ⟨⟨(k,v'),hv'⟩,by simp,hw'⟩
  | exit i=>exact he
  | ret=>exact he
  | panic p=>exact he
def plain:Op→Bool
 | .pick _ _ _=>false
 | .panic _=>false
 | .call ⟨.value _,_,_⟩=>false
 | _=>true
theorem yieldOf_plain {op:Op} {T:Nat→Option AV} (h:plain op=true):yieldOf T op=none:=by
 unfold yieldOf
 split
 ·simp [plain] at h
 ·rfl
def XR (P:Program) (N:Nat) (ops:Array Oper) (Q:AX→St→Prop) (d:Option (List Foot)) (l:List Oper) (s:St):Prop :=
 match d with
 | none=>ExOps P N ops Q l s
 | some acc=>ExDraw P N ops Q l acc s
def footR (u:Res):Foot:=(u.2.1.map (·.1),u.2.2)
def more (d:Option (List Foot)) (f:Foot):Option (List Foot):=d.map (f :: ·)
def nxt (ops:Array Oper) (o:Oper) (s:St) (u:Res):St:=put' ⟨gMark ops o s.T true,s.H⟩ o.dst u
def mk (ops:Array Oper) (o:Oper) (s:St) (b:Bool):St:=⟨gMark ops o s.T b,s.H⟩
section
variable {P:Program} {N:Nat} {ops:Array Oper} {o:Oper} {l:List Oper} {d:Option (List Foot)} {s:St} {Q:AX→St→Prop}
theorem xr_true (hw:wantA ops o (look s.T)=some true) (hp:plain o.op=true) {u:Res} (hu:aop P o (look (gMark ops o s.T true)) (look s.H)=some u) (hd:dstLt N o.dst=true)
  (h:XR P N ops Q (more d (footR u)) l (nxt ops o s u)):XR P N ops Q d (o :: l) s:=by
 cases d with
 | none =>
  show ExOps P N ops Q (o :: l) s
  simp only [ExOps,hw,splitB_true,yieldOf_plain hp]
  show ExOp P N o _ _ _
  unfold ExOp
  split
  ·rename_i ho; rw [ho] at hp; cases hp
  ·rename_i ho; rw [ho] at hp; cases hp
  ·rename_i ho; rw [ho] at hp; cases hp
  ·rw [hu]; exact .inl ⟨hd,h⟩
 | some acc =>
  show ExDraw P N ops Q (o :: l) acc s
  simp only [ExDraw,hw,splitB_true]
  split
  ·rename_i ho; rw [ho] at hp; cases hp
  ·rename_i ho; rw [ho] at hp; cases hp
  ·rename_i ho; rw [ho] at hp; cases hp
  ·rw [hu]; exact .inl ⟨hd,h⟩
theorem xr_false (hw:wantA ops o (look s.T)=some false) (hd:dstLt N o.dst=true) (h:XR P N ops Q (more d (none,[])) l (St.put (mk ops o s false) o.dst (.p (.val undef)))):XR P N ops Q d (o :: l) s:=by
 cases d with
 | none =>
  show ExOps P N ops Q (o :: l) s
  simp only [ExOps,hw,splitB_false]
  exact ⟨hd,h⟩
 | some acc =>
  show ExDraw P N ops Q (o :: l) acc s
  simp only [ExDraw,hw,splitB_false]
  exact ⟨hd,h⟩
theorem xr_pick {c x y:Operand} (hw:wantA ops o (look s.T)=some true) (ho:o.op=.pick c x y) (b:Bool) (hc:evO (look (gMark ops o s.T true)) c=some (.p (.val (.bool b)))) {v:AV}
  (hv:evO (look (gMark ops o s.T true)) (cond b x y)=some v) (hd:dstLt N o.dst=true) (h:XR P N ops Q (more d (none,[])) l (St.put (mk ops o s true) o.dst v)):XR P N ops Q d (o :: l) s:=by
 have hx:∀ z,cond b x y=z→aMove (look (gMark ops o s.T true)) z=some (v,none,[]):=by
  rintro z rfl; simp [aMove,hv]
 cases d with
 | none =>
  show ExOps P N ops Q (o :: l) s
  have hy:yieldOf (look (gMark ops o s.T true)) o.op=none:=by simp [yieldOf,ho]
  simp only [ExOps,hw,splitB_true,hy]
  show ExOp P N o _ _ _
  unfold ExOp
  simp only [ho,hc]
  have e:∀ s:St,put' s o.dst (v,none,[])=St.put s o.dst v:=fun s=>by unfold put' St.put; cases o.dst <;> rfl
  cases b
  ·refine ⟨(fun h=>by cases h),fun _=>?_⟩; rw [hx y rfl]; exact ⟨hd,by rw [e]; exact h⟩
  ·refine ⟨fun _=>?_,fun h=>by cases h⟩; rw [hx x rfl]; exact ⟨hd,by rw [e]; exact h⟩
 | some acc =>
  show ExDraw P N ops Q (o :: l) acc s
  simp only [ExDraw,hw,splitB_true,ho,hc]
  cases b
  ·refine ⟨(fun h=>by cases h),fun _=>?_⟩; rw [hx y rfl]; exact ⟨hd,h⟩
  ·refine ⟨fun _=>?_,fun h=>by cases h⟩; rw [hx x rfl]; exact ⟨hd,h⟩
end
def step1 (P:Program) (N:Nat) (ops:Array Oper) (o:Oper) (s:St):Option (St × Foot) :=
 match wantA ops o (look s.T) with
 | some true =>
  if dstLt N o.dst then
   match o.op with
   | .pick c x y =>
    match evO (look (gMark ops o s.T true)) c with
    | some (.p (.val (.bool true)))=>match evO (look (gMark ops o s.T true)) x with | some v=>some (St.put (mk ops o s true) o.dst v,(none,[])) | none=>none
    | some (.p (.val (.bool false)))=>match evO (look (gMark ops o s.T true)) y with | some v=>some (St.put (mk ops o s true) o.dst v,(none,[])) | none=>none
    | _=>none
   | op=>if plain op then (match aop P o (look (gMark ops o s.T true)) (look s.H) with | some u=>some (nxt ops o s u,footR u) | none=>none) else none
  else none
 | some false=>if dstLt N o.dst then some (St.put (mk ops o s false) o.dst (.p (.val undef)),(none,[])) else none
 | none=>none
def runs (P:Program) (N:Nat) (ops:Array Oper):Nat→List Oper→St→List Foot→Option (St × List Foot)
 | 0,_,s,acc=>some (s,acc)
 | _+1,[],s,acc=>none
 | k+1,o :: l,s,acc=>match step1 P N ops o s with | some (s',f)=>runs P N ops k l s' (f :: acc) | none=>none
def runAll (P:Program) (N:Nat) (ops:Array Oper):List Oper→St→List Foot→Option (St × List Foot)
 | [],s,acc=>some (s,acc)
 | o :: l,s,acc=>match step1 P N ops o s with | some (s',f)=>runAll P N ops l s' (f :: acc) | none=>none
def regRun (P:Program) (N:Nat) (ops:Array Oper) (draw:Bool) (s:St):Option St :=
 match runAll P N ops ops.toList s [] with
 | some (s',acc)=>if draw then (if commutes ops acc.reverse&&noDefer ops then some s' else none) else some s'
 | none=>none
section
variable {P:Program} {N:Nat} {ops:Array Oper} {s:St} {Q:AX→St→Prop}
theorem xr_step {o:Oper} {l:List Oper} {d:Option (List Foot)} {s':St} {f:Foot} (h1:step1 P N ops o s=some (s',f)) (h:XR P N ops Q (more d f) l s'):XR P N ops Q d (o :: l) s:=by
 unfold step1 at h1
 split at h1
 ·rename_i hw
  split at h1
  ·rename_i hd
   split at h1
   ·rename_i c x y ho
    split at h1
    ·rename_i hc
     split at h1
     ·rename_i v hv
      simp only [sie,zPJ] at h1
      obtain ⟨rfl,rfl⟩:=h1
      exact xr_pick hw ho true hc hv hd h
     ·cases h1
    ·rename_i hc
     split at h1
     ·rename_i v hv
      simp only [sie,zPJ] at h1
      obtain ⟨rfl,rfl⟩:=h1
      exact xr_pick hw ho false hc hv hd h
     ·cases h1
    ·cases h1
   ·split at h1
    ·rename_i hp
     split at h1
     ·rename_i u hu
      simp only [sie,zPJ] at h1
      obtain ⟨rfl,rfl⟩:=h1
      exact xr_true hw hp hu hd h
     ·cases h1
    ·cases h1
  ·cases h1
 ·rename_i hw
  split at h1
  ·rename_i hd
   simp only [sie,zPJ] at h1
   obtain ⟨rfl,rfl⟩:=h1
   exact xr_false hw hd h
  ·cases h1
 ·cases h1
theorem xr_runAll:∀ {l:List Oper} {s:St} {acc acc':List Foot} {s':St} {b:Bool},runAll P N ops l s acc=some (s',acc')→XR P N ops Q (if b then some acc' else none) [] s'→XR P N ops Q (if b then some acc else none) l s
 | [],s,acc,acc',s',b,h1,h=>by
  simp only [runAll,sie,zPJ] at h1
  obtain ⟨rfl,rfl⟩:=h1
  exact h
 | o :: l,s,acc,acc',s',b,h1,h=>by
  simp only [runAll] at h1
  split at h1
  ·rename_i s1 f hs
   refine xr_step hs ?_
   have:=xr_runAll (b:=b) h1 h
   cases b
   ·exact this
   ·exact this
  ·cases h1
theorem xr_runs {d:Option (List Foot)}:∀ {k:Nat} {l:List Oper} {s:St} {acc acc':List Foot} {s':St},runs P N ops k l s acc=some (s',acc')→(d=none∨d=some acc)→XR P N ops Q (d.map fun _=>acc') (l.drop k) s'→XR P N ops Q d l s
 | 0,l,s,acc,acc',s',h1,hd,h=>by
  simp only [runs,sie,zPJ] at h1
  obtain ⟨rfl,rfl⟩:=h1
  rcases hd with rfl | rfl
  ·exact h
  ·exact h
 | k+1,[],s,acc,acc',s',h1,hd,h=>by cases h1
 | k+1,o :: l,s,acc,acc',s',h1,hd,h=>by
  simp only [runs] at h1
  split at h1
  ·rename_i s1 f hs
   refine xr_step hs ?_
   rcases hd with rfl | rfl
   ·exact xr_runs (d:=none) h1 (.inl rfl) h
   ·exact xr_runs (d:=some (f :: acc)) h1 (.inr rfl) h
  ·cases h1
theorem ex_regRun {ro:Option Nat} {id:Nat} {draw:Bool} {s':St} (hm:P.follows .mixedOrders=true) (h1:regRun P N ops draw s=some s') (h:Q .normal s'):Ex P N ro (.region id ops draw) s Q:=by
 unfold regRun at h1
 split at h1
 ·rename_i s1 acc hr
  cases draw with
  | false =>
   simp only [Bool.false_eq_true,if_false,sie] at h1
   subst h1
   exact ex_region (xr_runAll (b:=false) hr (show ExOps P N ops Q [] s1 from h))
  | true =>
   simp only [if_true] at h1
   split at h1
   ·rename_i hc
    simp only [bae] at hc
    simp only [sie] at h1
    subst h1
    exact ex_draw hm hc.2 (xr_runAll (b:=true) hr (show ExDraw P N ops Q [] acc s1 from ⟨hc.1,h⟩))
   ·cases h1
 ·cases h1
end
def dOf (dr:Bool) (acc:List Foot):Option (List Foot):=cond dr (some acc) none
structure SimR {R:Type} (o:Option R) (P:Program) (N:Nat) (ops:Array Oper) (Q:R→AX→St→Prop) (dr:Bool) (acc:List Foot) (l:List Oper) (s:St):Prop where
 intro ::
 h:∀ r,o=some r→XR P N ops (Q r) (dOf dr acc) l s
def runS (P:Program) (N:Nat) (ops:Array Oper) (k:Nat) (l:List Oper) (s:St):St:=match runs P N ops k l s [] with | some (s',_)=>s' | none=>s
def runF (P:Program) (N:Nat) (ops:Array Oper) (k:Nat) (l:List Oper) (s:St) (acc:List Foot):List Foot:=match runs P N ops k l s acc with | some (_,a)=>a | none=>[]
def runOk (P:Program) (N:Nat) (ops:Array Oper) (k:Nat) (l:List Oper) (s:St):Bool:=(runs P N ops k l s []).isSome
theorem runs_acc {P:Program} {N:Nat} {ops:Array Oper}:∀ (k:Nat) (l:List Oper) (s:St) (acc:List Foot),runs P N ops k l s acc=(runs P N ops k l s []).map fun p=>(p.1,p.2++acc)
 | 0,l,s,acc=>by simp [runs]
 | k+1,[],s,acc=>by simp [runs]
 | k+1,o :: l,s,acc=>by
  simp only [runs]
  cases step1 P N ops o s with
  | none=>rfl
  | some p =>
   obtain ⟨s',f⟩:=p
   simp only
   rw [runs_acc k l s' (f :: acc),runs_acc k l s' [f]]
   simp [Option.map_map,Function.comp_def]
theorem more_dOf (dr:Bool) (acc:List Foot) (f:Foot):more (dOf dr acc) f=dOf dr (f :: acc):=by cases dr <;> rfl
section
variable {R V:Type} {a a1 a2:Option R} {P:Program} {N:Nat} {ro:Option Nat} {ops:Array Oper} {o:Oper} {l:List Oper} {dr:Bool} {acc:List Foot} {s s':St} {Q:R→AX→St→Prop} {y:Code} {id:Nat} {draw:Bool}
theorem sR (hm:P.follows .mixedOrders=true) (K:Keep) (s':St) (h1:(regRun P N ops draw s).bind (shrQ K)=some s') (h:SimE a P N ro y s' Q):SimE a P N ro (.seq (.region id ops draw) y) s Q:=by
 obtain ⟨s1,h2,h3⟩:=zBS.1 h1
 refine ⟨fun r hr=>?_⟩
 exact ex_seq (ex_regRun hm h2 (ex_weak (weak_shr h3) (h.h r hr)))
theorem sim_tail (hm:P.follows .mixedOrders=true) {s1:St} (h1:regRun P N ops draw s=some s1) (h:SimQ a Q .normal s1):SimE a P N ro (.region id ops draw) s Q:=⟨fun r hr=>ex_regRun hm h1 (h.h r hr)⟩
def regSt (P:Program) (N:Nat) (ops:Array Oper) (draw:Bool) (s:St):St:=(regRun P N ops draw s).getD s
theorem sL (hm:P.follows .mixedOrders=true) (h1:(regRun P N ops draw s).isSome=true) (h:SimQ a Q .normal (regSt P N ops draw s)):SimE a P N ro (.region id ops draw) s Q:=by
 obtain ⟨s1,h2⟩:=zIE.1 h1
 refine sim_tail hm h2 ?_
 have e:regSt P N ops draw s=s1:=by simp [regSt,h2]
 rw [← e]; exact h
theorem sG (h:SimR a P N ops Q false [] ops.toList s):SimE a P N ro (.region id ops false) s Q:=⟨fun r hr=>ex_region (h.h r hr)⟩
theorem sDr (hm:P.follows .mixedOrders=true) (hd:noDefer ops=true) (h:SimR a P N ops Q true [] ops.toList s):SimE a P N ro (.region id ops true) s Q:=⟨fun r hr=>ex_draw hm hd (h.h r hr)⟩
theorem xR (k:Nat) (h1:runOk P N ops k l s=true) (h:SimR a P N ops Q dr (runF P N ops k l s acc) (l.drop k) (runS P N ops k l s)):SimR a P N ops Q dr acc l s:=by
 refine ⟨fun r hr=>?_⟩
 obtain ⟨⟨s1,f⟩,h2⟩:=zIE.1 h1
 have h3:=h.h r hr
 have e1:runS P N ops k l s=s1:=by simp [runS,h2]
 rw [e1] at h3
 have h4:=runs_acc (P:=P) (N:=N) (ops:=ops) k l s acc
 rw [h2] at h4
 have e2:runF P N ops k l s acc=f++acc:=by simp [runF,h4]
 rw [e2] at h3
 cases dr with
 | false=>exact xr_runs (d:=none) h2 (.inl rfl) h3
 | true=>exact xr_runs (d:=some acc) h4 (.inr rfl) h3
theorem xE (h:SimQ a Q .normal s):SimR a P N ops Q false acc [] s:=⟨fun r hr=>h.h r hr⟩
theorem xED (hc:commutes ops acc.reverse=true) (h:SimQ a Q .normal s):SimR a P N ops Q true acc [] s:=⟨fun r hr=>⟨hc,h.h r hr⟩⟩
theorem xS (b:Bool) (h1:b=true→SimR a1 P N ops Q dr acc l s) (h2:b=false→SimR a2 P N ops Q dr acc l s):SimR (cond b a1 a2) P N ops Q dr acc l s:=by
 cases b
 ·exact h2 rfl
 ·exact h1 rfl
def aopS (P:Program) (ops:Array Oper) (o:Oper) (s:St):Res:=(aop P o (look (gMark ops o s.T true)) (look s.H)).getD (.p (.val undef),none,[])
theorem xO (hw:wantA ops o (look s.T)=some true) (hp:(plain o.op&&(aop P o (look (gMark ops o s.T true)) (look s.H)).isSome&&dstLt N o.dst)=true)
  (h:SimR a P N ops Q dr (footR (aopS P ops o s) :: acc) l (nxt ops o s (aopS P ops o s))):SimR a P N ops Q dr acc (o :: l) s:=by
 simp only [bae] at hp
 obtain ⟨u,hu⟩:=zIE.1 hp.1.2
 have e:aopS P ops o s=u:=by simp [aopS,hu]
 rw [e] at h
 exact ⟨fun r hr=>xr_true hw hp.1.1 hu hp.2 (more_dOf dr acc _ ▸ h.h r hr)⟩
theorem xN (hw:wantA ops o (look s.T)=some false) (hd:dstLt N o.dst=true) (h:SimR a P N ops Q dr ((none,[]) :: acc) l (St.put (mk ops o s false) o.dst (.p (.val undef)))):SimR a P N ops Q dr acc (o :: l) s :=
 ⟨fun r hr=>xr_false hw hd (more_dOf dr acc _ ▸ h.h r hr)⟩
theorem want_tt {b:Bool} (h1:wantA ops o (look s.T)=some (b == true)) (h2:b=true):wantA ops o (look s.T)=some true:=by rw [h1,h2]; rfl
theorem want_ff {b:Bool} (h1:wantA ops o (look s.T)=some (b == false)) (h2:b=false):wantA ops o (look s.T)=some true:=by rw [h1,h2]; rfl
theorem want_tf {b:Bool} (h1:wantA ops o (look s.T)=some (b == true)) (h2:b=false):wantA ops o (look s.T)=some false:=by rw [h1,h2]; rfl
theorem want_ft {b:Bool} (h1:wantA ops o (look s.T)=some (b == false)) (h2:b=true):wantA ops o (look s.T)=some false:=by rw [h1,h2]; rfl
theorem xF {c:Bool} {u:Res} (hw:wantA ops o (look s.T)=some true) (hp:(plain o.op&&dstLt N o.dst)=true) (hu:c=true→aop P o (look (gMark ops o s.T true)) (look s.H)=some u)
  (h:SimR a P N ops Q dr (footR u :: acc) l (nxt ops o s u)):SimR (cond c a none) P N ops Q dr acc (o :: l) s:=by
 simp only [bae] at hp
 refine ⟨fun r hr=>?_⟩
 cases c with
 | false=>cases hr
 | true=>exact xr_true hw hp.1 (hu rfl) hp.2 (more_dOf dr acc _ ▸ h.h r hr)
theorem xG {m:Option V} {k:V→Option R} {u:V→Res} (hw:wantA ops o (look s.T)=some true) (hp:(plain o.op&&dstLt N o.dst)=true) (hu:∀ v,m=some v→aop P o (look (gMark ops o s.T true)) (look s.H)=some (u v))
  (h:∀ v,SimR (k v) P N ops Q dr (footR (u v) :: acc) l (nxt ops o s (u v))):SimR (m.bind k) P N ops Q dr acc (o :: l) s:=by
 simp only [bae] at hp
 refine ⟨fun r hr=>?_⟩
 obtain ⟨v,hv,hk⟩:=zBS.1 hr
 exact xr_true hw hp.1 (hu v hv) hp.2 (more_dOf dr acc _ ▸ (h v).h r hk)
theorem xs_u {u:Res} (hw:wantA ops o (look s.T)=some true) (hp:(plain o.op&&dstLt N o.dst)=true) (hu:aop P o (look (gMark ops o s.T true)) (look s.H)=some u)
  (h:SimR a P N ops Q dr (footR u :: acc) l (nxt ops o s u)):SimR a P N ops Q dr acc (o :: l) s:=by
 simp only [bae] at hp
 exact ⟨fun r hr=>xr_true hw hp.1 hu hp.2 (more_dOf dr acc _ ▸ h.h r hr)⟩
end
structure SimK {R:Type} (a:Option R) (K:R→St→Prop) (s:St):Prop where
 intro ::
 h:∀ r,a=some r→K r s
structure SimC {R:Type} (a:Option R) (P:Program) (N:Nat) (f:FuncId) (args:List AV) (dst:Option Tmp) (s:St) (K:R→St→Prop) (Q:R→AX→St→Prop):Prop where
 intro ::
 h:∀ r,a=some r→CallEx P N f args dst s (K r) (Q r)
end Go.Abs
