/-
  A part of the proof of a statement of the seat YtkhhdppjbakngaaGreatDoor.
-/
import Derived.Test.YtkhhdppjbakngaaGreatDoorApa05
set_option linter.unusedVariables false
namespace Go.Proofs
open Go Go.Abs Go.ChangeShapes Go.WideShapes Go.ChangeAt Go.RowKit Go.Proofs.YtkhhdppjbakngaaGreatDoor
set_option maxRecDepth 100000
theorem Qar{W:World}(h:laidMetH Tryz.prog Rows.topTariffsApartRow.laid W):xx W:=by
 have h2:=MakeChecks.laidMetH_plain Tryz.prog Rows.topTariffsApartRow.laid W Qc;have h3:laidMet Tryz.prog Rows.topTariffsApartRow.laid W:=h2▸h;obtain⟨ps,⟨_,_,_,_,_,_,_,_,_,_,⟨_,_,_,_,_,_,_,_,_,_,⟨g,t,cs,U,p,q,hg,ht,hv,Y,⟨g2,t2,aa,J,p2,q2,hg2,O,G,hd2,_,_⟩,_⟩,_⟩,_⟩,_,_⟩:=h3;obtain rfl:=Option.some.inj ((show Tryz.prog.globalNamed "internal/strconv.uint64pow10"=some 1 by kernel_rfl).symm.trans hg);obtain rfl:=Option.some.inj ((show Tryz.prog.globalNamed "chargepark/printer.kinds"=some 0 by kernel_rfl).symm.trans hg2);refine Qeh ?_ ?_
 ·have e:(Rows.laid_chargepark_printer_kinds:DataW Unit)=.agg (kindsTab.map fun z=>.lit (.string z)):=by kernel_rfl
  rw[e] at hd2;obtain rfl:=Option.some.inj ((show(Tryz.prog.globals[0]?).map (·.type)=some 161 by kernel_rfl).symm.trans O);have Z:=Lib.cells_of_stab Tryz.underlying161 Tryz.underlying9 Qc Qc hd2;unfold World.var? at G;rw[show Tryz.prog.globalNamed "chargepark/printer.kinds"=some 0 by kernel_rfl] at G;simp only[Zj] at G;split at G
  ·rename_i c ty fz hc;simp only[Q0] at G;subst G;rw[←Z];exact⟨ty,fz,hc⟩
  ·cases G
 ·unfold Lib.TabIs;have e:(Rows.laid_internal_strconv_uint64pow10:DataW Unit)=Lib.tabData .u64 Lib.pow10Tab:=by kernel_rfl
  rw[e] at Y;obtain rfl:=Option.some.inj ((show(Tryz.prog.globals[1]?).map (·.type)=some 308 by kernel_rfl).symm.trans ht);rw[hv,←Lib.cells_of_tab Tryz.underlying308 Tryz.underlying302 Qc Qc Y]
set_option maxRecDepth 100000 in
theorem Rh(h:VF)(os:Os)(started:os.Started)(H:Type)(enc:TypeId×Value→H) :
  ReturnsInHanded {} Tryz.checked os 4 .any (fun w args=>(Rows.topTariffsApartSpec.pre enc Tryz.prog Tryz.f4 Rows.topTariffsApartRow.domain false w args∧laidMetH Tryz.prog Rows.topTariffsApartRow.laid w)∧sizedMet enc Tryz.prog Tryz.f4 (OpenSpec.ofChange Rows.topTariffsApartSpec) false w args) (Rows.topTariffsApartSpec.post enc Tryz.prog Tryz.f4 false true false false):=by
 refine returnsInHanded_of_change_and (C:=Tryz.checked) (X:=fun w _=>laidMetH Tryz.prog Rows.topTariffsApartRow.laid w) (fun _ _ _ O h=>h.of_heap O) Qc started Qc Tryz.func4
  (ChangeSpec.witness_shaped (enc:=enc) (C:=Tryz.checked) (os:=os) (X:=fun w _=>laidMetH Tryz.prog Rows.topTariffsApartRow.laid w) false (World.laidAll Tryz.prog os Rows.topTariffsApartRow.laid) #[.string ⟨#[]⟩] 8 (World.laidAll_os _ _ _)
   (World.shaped_of_ZipB Qc Qc) Qc Qc Qc
   (by rw[MakeChecks.laidMetH_plain _ _ _ Qc];exact laidMet_laidAll _ Qc Qc)) ?_
 intro W base args ds gs before G U _ _ Y _
 exact zW (P:=Tryz.prog) (f:=4) (fn:=Tryz.f4) (s:=Rows.topTariffsApartSpec) (tb:=4) (d:=9) Qc Qc Qc Qc Tryz.underlying4 rfl
  (fun ds J=>by
   have J:ds.length=1:=by rw[J,show Tryz.f4.params.size=1 from by kernel_rfl]
   match ds,J with
  |[d0],_=>rfl)
  (Dw h) G U (Qar Y)
theorem Tn(h:VF):Rows.TopTariffsApartSaid :=
 OpenClaim.holds_of_wide 4 Tryz.f4 rfl rfl rfl rfl rfl rfl rfl ⟨rfl,rfl,rfl,rfl,rfl⟩ rfl rfl rfl rfl rfl Qc Tryz.func4 Qc
  (of_decide_eq_true Qc) (by unfold Func.isWrapper;first|(rw[if_pos (by decide +kernel)];kernel_rfl)|(rw[if_neg (by decide +kernel)];exact⟨rfl,rfl⟩))
  (fun os started H enc _=>Rh h os started H enc)
theorem Tp(h:VF):Rows.TopTariffsApartCardSaid :=
 Claim7.holds_tied_plain_at .later [] [.data,.data,.data,.data] true (true,"f2aa9020095c129a4e33b028fe15800a6a1530f7b693bd8eaf770e8f26b6203c") true
  (Tn h) (fun _ h=>by cases h) Qc (fun _ h=>by cases h) topTariffsApart_row_tie rfl ⟨rfl,rfl⟩ Qc rfl
  (fun f fn hf J=>by
   obtain rfl:f=4:=Option.some.inj ((show Tryz.prog.funcNamed Rows.topTariffsApartRow.func=some 4 by kernel_rfl).symm.trans hf) |>.symm;obtain rfl:fn=Tryz.f4:=(Option.some.inj (Tryz.func4.symm.trans J)).symm
   exact⟨by kernel_rfl,fun j t G=>by
    rw[Tryz.params4] at G
    have O:t=9:=by
     rcases j with _|j
     ·simpa using G.symm
     ·simp at G
    subst O
    ·exact(show Tryz.prog.wantsStandIn 9=false by kernel_rfl)⟩)
  Qc
end Go.Proofs
namespace Go.Proofs
open Go Go.Abs
set_option maxRecDepth 100000
variable {R:Type}{T a:List Zq}{b:Bool}{c:UInt8}{d:Nat}{dd ds:List Za}{e:Nat}{f:Bool}{g:Yi}{i k:Nat}{l l':List (List PV)}{left len:Int}{α:Type}{m:Option α}{n:Nat}{r:List Zq}{s:List UInt8}{sp:List K6}{v:Int}{x:GN}{xs:List (List PV)}{y:GN}{β:Type}
def Does{α:Type}(m:Option α)(Q:α→Prop):Prop:=∃r,m=some r∧Q r
section
variable {α β V R E:Type}
theorem Qm{x:α}{Q:α→Prop}(h:Q x):Does (some x) Q:=⟨x,rfl,h⟩
theorem BN{m:Option α}{x:α}{Q:α→Prop}(h:m=some x)(G:Q x):Does m Q:=⟨x,h,G⟩
theorem VZ{m:Option α}{Q Q':α→Prop}(h:Does m Q)(G:∀x,Q x→Q' x):Does m Q':=by obtain⟨x,e,h⟩:=h;exact⟨x,e,G x h⟩
theorem Z9{m:Option α}{k:α→Option β}{Q:α→Prop}{Q':β→Prop}(h:Does m Q)(G:∀x,Q x→Does (k x) Q'):Does (m.bind k) Q':=by
 obtain⟨x,rfl,h⟩:=h;exact G x h
theorem Yk{x y:Option α}{Q:α→Prop}(G:b=true→Does x Q)(J:b=false→Does y Q):Does (cond b x y) Q:=by
 cases b
 ·exact J rfl
 ·exact G rfl
theorem Yl{B:(V→Option R)→V→Option R}{Q:V→R→Prop}(G:V→Nat)(Inv:V→Prop)(J:∀rec v,Inv v→(∀v',Inv v'→G v'<G v→Does (rec v') (Q v'))→Does (B rec v) (Q v)):∀{n:Nat} {v:V},Inv v→G v<n→Does (QB B n v) (Q v)
|0,_,_,h=>absurd h (Nat.not_lt_zero _)
|n+1,v,O,h=>J _ v O (fun v' U W=>Yl G Inv J U zo)
end
theorem ZW{l:List α}:Q3 l (i:Int)=l[i]?:=by
 unfold Q3;rw[if_neg zo];simp
theorem ZP{x:Int}(J:-9223372036854775808≤x)(G:x≤9223372036854775807):wi x=x:=by
 simp[wi,IntKind.wrap,IntKind.signed,IntKind.bits];omega
theorem kX(n:Nat)(x a b:Int):WM n x a b=some (decide (a≤x∧x≤b)):=by
 unfold WM leI;by_cases h:a≤x<;>simp[h]
def Qhq(a r:JW):Bool:=if r.Serial=a.Serial then decide (a.Minute≤r.Minute∧a.Register≤r.Register) else decide (r.Minute=a.Minute)
def Qhr(s x k:Int):Int:=wu ((Qa7 .u64 s (vv .u64 (QdR .u64 (wu x) k) 255))*1099511628211)
def Qhs(s x:Int):Int:=[56,48,40,32,24,16,8,0].foldl (fun s k=>Qhr s x k) s
def Qfb(s:Int)(r:JW):Int:=[r.Serial,r.Number,r.Minute,r.Register].foldl Qhs s
def dX(G:Int)(l:List JW)(i:Nat):Int:=if i=0 then G else((l[i-1]?).map (·.Link)).getD 0
def Qas(G:Int)(l:List JW)(i:Nat):Prop:=∀r∈l[i]?,(1≤r.Serial∧r.Serial≤1000000)∧r.Number=i+1∧(0≤r.Minute∧r.Minute≤52560000)∧(0≤r.Register∧r.Register≤1000000000) ∧ (i≠0→∀a∈l[i-1]?,Qhq a r=true)∧r.Link=Qfb (dX G l i) r
def chainOk(G:Int)(l:List JW):Prop:=(1≤l.length∧l.length≤64)∧∀i,i<l.length→Qas G l i
theorem Zg(x y:Int):Qj x y=decide (x=y):=by unfold Qj;by_cases h:x=y<;>simp[h]
theorem QF{x y:α}:cond b (some x) (some y)=some (cond b x y):=by cases b<;>rfl
def Cc(w:List UInt8):Bool:=(qN 0 w).getD false
def kY(a:Kn):Bool:=(UB 0 a).getD false
def kZ(x:UInt8):Bool:=decide ((97≤Z5 x∧Z5 x≤122)∨(48≤Z5 x∧Z5 x≤57)∨Z5 x=95)
def BO(s:List UInt8):Bool:=decide (1≤s.length∧s.length≤12)&&decide (∀x∈s.head?,97≤Z5 x∧Z5 x≤122)&&!Cc s&&s.all kZ
theorem NT{α R:Type}{l:List α}{B:(Int→Option R)→Int→Option R}{F:List α→R}(O:l.length≤4611686018427387904)(J:∀rec,B rec (l.length:Int)=some (F []))(G:∀(rec:Int→Option R) (i:Nat) (x:α) (r:List α),l.drop i=x::r→l[i]?=some x→i<l.length→wi ((i:Int)+1)=((i+1:Nat):Int)→(rec ((i+1:Nat):Int)=some (F r))→B rec (i:Int)=some (F (x::r))) :
  ∀{n:Nat} (i:Nat),i≤l.length→l.length-i<n→QB B n (i:Int)=some (F (l.drop i))
|0,_,_,h=>absurd h (Nat.not_lt_zero _)
|n+1,i,hi,h=>by
  unfold QB;by_cases W:i=l.length
  ·subst W;rw[J];simp
  ·have hlt:i<l.length:=by omega
   have U:l.drop i=l[i]::l.drop (i+1):=by rw[List.drop_eq_getElem_cons hlt]
   rw[U];exact G _ i _ _ U (by simp[hlt]) hlt (by rw[ZP]<;>omega) (NT O J G (i+1) zo zo)
theorem Qat(c:Int):(bif decide (97≤c) then bif decide (c≤122) then false else bif decide (48≤c) then bif decide (c≤57) then false else !(c==95) else !(c==95)
  else bif decide (48≤c) then bif decide (c≤57) then false else !(c==95) else !(c==95))=!decide ((97≤c∧c≤122)∨(48≤c∧c≤57)∨c=95):=by
 by_cases J:97≤c<;>by_cases W:c≤122<;>by_cases O:48≤c<;>by_cases U:c≤57<;>by_cases G:c=95<;>simp[J,W,O,U,G]<;>omega
def jQ:Int→List Kn→Bool|k,[]=>decide (k≤1)|k,a::r=>kY a&&jQ (if a.Kind=6 then k+1 else k) r
def ks:List Nat:=[56,48,40,32,24,16,8,0]
def keyL:List (List UInt8):=((CX 0).getD [])++(((UL 0).getD [])++(((JE 0).getD [])++((UM 0).getD [])))
theorem cse(b c:Bool):(bif b then b else c)=(b||c):=by cases b<;>rfl
theorem cst(b c:Bool):(bif b then true else c)=(b||c):=by cases b<;>rfl
def keyA:List (List UInt8):=[[102,101,101,100,101,114],[99,97,98,108,101],[111,119,110,101,114],[99,111,110,116,114,97,99,116],[99,104,97,114,103,101,114],[98,97,121],[116,97,114,105,102,102],[108,105,109,105,116],[110,101,117,116,114,97,108],[102,117,115,101],[116,104,101,114,109,97,108],[102,114,111,109],[97,116],[112,104,97,115,101,115],[97,109,112,115],[102,97,108,108,98,97,99,107],[99,97,114,100],[114,97,110,107],[115,116,97,114,116],[101,110,101,114,103,121],[116,105,109,101],[105,100,108,101],[99,97,112],[116,97,120],[111,110],[119,111,114,107],[115,97,116,117,114,100,97,121],[115,117,110,100,97,121],[98,101,116,119,101,101,110],[112,101,114],[102,114,101,101]]
theorem dY(s:List UInt8):Cc s=keyA.contains s:=by
 unfold Cc qN keyA;simp only[QF,Zj,Option.getD_some,cse,cst,Qs,List.contains_cons,List.contains_nil,Bool.or_assoc,Bool.or_false]
theorem dZ(s:List UInt8):Cc s=keyL.contains s:=by
 rw[dY,Bool.eq_iff_iff,List.contains_iff_mem,List.contains_iff_mem];have G:∀x∈keyA,x∈keyL:=by decide
 have J:∀x∈keyL,x∈keyA:=by decide
 exact⟨G s,J s⟩
structure Art(a:Kn):Prop where
 days:1≤a.Days∧a.Days≤7
 from_:0≤a.From∧a.From≤1439
 to_:a.From<a.To∧a.To≤1440
 price:0≤a.Price∧a.Price≤1000000
 kind:1≤a.Kind∧a.Kind≤6
 unit:a.Kind=3∨a.Kind=4→1≤a.Unit∧a.Unit≤1440∧0≤a.Free∧a.Free≤1440
 rate:a.Kind=6→a.Price≤10000
theorem d9{a:Kn}(h:kY a=true):Art a:=by
 unfold kY UB at h;simp only[kX,QF,Zj,Option.getD_some,Zg,QV,leI] at h;obtain⟨k,d,f,t,p,u,v⟩:=a;simp only[Bool.cond_eq_ite] at h;by_cases k1:k=1
 ·subst k1;simp at h;constructor<;>simp<;>omega
 by_cases W:k=2
 ·subst W;simp at h;constructor<;>simp<;>omega
 by_cases U:k=3
 ·subst U;simp at h;constructor<;>simp<;>omega
 by_cases J:k=4
 ·subst J;simp at h;constructor<;>simp<;>omega
 by_cases G:k=5
 ·subst G;simp at h;constructor<;>simp<;>omega
 by_cases O:k=6
 ·subst O;simp at h;constructor<;>simp<;>omega
 exfalso;simp[U,J,G,O] at h;omega
theorem jR(n:Nat)(s:List UInt8)(hn:1000≤n):XV n s=some (decide (1≤s.length∧s.length≤12)&&decide (∀x∈s.head?,97≤Z5 x∧Z5 x≤122)&&s.all kZ):=by
 unfold XV;simp only[Qb,QV];cases s with
|nil=>simp
|cons x r =>
  rw[Ki (show ¬(((x::r).length:Nat):Int)<1 by simp only[JF];omega),Kk];by_cases hl:(x::r).length≤12;rotate_left
  ·rw[KJ (show(12:Int)<(((x::r).length:Nat):Int) by omega),Ki (show ¬(1≤(x::r).length∧(x::r).length≤12) by omega)];rfl
  rw[Ki (show ¬(12:Int)<(((x::r).length:Nat):Int) by omega),Kk,KJ (show 1≤(x::r).length∧(x::r).length≤12 by simp only[JF] at hl ⊢;omega)];rw[show Q3 (x::r) 0=some x from rfl]
  have J:QB (fun G O=>YP (x::r) G O) n 1=some (r.all kZ):=by
   have:=NT (l:=x::r) (B:=fun G O=>YP (x::r) G O) (F:=fun r=>r.all kZ) zo ?_ ?_ (n:=n) 1 zq zo
   ·simpa using this
   ·intro rec;simp[YP,QV,Qb]
   ·intro rec i y q hd Z hi hw hr;unfold YP;simp only[Qb,ZW,Z,Zj,hw,hr,QV,leI,Qj,QF];rw[KJ zo,Kj,List.all_cons];rw[Qat,kZ];cases decide ((97≤Z5 y∧Z5 y≤122)∨(48≤Z5 y∧Z5 y≤57)∨Z5 y=95)<;>simp
  rw[J];simp only[Zj,QF,List.head?_cons,Option.mem_def,Q0,forall_eq',Bool.true_and,List.all_cons];by_cases W:Z5 x<97
  ·rw[KJ W,Ki (show ¬(97≤Z5 x∧Z5 x≤122) by omega)];rfl
  ·rw[Ki W,Kk];by_cases U:122<Z5 x
   ·rw[KJ U,Ki (show ¬(97≤Z5 x∧Z5 x≤122) by omega)];rfl
   ·have Y:97≤Z5 x∧Z5 x≤122:=by omega
    have h4:kZ x=true:=by unfold kZ;rw[KJ];exact Or.inl Y
    rw[Ki U,KJ Y,h4];rfl
theorem cnz(b:Bool)(k r:Int)(G:k≠0):(!Qj (bif b then k else r) 0)=(b||!Qj r 0):=by
 cases b
 ·rfl
 ·simp[Qj,G]
theorem uR(n:Nat)(s:List UInt8):Gx n s=some (Cc s):=by
 unfold Gx VJ YO KQ Vd;rw[dZ];simp only[QF,Zj,cse,cst,keyL,CX,UL,JE,UM,Option.getD_some,List.cons_append,List.nil_append,List.contains_cons,List.contains_nil,Bool.or_false,Qs];rw[cnz _ 1 _ (by decide),cnz _ 2 _ (by decide),cnz _ 3 _ (by decide),cnz _ 4 _ (by decide),cnz _ 5 _ (by decide),cnz _ 6 _ (by decide),cnz _ 7 _ (by decide),show(!Qj 0 0)=false from rfl];simp only[Bool.or_assoc,Bool.or_false]
theorem CY(n:Nat)(s:List UInt8)(G:1000≤n):Jz n s=some (BO s):=by
 unfold Jz BO;rw[jR n s G,Zj,uR,Zj,QF];generalize decide (1≤s.length∧s.length≤12)=a;generalize decide (∀x∈s.head?,97≤Z5 x∧Z5 x≤122)=b;generalize s.all kZ=c;generalize Cc s=d;cases a<;>cases b<;>cases c<;>cases d<;>rfl
theorem jS(k:Int)(s:List UInt8)(m t:Int)(l:List (List PV)):GN.of (GN.cs ⟨k,s,m,t,l⟩)=some ⟨k,s,m,t,l⟩:=by
 unfold GN.cs GN.of;simp only[zP,Rt,if_true]
theorem cu(n:Nat)(x a b:Int):Ve n x a b=some (decide (a≤x∧x≤b)):=by
 unfold Ve leI;by_cases h:a≤x<;>simp[h]
theorem mX(n:Nat)(a:Kn):Y8 n a=some (kY a):=by
 have bad:¬Art a→some false=some (kY a):=by
  intro h;cases hb:kY a
  ·rfl
  ·exact absurd (d9 hb) h
 unfold Y8 Xy Xl;simp only[cu,Zj];by_cases G:1≤a.Kind∧a.Kind≤6;rotate_left
 ·rw[Ki G];exact bad (fun h=>G h.kind)
 rw[KJ G];by_cases J:0≤a.From∧a.From≤1439;rotate_left
 ·rw[Ki J];exact bad (fun h=>J h.from_)
 rw[KJ J,ZP (x:=a.From+1) zo zo];by_cases O:a.From+1≤a.To∧a.To≤1440;rotate_left
 ·rw[Ki O];exact bad (fun h=>by have:=h.to_;omega)
 rw[KJ O];by_cases c8:1≤a.Days∧a.Days≤7;rotate_left
 ·rw[Ki c8];exact bad (fun h=>c8 h.days)
 rw[KJ c8];unfold kY UB;simp only[kX,QF,Zj,Option.getD_some,Zg,Bool.not_true,Kk];rw[Q0,Bool.eq_iff_iff];obtain⟨k,d,f,t,p,u,v⟩:=a;simp only at G J O c8;simp only[Bool.cond_eq_ite];have U:k=1∨k=2∨k=3∨k=4∨k=5∨k=6:=by omega
 rcases U with rfl|rfl|rfl|rfl|rfl|rfl<;>simp[leI,QV]<;>omega
theorem XC{V:Type}(B:(V→Option R)→V→Option R)(n:Nat)(v:V):QB B (n+1) v=B (QB B n) v:=rfl
def Kb:Nat→GN→Prop|0,_=>False|d+1,x=>(-9223372036854775808≤x.Kind∧x.Kind≤9223372036854775807)∧(-9223372036854775808≤x.N∧x.N≤9223372036854775807)∧(-9223372036854775808≤x.At∧x.At≤9223372036854775807)∧x.Name.length≤maxLen∧x.Kids.length≤maxLen∧∀k∈x.Kids,∃y,GN.of k=some y∧Kb d y
def Yx(d:Nat)(l:List (List PV)):Prop:=∀k∈l,∃y,GN.of k=some y∧Kb d y
theorem ZC(h:Kb d x):∃e,d=e+1∧x.Kids.length≤9223372036854775807∧x.Name.length≤9223372036854775807∧Yx e x.Kids:=by
 cases d with
|zero=>exact h.elim
|succ e=>exact⟨e,rfl,by have:=h.2.2.2.2.1;simpa [maxLen] using this,by have:=h.2.2.2.1;simpa [maxLen] using this,h.2.2.2.2.2⟩
theorem SF(h:Yx d l)(hi:i<l.length):∃y,Option.bind (Q3 l (i:Int)) GN.of=some y∧Kb d y∧(l.drop i=l[i]'hi::l.drop (i+1)∧GN.of (l[i]'hi)=some y):=by
 obtain⟨y,e,t⟩:=h (l[i]'hi) (List.getElem_mem hi);refine⟨y,?_,t,List.drop_eq_getElem_cons hi,e⟩;rw[ZW,List.getElem?_eq_getElem hi];exact e
def Tot{α:Type}(m:Option α):Prop:=Does m fun _=>True
theorem Tq(x:α):Tot (some x):=⟨x,rfl,trivial⟩
theorem SG{x y:Option α}(J:b=true→Tot x)(G:b=false→Tot y):Tot (cond b x y):=Yk J G
theorem yc{k:α→Option β}(h:Tot m)(G:∀x,Tot (k x)):Tot (m.bind k):=Z9 h fun x _=>G x
theorem uS{R:Type}{B:(Int→Option R)→Int→Option R}{L:Nat}(J:L≤9223372036854775807)(G:∀(rec:Int→Option R) (i:Nat),i≤L→(i<L→wi ((i:Int)+1)=((i+1:Nat):Int)∧Tot (rec ((i+1:Nat):Int)))→Tot (B rec (i:Int))) :
  ∀{n:Nat} (i:Nat),i≤L→L-i<n→Tot (QB B n (i:Int))
|0,_,_,h=>absurd h (Nat.not_lt_zero _)
|n+1,i,hi,h=>G _ i hi fun O=>⟨by rw[ZP zo zo];omega,uS J G (i+1) zo zo⟩
theorem mY:∀(m n d:Nat) (x:GN) (G:Int),Kb d x→0≤G→G≤m→m≤1000000→m+3≤n→Does (Zk n x G) (fun r=>1≤r∧r≤G+1):=by
 intro m
 induction m with
|zero =>
  intro n d x G Z h0 h1 h2 h3;obtain⟨n,rfl⟩:∃q,n=q+1+1:=⟨n-2,by omega⟩;obtain rfl:G=0:=by omega
  refine⟨1,?_,by omega,by omega⟩;unfold Zk ZK;rw[XC];unfold Zu;simp only[show leI 1 0=false from rfl,QF,Zj];cases QV 0 (Qb (List.map Zn x.Kids))<;>rfl
|succ m ih =>
  intro n d x G Z h0 h1 h2 h3;obtain⟨n,rfl⟩:∃q,n=q+1:=⟨n-1,by omega⟩;obtain⟨e,rfl,hl,_,hk⟩:=ZC Z;unfold Zk ZK;refine Yl (Q:=fun _ r=>1≤r∧r≤G+1) (fun v=>(G+1-v.1).toNat) (fun v=>1≤v.1∧v.1≤G+1∧∃i:Nat,v.2=(i:Int)∧i≤x.Kids.length) ?_ ⟨by omega,by omega,0,rfl,by omega⟩ (by simp only;omega);rintro rec ⟨J,Eo⟩ ⟨g1,g2,i,hi,aa⟩ O;simp only at g1 g2 hi O ⊢;subst hi;unfold Zu;simp only[Qb,WB,QV,leI];by_cases Y:i<x.Kids.length;rotate_left
  ·rw[Ki zo];exact Qm ⟨g1,g2⟩
  rw[KJ zo];by_cases W:J≤G;rotate_left
  ·rw[Ki W];exact Qm ⟨g1,g2⟩
  rw[KJ W];obtain⟨y,hy,U,_⟩:=SF hk Y;simp only[Kj,Zj];rw[hy,Zj,ZP (x:=G-J) zo zo];refine Z9 (ih n e y (G-J) U zo zo zo zo) ?_;rintro r ⟨r1,r2⟩;rw[ZP (x:=J+r) zo zo,ZP (x:=(i:Int)+1) zo zo];exact O (J+r,(i:Int)+1) ⟨by simp only;omega,by simp only;omega,i+1,by simp,Y⟩ (by simp only;omega)
theorem mZ:∀(m n d:Nat) (x:GN) (depth:Int),Kb d x→0≤depth→depth≤m→m≤1000→m+9223372036854775810≤n→Tot (VP n x depth):=by
 intro m
 induction m with
|zero =>
  intro n d x depth O h0 h1 U h3;obtain⟨n,rfl⟩:∃q,n=q+1:=⟨n-1,by omega⟩;obtain rfl:depth=0:=by omega
  exact⟨false,rfl,trivial⟩
|succ m ih =>
  intro n d x depth O h0 h1 U h3;obtain⟨n,rfl⟩:∃q,n=q+1:=⟨n-1,by omega⟩;by_cases W:depth=0
  ·subst W;exact⟨false,rfl,trivial⟩
  obtain⟨e,rfl,hl,_,hk⟩:=ZC O;unfold VP WL;refine yc (SG (fun _=>Tq _) (fun _=>Tq _)) fun j1=>SG (fun _=>Tq _) fun _=>?_
  refine uS (L:=x.Kids.length) hl (fun rec i hi hr=>?_) 0 zo zo;unfold JC;simp only[Qb,WB,QV];by_cases J:i<x.Kids.length;rotate_left
  ·rw[Ki zo];exact Tq _
  rw[KJ zo,Kj];obtain⟨y,Z,G,_⟩:=SF hk J;obtain⟨Y,w2⟩:=hr J;rw[Z,Zj,ZP (x:=depth-1) zo zo,Y];exact yc (ih n e y (depth-1) G zo zo zo zo) fun r=>SG (fun _=>Tq _) fun _=>w2
theorem drop1(l:List (List PV)):List.drop (Int.toNat 1) (List.take (Int.toNat (Qb (List.map Zn l))) l)=l.drop 1:=by
 simp only[Qb,WB,show Int.toNat 1=1 from rfl,Int.toNat_natCast,List.take_length]
theorem jT(h:l≠[]):VY 1 (Qb (List.map Zn l)) (Qb (List.map Zn l)) (List.length l)=true:=by
 have:0<l.length:=List.length_pos_iff.2 h;unfold VY Qb;rw[WB];exact KJ zo
theorem Ri(h:Yx e l):Yx e (l.drop 1):=fun k G=>h k (List.mem_of_mem_drop G)
theorem Qfe(h:Yx e l)(h0:l≠[]):∃y,Option.bind (Q3 l 0) GN.of=some y:=by
 obtain⟨y,G,_⟩:=SF (i:=0) h (List.length_pos_iff.2 h0);exact⟨y,G⟩
theorem Qdr(l:List (List PV)):Qj (Qb (List.map Zn l)) 0=decide (l=[]):=by
 rw[Zg,Qb,WB];cases l
 ·rfl
 ·rw[Ki (by simp only[JF];omega),Ki (by intro h;cases h)]
theorem Gz{r:H9}(h:Yx e r.values):Does (Zv n r) (fun q=>Yx e q.2.values∧q.2.values.length≤r.values.length):=by
 unfold Zv;rw[Qdr];by_cases h0:r.values=[]
 ·rw[KJ h0];exact Qm ⟨h,Kz _⟩
 rw[Ki h0];obtain⟨y,G⟩:=Qfe h h0;rw[G,jT h0,drop1];simp only[Zj,Kj,Kk];exact Yk (fun _=>Qm ⟨h,Kz _⟩) fun _=>Qm ⟨Ri h,by simp⟩
theorem yf{r:H9}(h:Yx e r.values):Does (Zw n r) (fun s=>s≠[]→r.values≠[]):=by
 unfold Zw;rw[Qdr];by_cases h0:r.values=[]
 ·rw[KJ h0];exact Qm fun h=>absurd rfl h
 rw[Ki h0];obtain⟨y,G⟩:=Qfe h h0;rw[G];simp only[Zj,Kk];exact Yk (fun _=>Qm fun _=>h0) fun _=>Qm fun _=>h0
theorem Qau(n:Nat)(s:List UInt8):Does (JB n s) (fun v=>v≠0→s≠[]):=by
 unfold JB;simp only[QF];refine Qm fun h h0=>h ?_
 subst h0;rfl
theorem yg{r:H9}(h:Yx e r.values){k:Int→Option β}{Q:β→Prop}(O:∀v,(v≠0→r.values≠[])→Does (k v) Q):Does ((Zw n r).bind fun r2=>(JB n r2).bind fun G=>k G) Q :=
 Z9 (yf h) fun s hs=>Z9 (Qau n s) fun v J=>O v fun h=>hs (J h)
theorem cB{r:H9}(h:Yx e r.values)(hn:r.values.length<n):Does (Yd n r) (fun q=>Yx e q.2.values∧q.2.values.length≤r.values.length):=by
 unfold Yd;refine Z9 (Q:=fun q=>Yx e q.2.1∧q.2.1.length≤r.values.length) ?_ ?_
 ·refine yg h fun v W=>?_
  have:=Yl (n:=n) (v:=((0:Int),v,r.values,r.good)) (B:=fun J (v:Int×Int×(List (List PV))×Bool)=>Zl n r J v.1 v.2.1 v.2.2.1 v.2.2.2) (Q:=fun v q=>Yx e q.2.1∧q.2.1.length≤r.values.length) (fun v=>v.2.2.1.length) (fun v=>Yx e v.2.2.1∧v.2.2.1.length≤r.values.length∧(v.2.1≠0→v.2.2.1≠[])) ?_ ⟨h,Kz _,W⟩ hn
  ·exact this
  rintro rec ⟨bits,bit,O,g⟩ ⟨g1,g2,g3⟩ G;simp only at g1 g2 g3 G ⊢;unfold Zl;refine Yk (fun hb=>?_) fun _=>Qm ⟨g1,g2⟩
  have U:bit≠0:=by simpa [Zg] using hb
  have hne:=g3 U;have Z:0<O.length:=List.length_pos_iff.2 hne;rw[jT hne,drop1];refine Z9 (Q:=fun _=>True) (Yk (fun _=>Qm trivial) fun _=>Qm trivial) fun j _=>?_
  rw[Kj];refine yg (r:=⟨r.article,O.drop 1,j⟩) (Ri g1) fun v W=>?_
  exact G (gW .i64 bits bit,v,O.drop 1,j) ⟨Ri g1,by simp only[FM];omega,W⟩ (by simp only[FM];omega)
 ·rintro⟨b,O,g⟩ ⟨Y,q2⟩;exact Yk (fun _=>Qm ⟨Y,q2⟩) fun _=>Qm ⟨Y,q2⟩
theorem cK(ht:Kb d x)(hn:9223372036854776000≤n):Tot (XY n x):=by
 obtain⟨e,rfl,hl,_,hk⟩:=ZC ht;unfold XY Fx Xl Xy;simp only[QF,Zj];refine Z9 (Gz (e:=e) (n:=n) hk) ?_;rintro⟨v,a,O,g⟩ ⟨W,q2⟩;simp only at W q2 ⊢;refine Yl (Q:=fun _ _=>True) (fun v=>v.2.2.2.2.2.2.2.2.1.length) (fun v=>Yx e v.2.2.2.2.2.2.2.2.1∧v.2.2.2.2.2.2.2.2.1.length≤x.Kids.length) ?_ ⟨W,q2⟩ (by simp only;omega);clear W q2;rintro rec ⟨l1,l2,l3,l4,Z,l6,l7,l8,O,g,m1,m2,m3,m4⟩ ⟨W,q2⟩ G;simp only at W q2 G ⊢;unfold VE;simp only[QF,Zj];refine Yk (fun hc=>?_) fun _=>?_
 rotate_left
 ·unfold Xz;simp only[QF];exact Qm trivial
 have hne:O≠[]:=by
  rintro rfl;cases g
  ·cases hc
  ·simp[Qb,QV] at hc
 have aa:0<O.length:=List.length_pos_iff.2 hne;rw[jT hne,drop1];refine Z9 (yf (r:=⟨⟨l2,l3,l4,Z,l6,l7,l8⟩,O,g⟩) W) fun w _=>?_
 have hd:(O.drop 1).length<O.length:=by rw[FM];omega
 have hq:=Ri W;simp only[Kj];refine Yk (fun _=>?_) fun _=>Yk (fun _=>?_) fun _=>Yk (fun _=>?_) fun _=>Yk (fun _=>?_) fun _=>Qm trivial
 ·refine Z9 (Gz (n:=n) (r:=⟨⟨l2,l3,l4,Z,l6,l7,l8⟩,O.drop 1,g⟩) hq) ?_;rintro⟨v,a,U,g'⟩ ⟨J,Y⟩;simp only at J Y ⊢;exact G _ ⟨J,by simp only;omega⟩ (by simp only;omega)
 ·refine Z9 (Gz (n:=n) (r:=⟨⟨l2,l3,l4,Z,l6,l7,l8⟩,O.drop 1,g⟩) hq) ?_;rintro⟨v,a,U,g'⟩ ⟨J,Y⟩;simp only at J Y ⊢;exact G _ ⟨J,by simp only;omega⟩ (by simp only;omega)
 ·refine Z9 (cB (n:=n) (r:=⟨⟨l2,l3,l4,Z,l6,l7,l8⟩,O.drop 1,g⟩) hq (by simp only;omega)) ?_;rintro⟨v,a,U,g'⟩ ⟨J,Y⟩;simp only at J Y ⊢;exact G _ ⟨J,by simp only;omega⟩ (by simp only;omega)
 ·refine Z9 (Gz (n:=n) (r:=⟨⟨l2,l3,l4,Z,l6,l7,l8⟩,O.drop 1,g⟩) hq) ?_;rintro⟨v,a,U,g'⟩ ⟨J,Y⟩;simp only at J Y ⊢;refine Z9 (Gz (n:=n) (r:=⟨⟨a.Kind,a.Days,v,a.To,a.Price,a.Unit,a.Free⟩,U,g'⟩) J) ?_;rintro⟨v2,a2,ab,g2⟩ ⟨p3,p4⟩;simp only at p3 p4 ⊢;exact G _ ⟨p3,by simp only;omega⟩ (by simp only;omega)
theorem V3{R:Type}{B:(Int→Option R)→Int→Option R}{L:Nat}(Q:Nat→R→Prop)(J:L≤9223372036854775807)(G:∀(rec:Int→Option R) (i:Nat),i≤L→(i<L→wi ((i:Int)+1)=((i+1:Nat):Int)∧Does (rec ((i+1:Nat):Int)) (Q (i+1)))→Does (B rec (i:Int)) (Q i)) :
  ∀{n:Nat} (i:Nat),i≤L→L-i<n→Does (QB B n (i:Int)) (Q i)
|0,_,_,h=>absurd h (Nat.not_lt_zero _)
|n+1,i,hi,h=>G _ i hi fun O=>⟨by rw[ZP zo zo];omega,V3 Q J G (i+1) zo zo⟩
def Qp(l:List (List PV)):List GN:=l.filterMap GN.of
theorem XD(h:Yx d l)(hi:i<l.length):∃y,Option.bind (Q3 l (i:Int)) GN.of=some y∧Kb d y∧Qp (l.drop i)=y::Qp (l.drop (i+1)):=by
 obtain⟨y,U,O,J,G⟩:=SF h hi;refine⟨y,U,O,?_⟩;rw[J];unfold Qp;rw[List.filterMap_cons,G]
theorem JL(l:List (List PV))(hi:l.length≤i):Qp (l.drop i)=[]:=by
 rw[List.drop_eq_nil_of_le hi];rfl
def O3(s:List UInt8):Bool:=((UL 0).getD []).contains s
def O4(s:List UInt8):Bool:=((JE 0).getD []).contains s
def uT(s:List UInt8):Bool:=((UM 0).getD []).contains s
theorem Qht(b c:Bool):(bif b then b else c)=(b||c):=by cases b<;>rfl
theorem O5(n:Nat)(s:List UInt8):YO n s=some (O3 s):=by
 unfold YO O3 UL;simp only[QF,Zj,cse,cst,Option.getD_some,List.contains_cons,List.contains_nil,Bool.or_false,Qs]
theorem uU(n:Nat)(s:List UInt8):KQ n s=some (O4 s):=by
 unfold KQ O4 JE;simp only[QF,Zj,cse,cst,Option.getD_some,List.contains_cons,List.contains_nil,Bool.or_false,Qs]
theorem ng(n:Nat)(s:List UInt8):Vd n s=some (uT s):=by
 unfold Vd uT UM;simp only[QF,Zj,cse,cst,Option.getD_some,List.contains_cons,List.contains_nil,Bool.or_false,Qs]
def Eb(words:Bool)(x:GN):Bool :=decide (x.Kids=[])&&(bif decide (x.Kind=6) then decide (x.Name=[])&&(decide (0≤x.N)&&decide (x.N≤1000000)) else decide (x.Kind=5)&&(decide (x.N=0)&&(BO x.Name||(words&&uT x.Name))))
theorem Qds(s:List UInt8):Qs s []=decide (s=[]):=by
 cases s<;>rfl
theorem Qav(J:1000≤n):Jm n x b=some (Eb b x):=by
 unfold Jm Eb;rw[CY n x.Name J,ng,Qdr,Qds];simp only[Zj,QF,Zg,leI];by_cases G:x.Kind=5
 ·rw[G];simp only[decide_true,Kj,show decide ((5:Int)=6)=false from rfl,Kk];cases decide (x.Kids=[])<;>cases decide (x.N=0)<;>cases BO x.Name<;>cases b<;>cases uT x.Name<;>rfl
 ·rw[Ki G];cases decide (x.Kids=[])<;>cases decide (x.Kind=6)<;>cases decide (x.Name=[])<;>cases decide (0≤x.N)<;>cases decide (x.N≤1000000)<;>rfl
def J9(x:GN):Bool:=decide (x.N=0)&&((decide (x.Kind=3)&&O3 x.Name||decide (x.Kind=4)&&O4 x.Name)&&(Qp x.Kids).all (Eb (decide (x.Kind=4))))
theorem cO(ht:Kb d x)(hn:9223372036854776000≤n)(aa:(x.Kids.length:Int)≤left∧left≤1500):Does (VL n x left) (fun r=>r.1=J9 x∧(J9 x=true→r.2=left-x.Kids.length)):=by
 obtain⟨e,rfl,hl,_,hk⟩:=ZC ht
 have hw:wi (left-Qb (List.map Zn x.Kids))=left-x.Kids.length:=by
  simp only[Qb,WB];exact ZP zo zo
 have J:QB (fun G O=>Y7 n x left G O) n 0=some ((Qp x.Kids).all (Eb (decide (x.Kind=4))),left-x.Kids.length):=by
  have:=V3 (B:=fun G O=>Y7 n x left G O) (n:=n) (L:=x.Kids.length) (fun i r=>r=((Qp (x.Kids.drop i)).all (Eb (decide (x.Kind=4))),left-(x.Kids.length:Int))) hl (fun rec i hi hr=>?_) 0 zo zo
  ·obtain⟨r,e,h⟩:=this;rw[show((0:Nat):Int)=0 from rfl] at e;rw[e,h];rfl
  unfold Y7;rw[hw];simp only[Qb,WB,QV];by_cases W:i<x.Kids.length;rotate_left
  ·rw[Ki zo,JL _ zo];exact Qm rfl
  obtain⟨y,Z,ab,hc⟩:=XD hk W;obtain⟨Y,w2⟩:=hr W;rw[KJ zo,Kj,Z,Zj,Y,Qav zo,Zj,hc,List.all_cons,Zg];cases Eb (decide (x.Kind=4)) y
  ·exact Qm rfl
  ·simpa using w2
 unfold VL;rw[J,O5,uU,hw,show QV (left-(x.Kids.length:Int)) 0=false from Ef zo];simp only[Zj,QF,Zg];have hp:J9 x=(decide (x.N=0)&&((decide (x.Kind=3)&&O3 x.Name||decide (x.Kind=4)&&O4 x.Name)&&(Qp x.Kids).all (Eb (decide (x.Kind=4))))):=rfl;rw[hp];generalize (Qp x.Kids).all (Eb (decide (x.Kind=4)))=z;by_cases U:x.Kind=3
 ·rw[U];cases decide (x.N=0)<;>cases O3 x.Name<;>cases z<;>exact Qm ⟨rfl,fun h=>by first|rfl|cases h⟩
 ·rw[Ki U];cases decide (x.N=0)<;>cases decide (x.Kind=4)<;>cases O4 x.Name<;>cases z<;>exact Qm ⟨rfl,fun h=>by first|rfl|cases h⟩
def yj(G:Bool):Bool→List GN→Bool|_,[]=>true|p,k::r=>(J9 k&&!(decide (k.Kind=4)&&!G)&&!(decide (k.Kind=3)&&p))&&yj G (decide (k.Kind=4)) r
def X6(J:Bool):Bool→List GN→Bool|G,[]=>!G||J|G,k::r=>bif decide (k.Kind=4) then J9 k&&X6 J true r else bif G then false else J9 k&&X6 J G r
theorem ni{k:GN}(h:J9 k=true)(G:decide (k.Kind=4)=false):decide (k.Kind=3)=true:=by
 unfold J9 at h;rw[G] at h;cases h3:decide (k.Kind=3)
 ·rw[h3] at h;simp at h
 ·rfl
theorem Dx(J:Bool):∀(l:List GN) (G:Bool),X6 J G l=((!G||J)&&yj J G l)
|[],G=>by simp[X6,yj]
|k::r,G=>by
  unfold X6 yj;rw[Dx J r true,Dx J r G];cases hp:J9 k
  ·cases decide (k.Kind=4)<;>cases G<;>simp
  cases h4:decide (k.Kind=4)
  ·rw[ni hp h4];cases G<;>cases J<;>simp
  ·have O:decide (k.Kind=3)=false:=by
    have:=of_decide_eq_true h4;rw[this];rfl
   rw[O];cases G<;>cases J<;>simp
def Tt(l:List GN):Int:=(l.map fun k=>(k.Kids.length:Int)).sum
def Hq(x:GN):Bool:=decide (x.Kind=2)&&(decide (1≤x.N)&&(decide (x.N≤7)&&(BO x.Name&&yj (decide (x.N=7)) false (Qp x.Kids))))
theorem Qaw(ht:Kb d x)(hn:9223372036854776000≤n)(ac:(x.Kids.length:Int)+Tt (Qp x.Kids)≤left∧left≤1500) :
  Does (VM n x left) (fun r=>r.1=Hq x∧(Hq x=true→r.2=left-x.Kids.length-Tt (Qp x.Kids))):=by
 obtain⟨e,rfl,hl,hs,hk⟩:=ZC ht
 have Z:∀l:List GN,0≤Tt l:=by
  intro l
  induction l with
 |nil=>exact Int.le_refl _
 |cons a l ih=>unfold Tt at ih ⊢;simp only[WV,List.sum_cons];omega
 have ad:=Z (Qp x.Kids)
 have hw:wi (left-Qb (List.map Zn x.Kids))=left-x.Kids.length:=by
  simp only[Qb,WB];exact ZP zo zo
 have U:Does (QB (fun Y (v:Bool×Int×Int)=>Yp n x Y v.1 v.2.1 v.2.2) n (false,0,left-x.Kids.length)) (fun r=>r.1=X6 (decide (x.N=7)) false (Qp x.Kids)∧(X6 (decide (x.N=7)) false (Qp x.Kids)=true→r.2=left-x.Kids.length-Tt (Qp x.Kids))):=by
  refine Yl (Q:=fun(v:Bool×Int×Int) (r:Bool×Int)=>r.1=X6 (decide (x.N=7)) v.1 (Qp (x.Kids.drop v.2.1.toNat))∧(X6 (decide (x.N=7)) v.1 (Qp (x.Kids.drop v.2.1.toNat))=true→r.2=v.2.2-Tt (Qp (x.Kids.drop v.2.1.toNat)))) (fun v=>x.Kids.length-v.2.1.toNat)
   (fun(v:Bool×Int×Int)=>(∃i:Nat,v.2.1=(i:Int)∧i≤x.Kids.length)∧Tt (Qp (x.Kids.drop v.2.1.toNat))≤v.2.2∧v.2.2≤1500) ?_ ⟨⟨0,rfl,by omega⟩,by simp only[show(0:Int).toNat=0 from rfl,List.drop_zero];omega,by simp only;omega⟩ (by simp only;omega)
  rintro rec ⟨fl,Eo,lf⟩ ⟨⟨i,hi,ab⟩,g1,g2⟩ J;simp only at hi J g1 g2 ⊢;subst hi;simp only[Int.toNat_natCast] at g1 ⊢;unfold Yp;simp only[Qb,WB,QV];by_cases c1:i<x.Kids.length;rotate_left
  ·rw[Ki zo,Kk,JL _ zo];unfold Yo;rw[Zg];cases fl
   ·exact Qm ⟨rfl,fun _=>by simp[Tt]⟩
   ·exact Qm ⟨rfl,fun _=>by simp[Tt]⟩
  obtain⟨y,hy,aa,hc⟩:=XD hk c1;rw[hc] at g1 ⊢;have W:Tt (y::Qp (List.drop (i+1) x.Kids))=(y.Kids.length:Int)+Tt (Qp (List.drop (i+1) x.Kids)):=rfl;rw[W] at g1 ⊢;have h0:=Z (Qp (List.drop (i+1) x.Kids));rw[KJ zo,Kj,hy,Zj]
  have O:∀b:Bool,Does (ZJ n (i:Int) lf rec y b) fun r=>r.1=(J9 y&&X6 (decide (x.N=7)) b (Qp (List.drop (i+1) x.Kids)))∧((J9 y&&X6 (decide (x.N=7)) b (Qp (List.drop (i+1) x.Kids)))=true→r.2=lf-((y.Kids.length:Int)+Tt (Qp (List.drop (i+1) x.Kids)))):=by
   intro b;unfold ZJ;rw[ZP (x:=(i:Int)+1) zo zo];refine Z9 (cO aa hn ⟨by omega,g2⟩) ?_;rintro⟨r1,r2⟩ ⟨q1,q2⟩;simp only at q1 q2 ⊢;subst q1;cases hb:J9 y
   ·exact Qm ⟨rfl,fun h=>by cases h⟩
   have q2:=q2 hb;simp only[Bool.not_true,Kk,Bool.true_and];refine VZ (J (b,(i:Int)+1,r2) ⟨⟨i+1,by simp,c1⟩,by simp only[show((i:Int)+1).toNat=i+1 by omega];omega,by simp only;omega⟩ (by simp only;omega)) ?_;rintro⟨s1,s2⟩ ⟨t1,t2⟩;simp only[show((i:Int)+1).toNat=i+1 by omega] at t1 t2 ⊢;exact⟨t1,fun h=>by rw[t2 h];omega⟩
  rw[Zg];unfold X6;cases decide (y.Kind=4)
  ·cases fl
   ·exact O false
   ·exact Qm ⟨rfl,fun h=>by cases h⟩
  ·exact O true
 unfold VM;rw[CY n x.Name zo,hw,show QV (left-(x.Kids.length:Int)) 0=false from Ef zo];simp only[Zj,QF,Zg,QV]
 have hb:Hq x=(decide (x.Kind=2)&&(decide (1≤x.N)&&(decide (x.N≤7)&&(BO x.Name&&X6 (decide (x.N=7)) false (Qp x.Kids))))):=by
  unfold Hq;rw[Dx];simp
 rw[hb]
 have G:∀b:Bool,b=false→Does (some (false,left)) (fun r=>r.1=b∧(b=true→r.2=left-x.Kids.length-Tt (Qp x.Kids))):=by
  intro b h;subst h;exact Qm ⟨rfl,fun h=>by cases h⟩
 by_cases c0:x.Kind=2;rotate_left
 ·rw[Ki c0];exact G _ rfl
 rw[KJ c0];by_cases c1:x.N<1
 ·rw[KJ c1,Ki (show ¬1≤x.N by omega)];exact G _ rfl
 rw[Ki c1,KJ (show 1≤x.N by omega)];by_cases c2:7<x.N
 ·rw[KJ c2,Ki (show ¬x.N≤7 by omega)];exact G _ rfl
 rw[Ki c2,KJ (show x.N≤7 by omega)];cases BO x.Name
 ·exact G _ rfl
 ·exact U
def sz:Nat→GN→Int|0,_=>1|k+1,x=>1+((Qp x.Kids).map (sz k)).sum
theorem CZ{f:GN→Int}(hf:∀y,0≤f y):∀l:List GN,0≤(l.map f).sum
|[]=>Int.le_refl _
|a::l=>by have:=CZ hf l;have:=hf a;simp only[WV,List.sum_cons];omega
theorem cZ:∀(m n d:Nat) (x:GN) (G:Int),Kb d x→0≤G→G≤m→m≤1000000→m+3≤n→Does (Zk n x G) (fun r=>1≤r∧r≤G+1∧(r≤G→∀k,sz k x≤r)):=by
 intro m
 induction m with
|zero =>
  intro n d x G Y h0 h1 h2 h3;obtain⟨r,e,g1,g2⟩:=mY 0 n d x G Y h0 h1 h2 h3;exact⟨r,e,g1,g2,fun h=>by omega⟩
|succ m ih =>
  intro n d x G Y h0 h1 h2 h3;obtain⟨n,rfl⟩:∃q,n=q+1:=⟨n-1,by omega⟩;obtain⟨e,rfl,hl,_,hk⟩:=ZC Y;unfold Zk ZK;have:=Yl (n:=n) (v:=((1:Int),(0:Int))) (B:=fun U (v:Int×Int)=>Zu x G (Zk n) U v.1 v.2) (Q:=fun(v:Int×Int) r=>v.1≤r∧r≤G+1∧(r≤G→∀k,v.1+((Qp (x.Kids.drop v.2.toNat)).map (sz k)).sum≤r)) (fun v=>(G+1-v.1).toNat) (fun v=>1≤v.1∧v.1≤G+1∧∃i:Nat,v.2=(i:Int)∧i≤x.Kids.length) ?_ ⟨by omega,by omega,0,rfl,by omega⟩ (by simp only;omega)
  ·obtain⟨r,e1,g1,g2,g3⟩:=this;refine⟨r,e1,g1,g2,fun h k=>?_⟩;cases k with
  |zero=>exact g1
  |succ k=>exact g3 h k
  rintro rec ⟨J,Eo⟩ ⟨g1,g2,i,hi,aa⟩ O;simp only at g1 g2 hi O ⊢;subst hi;simp only[Int.toNat_natCast];unfold Zu;simp only[Qb,WB,QV,leI];by_cases c1:i<x.Kids.length;rotate_left
  ·rw[Ki zo];refine Qm ⟨Int.le_refl _,g2,fun _ k=>?_⟩;rw[JL _ zo];simp
  rw[KJ zo];by_cases W:J≤G;rotate_left
  ·rw[Ki W];exact Qm ⟨Int.le_refl _,g2,fun h=>absurd h W⟩
  rw[KJ W];obtain⟨y,hy,Z,hc⟩:=XD hk c1;simp only[Kj,Zj];rw[hy,Zj,ZP (x:=G-J) zo zo];refine Z9 (ih n e y (G-J) Z zo zo zo zo) ?_;rintro r ⟨r1,r2,r3⟩;rw[ZP (x:=J+r) zo zo,ZP (x:=(i:Int)+1) zo zo];refine VZ (O (J+r,(i:Int)+1) ⟨by simp only;omega,by simp only;omega,i+1,by simp,c1⟩ (by simp only;omega)) ?_;rintro q ⟨q1,q2,q3⟩;simp only at q1 q3;refine⟨by omega,q2,fun h k=>?_⟩;have:=q3 h k;have:=r3 zo k;rw[hc];simp only[show((i:Int)+1).toNat=i+1 by omega,WV,List.sum_cons] at *;omega
theorem Gi{d:Nat}:∀{l:List (List PV)},Yx d l→(Qp l).length=l.length
|[],_=>rfl
|c::r,h=>by
  obtain⟨y,e,_⟩:=h c zq;have:=Gi (l:=r) (fun k G=>h k (by simp[G]));unfold Qp at this ⊢;rw[List.filterMap_cons,e];simp[this]
theorem NU(h:Yx d l):∀y∈Qp l,Kb d y:=by
 intro y J;obtain⟨c,hc,e⟩:=List.mem_filterMap.1 J;obtain⟨z,G,t⟩:=h c hc;rw[G] at e;cases e;exact t
def Ec(l:List GN):Int:=(l.map fun k=>(k.Kids.length:Int)+Tt (Qp k.Kids)).sum
def Tu(x:GN):Bool:=decide (x.Kind=1)&&(decide (x.Name=[])&&(decide (x.N=0)&&(Qp x.Kids).all Hq))
theorem Gj(l:List GN):0≤Tt l:=CZ (fun y=>by omega) l
theorem Xo(l:List GN):0≤Ec l:=CZ (fun y=>by have:=Gj (Qp y.Kids);omega) l
theorem Qax(ht:Kb d x)(hn:9223372036854776000≤n)(hs:1+(x.Kids.length:Int)+Ec (Qp x.Kids)≤1500):WT n x=some (Tu x):=by
 obtain⟨e,rfl,hl,_,hk⟩:=ZC ht
 have hw:wi (1499-Qb (List.map Zn x.Kids))=1499-x.Kids.length:=by
  simp only[Qb,WB];exact ZP zo zo
 have ae:=Xo (Qp x.Kids)
 have O:Does (QB (fun G (v:Int×Int)=>Y4 n x G v.1 v.2) n (0,1499-x.Kids.length)) (fun r=>r=(Qp x.Kids).all Hq):=by
  refine Yl (Q:=fun(v:Int×Int) (r:Bool)=>r=(Qp (x.Kids.drop v.1.toNat)).all Hq) (fun v=>x.Kids.length-v.1.toNat) (fun v=>(∃i:Nat,v.1=(i:Int)∧i≤x.Kids.length)∧Ec (Qp (x.Kids.drop v.1.toNat))≤v.2∧v.2≤1500) ?_ ⟨⟨0,rfl,by omega⟩,by simp only[show(0:Int).toNat=0 from rfl,List.drop_zero];omega,by simp only;omega⟩ (by simp only;omega);rintro rec ⟨Eo,lf⟩ ⟨⟨i,hi,ad⟩,g1,g2⟩ J;simp only at hi J g1 g2 ⊢;subst hi;simp only[Int.toNat_natCast] at g1 ⊢;unfold Y4;simp only[Qb,WB,QV];by_cases c1:i<x.Kids.length;rotate_left
  ·rw[Ki zo,Kk,JL _ zo];exact Qm rfl
  obtain⟨y,hy,ab,hc⟩:=XD hk c1;rw[hc] at g1 ⊢;have U:Ec (y::Qp (List.drop (i+1) x.Kids))=((y.Kids.length:Int)+Tt (Qp y.Kids))+Ec (Qp (List.drop (i+1) x.Kids)):=rfl;rw[U] at g1;have h0:=Xo (Qp (List.drop (i+1) x.Kids));rw[KJ zo,Kj,hy,Zj,List.all_cons,ZP (x:=(i:Int)+1) zo zo];refine Z9 (Qaw ab hn ⟨by omega,g2⟩) ?_;rintro⟨r1,r2⟩ ⟨q1,q2⟩;simp only at q1 q2 ⊢;subst q1;cases hb:Hq y
  ·exact Qm rfl
  have q2:=q2 hb;have ac:=Gj (Qp y.Kids);simp only[Bool.not_true,Kk,Bool.true_and];refine VZ (J ((i:Int)+1,r2) ⟨⟨i+1,by simp,c1⟩,by simp only[show((i:Int)+1).toNat=i+1 by omega];omega,by simp only;omega⟩ (by simp only;omega)) ?_;intro r hr;simpa only[show((i:Int)+1).toNat=i+1 by omega] using hr
 obtain⟨r,er,rfl⟩:=O;unfold WT Tu;rw[hw,show QV (1499-(x.Kids.length:Int)) 0=false from Ef zo,Qds];simp only[QF,Zj,Zg];have Z:QB (fun G (aa:Int×Int)=>match aa with|(Y,W)=>Y4 n x G Y W) n (0,1499-(x.Kids.length:Int))=some ((Qp x.Kids).all Hq):=er;rw[Z];cases decide (x.Kind=1)<;>cases decide (x.Name=[])<;>cases decide (x.N=0)<;>rfl
theorem yl(ht:Kb d x)(hn:9223372036854776000≤n) :
  Does (Ya n x) (fun r=>r.1.length≤12∧(r.2.Err=0→r.1.length=x.Kids.length∧jQ 0 r.1=true)):=by
 obtain⟨e,rfl,hl,_,hk⟩:=ZC ht;unfold Ya
 have:=Yl (n:=n) (v:=(([]:List Kn),false,(0:Int))) (B:=fun U (v:(List Kn)×Bool×Int)=>ZT n x U v.1 v.2.1 v.2.2) (Q:=fun v r=>r.1.length≤12∧(r.2.Err=0→r.1.length=x.Kids.length∧jQ 0 r.1=true)) (fun v=>x.Kids.length-v.2.2.toNat)
  (fun v=>v.1.length≤12∧v.2.2=(v.1.length:Int)∧v.1.length≤x.Kids.length∧∀r,jQ 0 (v.1++r)=jQ (cond v.2.1 1 0) r) ?_ ⟨by simp,rfl,by simp,fun r=>rfl⟩ (by simp only;omega)
 ·exact this
 rintro rec ⟨out,J,Eo⟩ ⟨g1,g2,g3,g4⟩ O;simp only at g1 g2 g3 g4 O ⊢;subst g2;unfold ZT;simp only[Qb,WB,QV];by_cases c1:out.length<x.Kids.length;rotate_left
 ·rw[Ki zo,Kk];refine Qm ⟨g1,fun _=>⟨by simp only;omega,?_⟩⟩;have:=g4 [];rw[List.append_nil] at this;rw[this];cases J<;>rfl
 obtain⟨y,hy,ab,_⟩:=SF hk c1;rw[KJ zo,Kj,hy,Zj];refine Yk (fun _=>Qm ⟨by simp,fun h=>by cases h⟩) fun _=>Yk (fun _=>Qm ⟨by simp,fun h=>by cases h⟩) fun W=>?_
 have W:out.length<12:=by
  rw[Zg] at W;have:=of_decide_eq_false W;omega
 refine Z9 (cK ab hn) fun r _=>Yk (fun _=>Qm ⟨by simp,fun h=>by cases h⟩) fun _=>?_
 rw[mX,Zj];refine Yk (fun _=>Qm ⟨by simp,fun h=>by cases h⟩) fun Z=>?_
 have Z:kY r.1=true:=by simpa using Z
 have Y:QI (out++[r.1]).length 56=true:=by unfold QI;rw[X4];exact KJ (by simp;omega)
 rw[Y,ZP (x:=(out.length:Int)+1) zo zo];simp only[QF,Zj,Kj]
 have G:∀t':Bool,(cond t' 1 0=if r.1.Kind=6 then(cond J 1 0:Int)+1 else cond J 1 0)→Does (rec (out++[r.1],t',(out.length:Int)+1)) (fun r=>r.1.length≤12∧(r.2.Err=0→r.1.length=x.Kids.length∧jQ 0 r.1=true)):=by
  intro t' aa;refine O _ ⟨by simp;omega,by simp,by simp;omega,fun q=>?_⟩ (by simp only;omega);simp only;rw[List.append_assoc,g4,List.singleton_append,jQ,Z,Bool.true_and,←aa]
 cases J
 ·simp only[Kk];rw[show(bif Qj r.1.Kind 6 then false else false)=false from by cases Qj r.1.Kind 6<;>rfl,Kk];refine G _ ?_;rw[Zg];by_cases h:r.1.Kind=6
  ·simp[h]
  ·simp[h]
 ·simp only[Kj];by_cases h:r.1.Kind=6
  ·rw[show Qj r.1.Kind 6=true from by rw[Zg];exact KJ h];exact Qm ⟨by simp,fun h=>by cases h⟩
  ·rw[show Qj r.1.Kind 6=false from by rw[Zg];exact Ki h];exact G _ (by rw[if_neg h])
abbrev TSt:Type:=Bool×Int×Int×Int×Int×Int×Int×Int×(List (List PV))×Bool×Bool×Bool×Bool×Bool
def tB(n:Nat)(rec:TSt→Option (Kn×Bool))(v:TSt):Option (Kn×Bool) :=VE n rec v.1 v.2.1 v.2.2.1 v.2.2.2.1 v.2.2.2.2.1 v.2.2.2.2.2.1 v.2.2.2.2.2.2.1 v.2.2.2.2.2.2.2.1 v.2.2.2.2.2.2.2.2.1 v.2.2.2.2.2.2.2.2.2.1 v.2.2.2.2.2.2.2.2.2.2.1 v.2.2.2.2.2.2.2.2.2.2.2.1 v.2.2.2.2.2.2.2.2.2.2.2.2.1 v.2.2.2.2.2.2.2.2.2.2.2.2.2
theorem rf(s k:List UInt8):∀m:List (List UInt8×Bool),Qx Qa s false (Ql Qa k true m)=(Qx Qa s false m||(s==k))
|[]=>by
  unfold Ql Qx FH FH Qa Qs;by_cases h:s=k
  ·subst h;simp
  ·rw[show(s==k)=false from by simpa using h];rfl
|(q,w)::m=>by
  have J:=rf s k m;unfold Qx at J ⊢;unfold Ql;unfold Qa Qs at J ⊢;by_cases h:k=q
  ·subst h;rw[beq_self_eq_true,Kj];unfold FH;by_cases G:s=k
   ·subst G;simp
   ·rw[show(s==k)=false from by simpa using G];simp
  ·rw[show(k==q)=false from by simpa using h,Kk];unfold FH;by_cases G:s=q
   ·subst G;rw[beq_self_eq_true,Kj,Kj,show(s==k)=false from by simpa using fun e=>h e.symm,Bool.or_false]
   ·rw[show(s==q)=false from by simpa using G,Kk,Kk];exact J
section
variable {n d:Nat}{x:GN}
def tBu(n:Nat)(x:GN)(rec:(List WY)×(List Za)×Int×Int×(List ((List UInt8)×Bool))→Option ((List WY)×(List Za)))(v:(List WY)×(List Za)×Int×Int×(List ((List UInt8)×Bool))):Option ((List WY)×(List Za)) :=WK n x rec v.1 v.2.1 v.2.2.1 v.2.2.2.1 v.2.2.2.2
end
def UN(A:GN→List Kn×Za)(nm:List (List UInt8))(y:GN):List Kn×Za :=bif nm.contains y.Name then([],⟨5,y.At⟩) else bif decide (8≤nm.length) then([],⟨2,y.At⟩) else A y
def C8(A:GN→List Kn×Za):List GN→List WY→List Za→List (List UInt8)→List WY×List Za|[],out,dg,_=>(out,dg)|y::r,out,dg,nm =>bif decide ((UN A nm y).2.Err=0) then C8 A r (out++[⟨y.Name,(UN A nm y).1⟩]) dg (nm++[y.Name]) else bif decide (dg.length=19) then(out,dg++[(UN A nm y).2]) else C8 A r (out++[⟨y.Name,(UN A nm y).1⟩]) (dg++[(UN A nm y).2]) (nm++[y.Name])
def ZE(n:Nat)(y:GN):List Kn×Za:=(Ya n y).getD ([],⟨0,0⟩)
def Wt(l:List GN):List GN:=l.filter fun y=>decide (y.N=7)
theorem nk(hk:Yx d x.Kids)(ac:x.Kids.length≤1500)(hn:9223372036854776000≤n):∀(m i k:Nat) (out:List WY) (dg:List Za) (names:List (List UInt8)) (mp:List (List UInt8×Bool)),i+m=x.Kids.length→m<k→out.length≤i→names.length≤i→dg.length≤19 →
  (∀s,Qx Qa s false mp=names.contains s) →
  QB (tBu n x) k (out,dg,(names.length:Int),(i:Int),mp)=some (C8 (ZE n) (Wt (Qp (x.Kids.drop i))) out dg names):=by
 intro m
 induction m with
|zero =>
  intro i k out dg names mp h1 h2 h3 h4 h5 Z;obtain⟨k,rfl⟩:∃q,k=q+1:=⟨k-1,by omega⟩;rw[XC,JL _ zo];unfold tBu WK;simp only;rw[show QV (i:Int) (Qb (List.map Zn x.Kids))=false from Ef (by simp only[Qb,WB];omega)];rfl
|succ m ih =>
  intro i k out dg names mp h1 h2 h3 h4 h5 Z;obtain⟨k,rfl⟩:∃q,k=q+1:=⟨k-1,by omega⟩;rw[XC];have G:=fun out dg names mp=>ih (i+1) k out dg names mp zo zo
  generalize QB (tBu n x) k=tr at G ⊢;obtain⟨y,hy,aa,hc⟩:=XD hk (show i<x.Kids.length by omega);have w1:wi ((i:Int)+1)=((i+1:Nat):Int):=by rw[ZP zo zo];omega
  have w2:wi ((names.length:Int)+1)=((names++[y.Name]).length:Int):=by rw[ZP zo zo,X4];simp
  rw[hc];unfold tBu WK;simp only[w1,w2];rw[show QV (i:Int) (Qb (List.map Zn x.Kids))=true from MK (by simp only[Qb,WB];omega),hy];simp only[Kj,Zj,Zg];by_cases hN:y.N=7;rotate_left
  ·rw[Ki hN];have e:Wt (y::Qp (x.Kids.drop (i+1)))=Wt (Qp (x.Kids.drop (i+1))):=by unfold Wt;rw[List.filter_cons,Ki hN];rfl
   rw[e];exact G out dg names mp zo zo h5 Z
  have e:Wt (y::Qp (x.Kids.drop (i+1)))=y::Wt (Qp (x.Kids.drop (i+1))):=by unfold Wt;rw[List.filter_cons,KJ hN];rfl
  rw[e,KJ hN,Z];obtain⟨r,er,_⟩:=yl aa (n:=n) hn;have hA:ZE n y=r:=by unfold ZE;rw[er];rfl
  have W:((bif names.contains y.Name then some ([],5,y.At) else bif leI 8 (names.length:Int) then some ([],2,y.At) else(Ya n y).bind fun r6=>some (r6.1,r6.2.Err,r6.2.At)):Option (List Kn×Int×Int))=some ((UN (ZE n) names y).1,(UN (ZE n) names y).2.Err,(UN (ZE n) names y).2.At):=by
   unfold UN;rw[hA,er,show leI 8 (names.length:Int)=decide (8≤names.length) from by unfold leI;by_cases h:8≤names.length<;>simp[h]<;>omega];cases names.contains y.Name<;>cases decide (8≤names.length)<;>rfl
  simp only[Bool.not_true,Kk];rw[W];simp only[Zj];have ad:(names++[y.Name]).length=names.length+1:=by simp
  have J:∀a:List Kn,QI (out++[(⟨y.Name,a⟩:WY)]).length 40=true:=fun a=>by unfold QI;rw[X4];exact KJ (by simp;omega)
  have O:∀a:Za,QI (dg++[a]).length 16=true:=fun a=>by unfold QI;rw[X4];exact KJ (by simp;omega)
  have Y:∀s,Qx Qa s false (Ql Qa y.Name true mp)=(names++[y.Name]).contains s:=by
   intro s;rw[rf,Z,Bool.eq_iff_iff];simp
  unfold C8;generalize UN (ZE n) names y=q;obtain⟨ab,err,at_⟩:=q;simp only;rw[J,O];by_cases he:err=0
  ·rw[KJ he];simp only[Bool.not_true,Kj,Kk,Zj,Qb,WB];rw[Ki zo,Kk];exact G _ _ _ _ (by simp;omega) zo h5 Y
  ·rw[Ki he];simp only[Bool.not_false,Kj,Kk,Zj,Qb,WB];by_cases U:dg.length=19
   ·rw[KJ (by simp;omega),KJ U];rfl
   ·rw[Ki (by simp;omega),Ki U];exact G _ _ _ _ (by simp;omega) zo (by simp;omega) Y
theorem ym(hk:Yx d x.Kids)(Z:x.Kids.length≤1500)(hn:9223372036854776000≤n)(hp:WT n x=some true) :
  Yq n x=some (bif decide ((C8 (ZE n) (Wt (Qp x.Kids)) [] [] []).2=[]) then(C8 (ZE n) (Wt (Qp x.Kids)) [] [] []) else([],(C8 (ZE n) (Wt (Qp x.Kids)) [] [] []).2)):=by
 have e:=nk (n:=n) (x:=x) hk Z hn x.Kids.length 0 n [] [] [] [] zo zo zq zq zq (fun s=>rfl);rw[List.drop_zero] at e;unfold Yq;rw[hp];have e':QB (fun G (v:(List WY)×(List Za)×Int×Int×(List ((List UInt8)×Bool)))=>match v with|(J,O,U,Y,W)=>WK n x G J O U Y W) n ([],[],0,0,[])=some (C8 (ZE n) (Wt (Qp x.Kids)) [] [] []):=e;simp only[Zj,Bool.not_true,Kk];rw[e'];generalize C8 (ZE n) (Wt (Qp x.Kids)) [] [] []=r;obtain⟨l,dg⟩:=r;simp only[Zj];cases dg with
|nil=>rfl
|cons a q =>
  rw[show QV 0 (Qb (List.map Za.cs (a::q)))=true from MK (by simp only[Qb,WB,JF];omega),Ki (by intro h;cases h)];rfl
def Om(c:UInt8):Bool:=decide (Z5 c=32∨Z5 c=9∨Z5 c=10)
def qO(c:UInt8):Bool:=decide (97≤Z5 c∧Z5 c≤122)
def Hr(c:UInt8):Bool:=decide (48≤Z5 c∧Z5 c≤57)
def BM(c:UInt8):Bool:=qO c||Hr c||decide (Z5 c=95)
def jU(c:UInt8):Bool:=decide (Z5 c=59∨Z5 c=123∨Z5 c=125)
theorem QcL(n:Nat)(c:UInt8):Gw n (Z5 c)=some (Om c):=by
 unfold Gw Om;simp only[Zg,QF,Q0];by_cases G:Z5 c=32<;>by_cases O:Z5 c=9<;>by_cases J:Z5 c=10<;>simp[G,O,J]
theorem uV(n:Nat)(c:UInt8):Xx n (Z5 c)=some (qO c):=by
 unfold Xx qO;simp only[leI,QF,Q0];by_cases G:97≤Z5 c<;>simp[G]
theorem qP(n:Nat)(c:UInt8):Jh n (Z5 c)=some (Hr c):=by
 unfold Jh Hr;simp only[leI,QF,Q0];by_cases G:48≤Z5 c<;>simp[G]
theorem Qay(n:Nat)(c:UInt8):U3 n (Z5 c)=some (jU c):=by
 unfold U3 jU;simp only[Zg,QF,Q0];by_cases G:Z5 c=59<;>by_cases O:Z5 c=123<;>by_cases J:Z5 c=125<;>simp[G,O,J]
theorem Qdt(n:Nat)(c:UInt8):Ji n (Z5 c)=some (BM c):=by
 unfold Ji BM;rw[uV,qP];simp only[Zj,Zg,QF,Q0];cases qO c<;>cases Hr c<;>simp
theorem Qdu(n:Nat)(c:UInt8):LX n (Z5 c)=some (!decide (Z5 c=10)):=by
 unfold LX;rw[Zg]
def dS(c:UInt8):Int:=if Om c then 1 else if Z5 c=35 then 2 else if qO c then 3 else if Hr c then 4 else if jU c then 5 else 0
theorem Qdv(n:Nat)(c:UInt8):Fe n (Z5 c)=some (dS c):=by
 unfold Fe dS;rw[QcL,uV,qP,Qay];simp only[Zj,Zg,QF,Q0];cases Om c<;>by_cases h:Z5 c=35<;>cases qO c<;>cases Hr c<;>cases jU c<;>simp[h]
theorem BP{p:UInt8→Bool}{B:(Int→Option Int)→Int→Option Int}(hs:s.length≤4611686018427387904)(G:∀rec (i:Nat),B rec (i:Int)=(cond (QV (i:Int) (Qb s)) ((Q3 s (i:Int)).bind fun x=>some (p x)) (some false)).bind fun j=>cond j (rec (wi ((i:Int)+1))) (some (i:Int)))(i:Nat)(hi:i≤s.length)(W:s.length-i<n) :
  QB B n (i:Int)=some ((i+((s.drop i).takeWhile p).length:Nat):Int):=by
 have:=NT (l:=s) (B:=B) (F:=fun r=>((s.length-r.length+(r.takeWhile p).length:Nat):Int)) hs ?_ ?_ (n:=n) i hi W
 ·rw[this,FM];congr 3;omega
 ·intro rec;rw[G];simp[QV,Qb]
 ·intro rec i x r J O hi hw Y
  have U:r.length=s.length-(i+1):=by
   have:=congrArg List.length J;simp only[FM,JF] at this;omega
  rw[G,ZW,O,hw,Y];simp only[QV,Qb,Zj,JF];rw[KJ zo,Kj,Zj,U];cases hp:p x
  ·simp only[Kk,List.takeWhile_cons,hp,Bool.false_eq_true,if_false,List.length_nil,Q0];omega
  ·simp only[Kj,List.takeWhile_cons,hp,if_true,JF,Q0];omega
section
variable {n:Nat}{s:List UInt8}{i:Nat}
theorem Qaz(hs:s.length≤8100)(hi:i≤s.length)(G:10000≤n):Nv n s (i:Int)=some ((i+((s.drop i).takeWhile Om).length:Nat):Int) :=
 BP zo (fun rec i=>by unfold FZ;simp only[QcL,Zj]) i hi zo
theorem QaA(hs:s.length≤8100)(hi:i≤s.length)(G:10000≤n):RL n s (i:Int)=some ((i+((s.drop i).takeWhile (fun c=>!decide (Z5 c=10))).length:Nat):Int) :=
 BP zo (fun rec i=>by unfold UG;simp only[Qdu,Zj]) i hi zo
theorem QaB(hs:s.length≤8100)(hi:i≤s.length)(G:10000≤n):RN n s (i:Int)=some ((i+((s.drop i).takeWhile BM).length:Nat):Int) :=
 BP zo (fun rec i=>by unfold UH;simp only[Qdt,Zj]) i hi zo
theorem QaC(hs:s.length≤8100)(hi:i≤s.length)(G:10000≤n):RO n s (i:Int)=some ((i+((s.drop i).takeWhile Hr).length:Nat):Int) :=
 BP zo (fun rec i=>by unfold UI;simp only[qP,Zj]) i hi zo
end
def C9:Int→List UInt8→Option Int|a,[]=>some a|a,c::r=>if 1000000<10*a+(Z5 c-48) then none else C9 (10*a+(Z5 c-48)) r
theorem rq(h:Hr c=true):wi (w8 (Z5 c-48))=Z5 c-48∧0≤Z5 c-48∧Z5 c-48≤9:=by
 have h:=of_decide_eq_true h;refine⟨?_,by omega,by omega⟩;simp only[w8,wi,IntKind.wrap,IntKind.signed,IntKind.bits];simp;omega
def FC:List UInt8→Except Int (Int×List UInt8×Int)
|[]=>.error 7
|c::r=>if qO c then(if 12<(c::r).length then .error 3 else .ok (1,c::r,0))
  else if Hr c then(if 1<(c::r).length∧Z5 c=48 then .error 7 else match C9 0 (c::r) with|some v=>.ok (2,[],v)|none=>.error 3)
  else if jU c then .ok (3,c::r,0) else .error 7
def Gl:List UInt8→List UInt8|[]=>[]|c::r=>if qO c then(c::r).takeWhile BM else if Hr c then(c::r).takeWhile Hr else if jU c then[c] else[]
theorem QaD(n:Nat)(t:List UInt8)(hn:10000≤n)(ht:t.length≤8100)(hd:t.all Hr=true)(h0:t≠[]) :
  LY n t=some (if 1<t.length∧(∀c∈t.head?,Z5 c=48) then((0:Int),(7:Int)) else match C9 0 t with|some v=>(v,0)|none=>(0,3)):=by
 unfold LY;obtain⟨c,r,rfl⟩:=List.exists_cons_of_ne_nil h0;have hg:Q3 (c::r) 0=some c:=rfl;simp only[QV,Qb,hg,Zj,QF,Zg,List.head?_cons,Option.mem_def,Q0,forall_eq'];by_cases Y:1<(c::r).length∧Z5 c=48
 ·rw[if_pos Y,KJ zo,KJ Y.2];rfl
 rw[if_neg Y]
 have hb:(bif decide (1<((c::r).length:Int)) then decide (Z5 c=48) else false)=false:=by
  by_cases a:1<(c::r).length
  ·have b:¬Z5 c=48:=fun h=>Y ⟨a,h⟩
   rw[Ki b];simp
  ·rw[Ki zo];rfl
 rw[hb,Kk]
 have key:∀(a:Int) (i:Nat),0≤a→a≤1000000→i≤(c::r).length→∀m,(c::r).length-i<m→QB (fun G (v:Int×Int)=>Vt (c::r) G v.1 v.2) m (a,(i:Int))=some (match C9 a ((c::r).drop i) with|some v=>(v,(0:Int))|none=>((0:Int),(3:Int))):=by
  intro a i;generalize hk:(c::r).length-i=k
  induction k generalizing a i with
 |zero =>
   intro h1 h2 h3 m hm;obtain⟨m,rfl⟩:∃Z,m=Z+1:=⟨m-1,by omega⟩;unfold QB;simp only[Vt,QV,Qb];rw[Ki zo,Kk,List.drop_eq_nil_of_le zo];rfl
 |succ k ih =>
   intro h1 h2 h3 m hm;obtain⟨m,rfl⟩:∃Z,m=Z+1:=⟨m-1,by omega⟩;have hlt:i<(c::r).length:=by omega
   have U:=List.drop_eq_getElem_cons hlt;have hx:(c::r)[i]?=some (c::r)[i]:=List.getElem?_eq_getElem hlt;have J:Hr (c::r)[i]=true:=X5.1 hd _ (List.getElem_mem hlt);generalize (c::r)[i]=x at U hx J;obtain⟨w1,w2,w3⟩:=rq J;have e1:wi (10*a)=10*a:=ZP zo zo;have e2:wi (10*a+(Z5 x-48))=10*a+(Z5 x-48):=ZP zo zo;have O:=fun(h:10*a+(Z5 x-48)≤1000000)=>ih (10*a+(Z5 x-48)) (i+1) zo zo h zo m zo
   unfold QB;generalize QB (fun G (v:Int×Int)=>Vt (c::r) G v.1 v.2) m=L at O ⊢;show Vt (c::r) L a (i:Int)=_;unfold Vt;simp only[QV,Qb];rw[KJ zo,Kj,ZW,hx,Zj,w1,e1,e2,U,ZP (x:=(i:Int)+1) zo zo];unfold C9;by_cases W:1000000<10*a+(Z5 x-48)
   ·rw[KJ W,Kj,if_pos W]
   ·rw[Ki W,Kk,if_neg W];exact O zo
 exact key 0 0 zo zo zo n zo
theorem RY(s:List UInt8)(i:Nat)(p:UInt8→Bool)(hi:i≤s.length):List.drop i (List.take (i+((s.drop i).takeWhile p).length) s)=(s.drop i).takeWhile p:=by
 have J:List.drop i (List.take (i+((s.drop i).takeWhile p).length) s)=(s.drop i).take ((s.drop i).takeWhile p).length:=by
  rw[List.drop_take];congr 1;omega
 rw[J];generalize s.drop i=l
 induction l with
|nil=>rfl
|cons c l G =>
  by_cases h:p c=true
  ·simp[h,G]
  ·simp[h]
theorem Gm(l:List UInt8)(p:UInt8→Bool):(l.takeWhile p).length≤l.length:=(List.takeWhile_prefix p).length_le
theorem Lr(l:List UInt8)(p:UInt8→Bool):(l.takeWhile p).all p=true:=by
 induction l with
|nil=>rfl
|cons c l G =>
  by_cases h:p c=true
  ·simp[h,G]
  ·simp[h]
theorem QaE(n:Nat)(s:List UInt8)(i:Nat)(c:UInt8)(r:List UInt8)(hs:s.length≤8100)(hn:10000≤n)(Z:s.drop i=c::r)(hg:Om c=false)(hc:¬Z5 c=35) :
  ∃x:Zq×Int×Int,LZ n s (i:Int) (dS c)=some x∧match FC (Gl (c::r)) with|.ok (k,t,v)=>x=(⟨k,t,v,i⟩,((i+(Gl (c::r)).length:Nat):Int),0)|.error e=>x.2.2=e∧e≠0:=by
 have hi:i<s.length:=by
  have:=congrArg List.length Z;simp only[FM,JF] at this;omega
 have h3:=QaB (n:=n) (s:=s) (i:=i) hs zo hn;have h4:=QaC (n:=n) (s:=s) (i:=i) hs zo hn;have t3:=RY s i BM zo;have t4:=RY s i Hr zo;have hr:(c::r).length=s.length-i:=by rw[←Z];simp
 have ab:=Gm (c::r) BM;have aa:=Gm (c::r) Hr;rw[Z] at h3 h4 t3 t4;unfold LZ dS;rw[hg];simp only[Zg,Bool.false_eq_true,if_false,if_neg hc,h3,h4,Zj,Int.toNat_natCast,t3,t4];cases c1:qO c
 ·cases c2:Hr c
  ·cases c3:jU c
   ·refine⟨_,rfl,?_⟩;simp[Gl,c1,c2,c3,FC]
   ·simp only[Bool.false_eq_true,if_false,if_true];rw[ZP (x:=(i:Int)+1) zo zo];have G:sliceB (i:Int) ((i:Int)+1) s.length=true:=by simp only[sliceB];rw[KJ];omega
    rw[G];refine⟨_,rfl,?_⟩
    have ht:List.drop i (List.take (i+1) s)=[c]:=by
     rw[List.drop_take,Z,show i+1-i=1 from by omega];rfl
    simp[Gl,c1,c2,c3,FC,ht]
  ·have Y:=Lr (c::r) Hr;have hne:(c::r).takeWhile Hr≠[]:=by simp[c2]
   have J:((c::r).takeWhile Hr).head?=some c:=by simp[c2]
   have G:sliceB (i:Int) ((i+((c::r).takeWhile Hr).length:Nat):Int) s.length=true:=by simp only[sliceB];rw[KJ];omega
   rw[QaD n _ hn zo Y hne,G];simp only[Bool.false_eq_true,if_false,if_true,J,Option.mem_def,Q0,forall_eq'];have W:Gl (c::r)=(c::r).takeWhile Hr:=by simp[Gl,c1,c2]
   have O:FC ((c::r).takeWhile Hr)=if 1<((c::r).takeWhile Hr).length∧Z5 c=48 then .error 7 else match C9 0 ((c::r).takeWhile Hr) with|some v=>.ok (2,[],v)|none=>.error 3:=by
    have:(c::r).takeWhile Hr=c::r.takeWhile Hr:=by simp[c2]
    rw[this];simp[FC,c1,c2]<;>rfl
   rw[W,O];by_cases U:1<((c::r).takeWhile Hr).length∧Z5 c=48
   ·rw[if_pos U,if_pos U];exact⟨_,rfl,rfl,by decide⟩
   ·rw[if_neg U,if_neg U];cases hv:C9 0 ((c::r).takeWhile Hr) with
   |none=>exact⟨_,rfl,rfl,by decide⟩
   |some v=>exact⟨_,rfl,rfl⟩
 ·have W:Gl (c::r)=(c::r).takeWhile BM:=by simp[Gl,c1]
  have O:FC ((c::r).takeWhile BM)=if 12<((c::r).takeWhile BM).length then .error 3 else .ok (1,(c::r).takeWhile BM,0):=by
   have:(c::r).takeWhile BM=c::r.takeWhile BM:=by simp[BM,c1]
   rw[this];simp[FC,c1]
  have G:sliceB (i:Int) ((i+((c::r).takeWhile BM).length:Nat):Int) s.length=true:=by simp only[sliceB];rw[KJ];omega
  rw[W,O,G,ZP (x:=((i+((c::r).takeWhile BM).length:Nat):Int)-i) zo zo];simp only[if_true,QV];by_cases U:12<((c::r).takeWhile BM).length
  ·rw[if_pos U,KJ (show(12:Int)<((i+((c::r).takeWhile BM).length:Nat):Int)-i by omega)];exact⟨_,rfl,rfl,by decide⟩
  ·rw[if_neg U,Ki (show ¬(12:Int)<((i+((c::r).takeWhile BM).length:Nat):Int)-i by omega)];exact⟨_,rfl,rfl⟩
def Kt:Bool→List UInt8→Nat|_,[]=>0|true,c::r=>if Z5 c=10 then 1+Kt false r else 1+Kt true r|false,c::r=>if Z5 c=35 then 1+Kt true r else if Om c then 1+Kt false r else 0
def He:Nat→Nat→List UInt8→Nat→Except (Int×Nat) (List Zq)
|0,p,_,_=>.error (0,p)
|f+1,p,s,k=>match s.drop (Kt false s) with
 |[]=>.ok []
 |c::r=>if k=2000 then .error (2,p+Kt false s) else match FC (Gl (c::r)) with
  |.error e=>.error (e,p+Kt false s)
  |.ok (G,x,v)=>match He f (p+Kt false s+(Gl (c::r)).length) ((c::r).drop (Gl (c::r)).length) (k+1) with
   |.ok l=>.ok (⟨G,x,v,(p+Kt false s:Nat)⟩::l)
   |.error e=>.error e
def jV(acc:List Zq):Except (Int×Nat) (List Zq)→List Zq×Int×Int|.ok l=>(acc++l,0,0)|.error (e,p)=>([],e,p)
theorem NV:∀(l:List UInt8) (b:Bool),Kt b l≤l.length
|[],b=>by cases b<;>simp[Kt]
|c::r,true=>by
  have J:=NV r false;have G:=NV r true;unfold Kt;simp only[JF];split<;>omega
|c::r,false=>by
  have J:=NV r false;have G:=NV r true;unfold Kt;simp only[JF];split
  ·omega
  ·split<;>omega
theorem jW(s:List UInt8):(Gl s).length≤s.length:=by
 cases s with
|nil=>simp[Gl]
|cons c r =>
  show(if qO c=true then(c::r).takeWhile BM else if Hr c=true then(c::r).takeWhile Hr else if jU c=true then[c] else[]).length≤_;split
  ·exact Gm _ _
  ·split
   ·exact Gm _ _
   ·split
    ·simp
    ·simp
theorem qQ{k:Int}{x:List UInt8}(h:FC (Gl s)=.ok (k,x,v)):0<(Gl s).length:=by
 cases ht:Gl s with
|nil=>rw[ht] at h;cases h
|cons c r=>simp
theorem uW(f p k:Nat)(g r:List UInt8)(h:Kt false (g++r)=g.length+Kt false r):He (f+1) p (g++r) k=He (f+1) (p+g.length) r k:=by
 have G:(g++r).drop (Kt false (g++r))=r.drop (Kt false r):=by
  rw[h,←List.drop_drop,List.drop_left]
 unfold He;rw[G,h,show p+(g.length+Kt false r)=p+g.length+Kt false r from by omega]
theorem nu(g r:List UInt8)(h:g.all Om=true):Kt false (g++r)=g.length+Kt false r:=by
 induction g with
|nil=>simp
|cons c g G =>
  simp only[List.all_cons,Z8] at h;have hc:=of_decide_eq_true (show decide (Z5 c=32∨Z5 c=9∨Z5 c=10)=true from h.1);simp only[List.cons_append,Kt,JF];rw[if_neg zo,if_pos h.1,G h.2];omega
theorem ru(g r:List UInt8)(h:g.all (fun c=>!decide (Z5 c=10))=true)(J:∀c∈r.head?,Z5 c=10):Kt true (g++r)=g.length+Kt false r:=by
 induction g with
|nil =>
  cases r with
 |nil=>simp[Kt]
 |cons c r =>
   have hc:Z5 c=10:=J c rfl;simp only[List.nil_append,Kt,List.length_nil,Nat.zero_add];rw[if_pos hc,if_neg zo,if_pos (by simp[Om,hc])]
|cons c g G =>
  simp only[List.all_cons,Z8,Bool.not_eq_true',decide_eq_false_iff_not] at h;simp only[List.cons_append,Kt,JF];rw[if_neg h.1,G (by simpa using h.2)];omega
theorem FK(l:List UInt8)(p:UInt8→Bool):l=l.takeWhile p++l.dropWhile p:=(List.takeWhile_append_dropWhile).symm
theorem Hf(l:List UInt8)(p:UInt8→Bool):∀c∈(l.dropWhile p).head?,p c=false:=by
 induction l with
|nil=>intro c h;cases h
|cons a l J =>
  intro c h;by_cases G:p a=true
  ·rw[List.dropWhile_cons,if_pos G] at h;exact J c h
  ·rw[List.dropWhile_cons,if_neg G] at h;simp at h;subst h;simpa using G
theorem Hg(s:List UInt8)(i:Nat)(p:UInt8→Bool):s.drop (i+((s.drop i).takeWhile p).length)=(s.drop i).dropWhile p:=by
 rw[←List.drop_drop];generalize s.drop i=l
 induction l with
|nil=>rfl
|cons c l G =>
  by_cases h:p c=true
  ·simp[h,G]
  ·simp[h]
theorem yn:∀(f G p k:Nat) (s:List UInt8),s.length<f→s.length<G→He f p s k=He G p s k
|0,_,_,_,_,h,_=>absurd h (Nat.not_lt_zero _)
|_,0,_,_,_,_,h=>absurd h (Nat.not_lt_zero _)
|f+1,G+1,p,k,s,h,h'=>by
  unfold He;cases hd:s.drop (Kt false s) with
 |nil=>rfl
 |cons c r =>
   simp only;cases ht:FC (Gl (c::r)) with
  |error e=>rfl
  |ok x =>
    obtain⟨U,x,v⟩:=x;have hp:=qQ ht;have O:(c::r).length≤s.length:=by rw[←hd];simp
    have J:((c::r).drop (Gl (c::r)).length).length<s.length:=by
     rw[FM];have:=jW (c::r);omega
    simp only;rw[yn f G _ _ _ zo zo]
theorem Qdw(n:Nat)(s:List UInt8)(hs:s.length≤8100)(hn:10000≤n):∀(m j i:Nat) (acc:List Zq),s.length-i≤m→m<j→i≤s.length→acc.length≤2000 →
  QB (fun J (v:List Zq×Int)=>WG n s J v.1 v.2) j (acc,(i:Int))=some (jV acc (He (s.length+1) i (s.drop i) acc.length)):=by
 intro m
 induction m with
|zero =>
  intro j i acc h1 h2 h3 h4;obtain⟨j,rfl⟩:∃j',j=j'+1:=⟨j-1,by omega⟩;unfold QB;show WG n s _ acc (i:Int)=_;unfold WG;simp only[QV,Qb];rw[Ki zo,Kk,List.drop_eq_nil_of_le zo];simp[He,Kt,jV]
|succ m ih =>
  intro j i acc h1 h2 h3 h4;obtain⟨j,rfl⟩:∃j',j=j'+1:=⟨j-1,by omega⟩;have U:=fun i acc a b c=>ih j i acc a zo b c
  unfold QB;generalize QB (fun J (v:List Zq×Int)=>WG n s J v.1 v.2) j=L at U ⊢;show WG n s L acc (i:Int)=_;unfold WG;simp only[QV,Qb];by_cases hi:i=s.length
  ·rw[Ki zo,Kk,List.drop_eq_nil_of_le zo];simp[He,Kt,jV]
  rw[KJ zo,Kj];have G:=List.drop_eq_getElem_cons (show i<s.length by omega);have hx:s[i]?=some s[i]:=List.getElem?_eq_getElem zo;generalize hc:s[i]=c at G hx;generalize hr:s.drop (i+1)=r at G;rw[ZW,hx,Zj,Qdv,Zj,Zg,Zg];by_cases k1:Om c=true
  ·have hk:dS c=1:=by unfold dS;rw[if_pos k1]
   rw[hk,KJ rfl,Kj,Qaz hs h3 hn,Zj];have ad:0<((s.drop i).takeWhile Om).length:=by rw[G];simp[k1]
   have W:=Gm (s.drop i) Om;rw[FM] at W;rw[U _ acc zo zo h4,Hg];congr 2;have O:=FK (s.drop i) Om;rw[O];rw[←O];have:=uW s.length i acc.length ((s.drop i).takeWhile Om) ((s.drop i).dropWhile Om) (nu _ _ (Lr _ _));rw[←O] at this;exact this.symm
  have ae:dS c≠1:=by
   unfold dS;rw[if_neg k1];split
   ·decide
   ·split
    ·decide
    ·split
     ·decide
     ·split<;>decide
  rw[Ki ae,Kk];by_cases k2:Z5 c=35
  ·have hk:dS c=2:=by unfold dS;rw[if_neg k1,if_pos k2]
   rw[hk,KJ rfl,Kj,QaA hs h3 hn,Zj];have Z:(!decide (Z5 c=10))=true:=by rw[k2];rfl
   have ad:0<((s.drop i).takeWhile (fun c=>!decide (Z5 c=10))).length:=by rw[G,List.takeWhile_cons,if_pos Z];simp
   have W:=Gm (s.drop i) (fun c=>!decide (Z5 c=10));rw[FM] at W;rw[U _ acc zo zo h4,Hg];congr 2;have O:=FK (s.drop i) (fun c=>!decide (Z5 c=10))
   have hg:Kt false ((s.drop i).takeWhile (fun c=>!decide (Z5 c=10))++(s.drop i).dropWhile (fun c=>!decide (Z5 c=10)))=((s.drop i).takeWhile (fun c=>!decide (Z5 c=10))).length+Kt false ((s.drop i).dropWhile (fun c=>!decide (Z5 c=10))):=by
    have ac:=Hf (s.drop i) (fun c=>!decide (Z5 c=10));have aa:=Lr (s.drop i) (fun c=>!decide (Z5 c=10));generalize (s.drop i).dropWhile (fun c=>!decide (Z5 c=10))=q at ac ⊢;rw[G,List.takeWhile_cons,if_pos Z] at aa ⊢;simp only[List.all_cons,Z8] at aa;have:=ru _ q aa.2 (fun c hc=>by simpa using ac c hc);simp only[List.cons_append,Kt,JF];rw[if_pos k2,this];omega
   have:=uW s.length i acc.length _ _ hg;rw[←O] at this;exact this.symm
  have ai:dS c≠2:=by
   unfold dS;rw[if_neg k1,if_neg k2];split
   ·decide
   ·split
    ·decide
    ·split<;>decide
  rw[Ki ai,Kk,Zg,WB];have af:Kt false (c::r)=0:=by unfold Kt;rw[if_neg k2,if_neg k1]
  have ah:∀f,He (f+1) i (c::r) acc.length=if acc.length=2000 then .error (2,i) else match FC (Gl (c::r)) with
  |.error e=>.error (e,i)
  |.ok (kk,x,v)=>match He f (i+(Gl (c::r)).length) ((c::r).drop (Gl (c::r)).length) (acc.length+1) with
   |.ok l=>.ok (⟨kk,x,v,(i:Nat)⟩::l)
   |.error e=>.error e:=by
   intro f
   conv=>lhs;unfold He
   rw[af];rfl
  rw[G,ah];by_cases k3:acc.length=2000
  ·rw[KJ zo,Kj,if_pos k3];rfl
  rw[Ki zo,Kk,if_neg k3];obtain⟨x,e1,Y⟩:=QaE n s i c r hs hn G (by simpa using k1) k2;rw[e1,Zj,Zg];cases ht:FC (Gl (c::r)) with
 |error e =>
   rw[ht] at Y;simp only at Y;rw[Ki (show ¬x.2.2=0 from by rw[Y.1];exact Y.2),Bool.not_false,Kj,Y.1];rfl
 |ok y =>
   obtain⟨kk,t,v⟩:=y;rw[ht] at Y;simp only at Y;subst Y;have hp:=qQ ht;have W:=jW (c::r);have aj:(c::r).length=s.length-i:=by rw[←G];simp
   rw[KJ rfl,Bool.not_true,Kk];have ab:QI (List.length (acc++[(⟨kk,t,v,i⟩:Zq)])) 40=true:=by simp[QI];omega
   simp only[ab,Kj];rw[U _ _ zo zo (by simp;omega)];have hd2:s.drop (i+(Gl (c::r)).length)=(c::r).drop (Gl (c::r)).length:=by rw[←List.drop_drop,G]
   rw[hd2,yn (s.length+1) s.length _ _ _ (by rw[FM];omega) (by rw[FM];omega)];simp only[X4,JF,List.length_nil];cases He s.length (i+(Gl (c::r)).length) ((c::r).drop (Gl (c::r)).length) (acc.length+(0+1)) with
  |error e=>rfl
  |ok l=>simp[jV]
def Ce(s:List UInt8):Except (Int×Nat) (List Zq):=if 8000<s.length then .error (2,0) else He (s.length+1) 0 s 0
theorem Qff(n:Nat)(s:List UInt8)(G:10000≤n):Ny n s=some (jV [] (Ce s)):=by
 unfold Ny Ce;simp only[QV,Qb];by_cases h:8000<s.length
 ·rw[KJ zo,Kj,if_pos h];rfl
 ·rw[Ki zo,Kk,if_neg h];exact Qdw n s zo G s.length n 0 [] zo zo zo zq
theorem SH(f p k:Nat)(s:List UInt8)(c:UInt8)(r:List UInt8)(G:s.drop (Kt false s)=c::r):He (f+1) p s k=if k=2000 then .error (2,p+Kt false s) else match FC (Gl (c::r)) with
     |.error e=>.error (e,p+Kt false s)
     |.ok (J,x,v)=>match He f (p+Kt false s+(Gl (c::r)).length) ((c::r).drop (Gl (c::r)).length) (k+1) with
       |.ok l=>.ok (⟨J,x,v,(p+Kt false s:Nat)⟩::l)
       |.error e=>.error e:=by
  conv=>lhs;unfold He
  rw[G]
  all_goals rfl
theorem qU(f p k:Nat)(s:List UInt8)(G:s.drop (Kt false s)=[]):He (f+1) p s k=.ok []:=by
 unfold He;rw[G]
def Rj:Bool→List UInt8→Option Bool|b,[]=>some b|true,c::r=>if Z5 c=10 then Rj false r else Rj true r|false,c::r=>if Z5 c=35 then Rj true r else if Om c then Rj false r else none
def Ed(t r:List UInt8):Bool:=match t,r with
|c::_,d::_=>if qO c then !BM d else if Hr c then !Hr d else true
|_,_=>true
def X8(t:List UInt8):Bool:=match t with
|[]=>false
|c::r=>if qO c then(c::r).all BM else if Hr c then(c::r).all Hr else jU c&&r.isEmpty
inductive Lx:Nat→List UInt8→List Zq→Prop
|nil {p:Nat} {g:List UInt8} {b:Bool}:Rj false g=some b→Lx p g []
|cons {p:Nat} {g t r:List UInt8} {l:List Zq} {k v:Int} {x:List UInt8}:Rj false g=some false→X8 t=true→FC t=.ok (k,x,v)→Ed t r=true→Lx (p+g.length+t.length) r l →
   Lx p (g++(t++r)) (⟨k,x,v,(p+g.length:Nat)⟩::l)
theorem SI:∀(g:List UInt8) (b G:Bool),Rj b g=some G→Kt b g=g.length
|[],b,G,h=>by cases b<;>simp[Kt]
|c::r,true,G,h=>by
  unfold Rj at h;unfold Kt;split at h
  ·rename_i hc;rw[if_pos hc,SI r false G h];simp;omega
  ·rename_i hc;rw[if_neg hc,SI r true G h];simp;omega
|c::r,false,G,h=>by
  unfold Rj at h;unfold Kt;split at h
  ·rename_i hc;rw[if_pos hc,SI r true G h];simp;omega
  ·rename_i hc;split at h
   ·rename_i J;rw[if_neg hc,if_pos J,SI r false G h];simp;omega
   ·cases h
theorem Tv:∀(g r:List UInt8) (b G:Bool),Rj b g=some G→Kt b (g++r)=g.length+Kt G r
|[],r,b,G,h=>by simp[Rj] at h;subst h;simp
|c::g,r,true,G,h=>by
  simp only[List.cons_append,JF];unfold Rj at h
  conv=>lhs;unfold Kt
  split at h
  ·rename_i hc;rw[if_pos hc,Tv g r false G h];omega
  ·rename_i hc;rw[if_neg hc,Tv g r true G h];omega
|c::g,r,false,G,h=>by
  simp only[List.cons_append,JF];unfold Rj at h
  conv=>lhs;unfold Kt
  split at h
  ·rename_i hc;rw[if_pos hc,Tv g r true G h];omega
  ·rename_i hc;rw[if_neg hc];split at h
   ·rename_i J;rw[if_pos J,Tv g r false G h];omega
   ·cases h
theorem GA:∀(s:List UInt8) (b:Bool),∃G,Rj b (s.take (Kt b s))=some G∧(s.drop (Kt b s)≠[]→G=false)
|[],b=>⟨b,by cases b<;>simp[Kt,Rj],fun h=>absurd zq h⟩
|c::r,true=>by
  unfold Kt;by_cases hc:Z5 c=10
  ·obtain⟨G,O,J⟩:=GA r false;rw[if_pos hc];refine⟨G,?_,?_⟩
   ·rw[Nat.add_comm,List.take_succ_cons];unfold Rj;rw[if_pos hc];exact O
   ·rw[Nat.add_comm,List.drop_succ_cons];exact J
  ·obtain⟨G,O,J⟩:=GA r true;rw[if_neg hc];refine⟨G,?_,?_⟩
   ·rw[Nat.add_comm,List.take_succ_cons];unfold Rj;rw[if_neg hc];exact O
   ·rw[Nat.add_comm,List.drop_succ_cons];exact J
|c::r,false=>by
  unfold Kt;by_cases hc:Z5 c=35
  ·obtain⟨G,O,J⟩:=GA r true;rw[if_pos hc];refine⟨G,?_,?_⟩
   ·rw[Nat.add_comm,List.take_succ_cons];unfold Rj;rw[if_pos hc];exact O
   ·rw[Nat.add_comm,List.drop_succ_cons];exact J
  ·rw[if_neg hc];by_cases U:Om c=true
   ·obtain⟨G,O,J⟩:=GA r false;rw[if_pos U];refine⟨G,?_,?_⟩
    ·rw[Nat.add_comm,List.take_succ_cons];unfold Rj;rw[if_neg hc,if_pos U];exact O
    ·rw[Nat.add_comm,List.drop_succ_cons];exact J
   ·rw[if_neg U];exact⟨false,rfl,fun _=>rfl⟩
theorem ry(h:qO c=true):Z5 c≠35∧Om c=false∧Hr c=false∧jU c=false:=by
 have h:=of_decide_eq_true (show decide (97≤Z5 c∧Z5 c≤122)=true from h);exact⟨by omega,Ki zo,Ki zo,Ki zo⟩
theorem rz(h:Hr c=true):Z5 c≠35∧Om c=false∧qO c=false∧jU c=false:=by
 have h:=of_decide_eq_true (show decide (48≤Z5 c∧Z5 c≤57)=true from h);exact⟨by omega,Ki zo,Ki zo,Ki zo⟩
theorem rA(h:jU c=true):Z5 c≠35∧Om c=false∧qO c=false∧Hr c=false:=by
 have h:=of_decide_eq_true (show decide (Z5 c=59∨Z5 c=123∨Z5 c=125)=true from h);exact⟨by omega,Ki zo,Ki zo,Ki zo⟩
theorem Ba{t:List UInt8}(h:X8 t=true):∃c q,t=c::q∧Z5 c≠35∧Om c=false:=by
 cases t with
|nil=>cases h
|cons c q =>
  refine⟨c,q,rfl,?_⟩;unfold X8 at h;simp only at h;split at h
  ·rename_i J;exact⟨(ry J).1,(ry J).2.1⟩
  ·split at h
   ·rename_i G;exact⟨(rz G).1,(rz G).2.1⟩
   ·simp only[Z8] at h;exact⟨(rA h.1).1,(rA h.1).2.1⟩
theorem ny{t:List UInt8}(h:X8 t=true)(r:List UInt8):Kt false (t++r)=0:=by
 obtain⟨c,q,rfl,G,J⟩:=Ba h;simp only[List.cons_append,Kt];rw[if_neg G,if_neg (by rw[J];decide)]
theorem NW{p:UInt8→Bool}:∀(a r:List UInt8),a.all p=true→(∀d∈r.head?,p d=false)→(a++r).takeWhile p=a
|[],r,_,G=>by
  cases r with
 |nil=>rfl
 |cons d r=>simp[G d rfl]
|c::a,r,h,G=>by
  simp only[List.all_cons,Z8] at h;simp[h.1,NW a r h.2 G]
theorem rC{t r:List UInt8}(h:X8 t=true)(hs:Ed t r=true):Gl (t++r)=t:=by
 cases t with
|nil=>cases h
|cons c q =>
  unfold X8 at h;simp only at h;have e:Gl (c::q++r)=if qO c=true then(c::q++r).takeWhile BM else if Hr c=true then(c::q++r).takeWhile Hr else if jU c=true then[c] else[]:=rfl
  rw[e];split at h
  ·rename_i J;rw[if_pos J];refine NW _ _ h fun d G=>?_
   cases r with
  |nil=>cases G
  |cons U r =>
    simp only[List.head?_cons,Option.mem_def,Q0] at G;subst G;simpa [Ed,J] using hs
  ·rename_i J;rw[if_neg J];split at h
   ·rename_i O;rw[if_pos O];refine NW _ _ h fun d G=>?_
    cases r with
   |nil=>cases G
   |cons U r =>
     simp only[List.head?_cons,Option.mem_def,Q0] at G;subst G;simpa [Ed,J,O] using hs
   ·rename_i O;simp only[Z8,List.isEmpty_iff] at h;rw[if_neg O,if_pos h.1,h.2]
theorem rD(h:Gl s≠[]):X8 (Gl s)=true∧Ed (Gl s) (s.drop (Gl s).length)=true∧s=Gl s++s.drop (Gl s).length:=by
 cases s with
|nil=>exact absurd rfl h
|cons c r =>
  have e:Gl (c::r)=if qO c=true then(c::r).takeWhile BM else if Hr c=true then(c::r).takeWhile Hr else if jU c=true then[c] else[]:=rfl
  rw[e] at h ⊢
  have hw:∀(p:UInt8→Bool) (l:List UInt8),l.drop (l.takeWhile p).length=l.dropWhile p:=by
   intro p l;have:=Hg l 0 p;simpa using this
  by_cases G:qO c=true
  ·have Y:BM c=true:=by simp[BM,G]
   have hc:(c::r).takeWhile BM=c::r.takeWhile BM:=by simp[Y]
   rw[if_pos G] at h ⊢;rw[hw];have U:=Lr (c::r) BM;have O:=Hf (c::r) BM;refine⟨?_,?_,FK _ _⟩
   ·rw[hc] at U ⊢;unfold X8;simp only[G,if_true];exact U
   ·rw[hc];cases hq:(c::r).dropWhile BM with
   |nil=>rfl
   |cons d q =>
     rw[hq] at O;have:=O d rfl;simp[Ed,G,this]
  ·rw[if_neg G] at h ⊢;by_cases J:Hr c=true
   ·have hc:(c::r).takeWhile Hr=c::r.takeWhile Hr:=by simp[J]
    rw[if_pos J] at h ⊢;rw[hw];have U:=Lr (c::r) Hr;have O:=Hf (c::r) Hr;refine⟨?_,?_,FK _ _⟩
    ·rw[hc] at U ⊢;unfold X8;simp only[G,J,if_true,Bool.false_eq_true,if_false];exact U
    ·rw[hc];cases hq:(c::r).dropWhile Hr with
    |nil=>rfl
    |cons d q =>
      rw[hq] at O;have:=O d rfl;simp[Ed,G,J,this]
   ·rw[if_neg J] at h ⊢;by_cases W:jU c=true
    ·rw[if_pos W];refine⟨by simp[X8,G,J,W],?_,rfl⟩;cases r with
    |nil=>rfl
    |cons d q=>simp[Ed,G,J]
    ·rw[if_neg W] at h;exact absurd rfl h
theorem uX:∀(f p k:Nat) (s:List UInt8) (l:List Zq),He f p s k=.ok l→k≤2000→Lx p s l∧k+l.length≤2000
|0,_,_,_,_,h,_=>by cases h
|f+1,p,k,s,l,h,Y=>by
  obtain⟨b,g1,g2⟩:=GA s false;cases hd:s.drop (Kt false s) with
 |nil =>
   rw[qU _ _ _ _ hd] at h;cases h
   have:s.take (Kt false s)=s:=by
    have:=List.take_append_drop (Kt false s) s;rw[hd,List.append_nil] at this;exact this
   rw[this] at g1;exact⟨.nil g1,by simp;exact Y⟩
 |cons c r =>
   have hb:=g2 (by rw[hd];simp);subst hb;rw[SH _ _ _ _ c r hd] at h;split at h
   ·cases h
   rename_i U;cases ht:FC (Gl (c::r)) with
  |error e=>rw[ht] at h;cases h
  |ok y =>
    obtain⟨kk,x,v⟩:=y;rw[ht] at h;simp only at h;cases hl:He f (p+Kt false s+(Gl (c::r)).length) ((c::r).drop (Gl (c::r)).length) (k+1) with
   |error e=>rw[hl] at h;cases h
   |ok l' =>
     rw[hl] at h;simp only[Except.ok.injEq] at h;subst h;obtain⟨Z,h2⟩:=uX f _ _ _ _ hl zo;have hne:Gl (c::r)≠[]:=fun e=>by rw[e] at ht;cases ht
     obtain⟨J,O,W⟩:=rD hne
     have G:(s.take (Kt false s)).length=Kt false s:=by
      rw[List.length_take];have:=NV s false;omega
     have hs:s=s.take (Kt false s)++(Gl (c::r)++(c::r).drop (Gl (c::r)).length):=by
      rw[←W,←hd,List.take_append_drop]
     refine⟨?_,by simp only[JF];omega⟩;have:=Lx.cons (p:=p) (g:=s.take (Kt false s)) (l:=l') g1 J ht O (by rw[G];exact Z);rw[←hs,G] at this;exact this
theorem QaF:∀{p:Nat} {s:List UInt8} {l:List Zq},Lx p s l→∀(f k:Nat),(k+l.length≤2000∨2000<k)→s.length<f→He f p s k=.ok l:=by
 intro p s l h
 induction h with
|nil G =>
  intro f k _ hf;obtain⟨f,rfl⟩:∃U,f=U+1:=⟨f-1,by omega⟩;refine qU _ _ _ _ ?_;rw[SI _ _ _ G,List.drop_length]
|@cons p g t r l k v x G hw ht O hl Z =>
  intro f k' hk hf;obtain⟨f,rfl⟩:∃U,f=U+1:=⟨f-1,by omega⟩;have Y:Kt false (g++(t++r))=g.length:=by rw[Tv g _ _ _ G,ny hw];rfl
  obtain⟨c,q,rfl,_⟩:=Ba hw;have hd:(g++(c::q++r)).drop (Kt false (g++(c::q++r)))=c::(q++r):=by rw[Y,List.drop_left];rfl
  have W:Gl (c::(q++r))=c::q:=rC hw O;rw[SH _ _ _ _ _ _ hd,Y,W,ht];have J:(c::(q++r)).drop (c::q).length=r:=List.drop_left (l₁:=c::q);simp only[X4,JF] at hf hk;rw[J,if_neg zo,Z f (k'+1) zo zo]
theorem SK(s:List UInt8)(l:List Zq):Ce s=.ok l↔s.length≤8000∧Lx 0 s l∧l.length≤2000:=by
 unfold Ce;constructor
 ·intro h;split at h
  ·cases h
  ·rename_i O;obtain⟨G,J⟩:=uX _ _ _ _ _ h zo;exact⟨by omega,G,by omega⟩
 ·rintro⟨G,J,U⟩;rw[if_neg zo];exact QaF J _ _ (.inl zo) zo
theorem Qfg{p:Nat}{l:List Zq}(h:Lx p s l):(∀t∈l,(p:Int)≤t.At∧t.At<((p+s.length:Nat):Int))∧l.Pairwise (fun a b=>a.At<b.At):=by
 induction h with
|nil W=>exact⟨fun t U=>(by cases U),List.Pairwise.nil⟩
|@cons p g t r l k v y W hw U Y Z J =>
  obtain⟨c,q,hc,_⟩:=Ba hw;have O:0<t.length:=by rw[hc];simp
  simp only[X4];refine⟨fun x G=>?_,List.Pairwise.cons (fun x G=>?_) J.2⟩
  ·rcases List.mem_cons.1 G with rfl|G
   ·simp only;omega
   ·have:=J.1 x G;omega
  ·have:=J.1 x G;simp only;omega
def EL(w:List UInt8):Bool:=(YO 0 w).getD false
def qV(w:List UInt8):Bool:=(KQ 0 w).getD false
def QaG(w:List UInt8):Bool:=(Vd 0 w).getD false
def Rk(w:List UInt8):Int:=(VJ 0 w).getD 0
theorem yo(n:Nat)(w:List UInt8):YO n w=some (EL w):=by
 unfold EL YO;simp only[QF,Zj,Option.getD_some]
theorem yt(n:Nat)(w:List UInt8):KQ n w=some (qV w):=by
 unfold qV KQ;simp only[QF,Zj,Option.getD_some]
theorem rE(n:Nat)(w:List UInt8):Vd n w=some (QaG w):=by
 unfold QaG Vd;simp only[QF,Zj,Option.getD_some]
theorem yu(n:Nat)(w:List UInt8):VJ n w=some (Rk w):=by
 unfold Rk VJ;simp only[QF,Option.getD_some]
theorem SL(n:Nat)(w:List UInt8):Xk n w=some (!Cc w):=by
 unfold Xk;rw[uR,Zj]
def qW(len:Int):Zq:=⟨0,[],0,len⟩
def pk(len:Int)(r:List Zq):Zq:=r.head?.getD (qW len)
theorem QcM(len:Int):pk len (T.drop i)=(T[i]?).getD (qW len):=by
 unfold pk;rw[List.head?_drop]
theorem SN(n:Nat)(T:List Zq)(i:Nat)(len:Int)(d:List Za):XT n (⟨T,(i:Int),len,d⟩:Kc)=some (pk len (T.drop i)):=by
 unfold XT;rw[QcM];simp only[QV,Qb,WB];by_cases h:i<T.length
 ·rw[KJ zo,Kj,ZW,List.getElem?_eq_getElem h];rfl
 ·rw[Ki zo,Kk,List.getElem?_eq_none zo];rfl
theorem Hw(n:Nat)(T:List Zq)(i:Nat)(len:Int)(d:List Za):K7 n (⟨T,(i:Int),len,d⟩:Kc)=some (pk len (T.drop i)):=by
 unfold K7;rw[QcM];simp only[QV,Qb,WB];by_cases h:i<T.length
 ·rw[KJ zo,Kj,ZW,List.getElem?_eq_getElem h];rfl
 ·rw[Ki zo,Kk,List.getElem?_eq_none zo];rfl
theorem rF(n:Nat)(T:List Zq)(i:Nat)(len:Int)(d:List Za):L8 n (⟨T,(i:Int),len,d⟩:Kc)=some (.error (pk len (T.drop i)).At):=by
 unfold L8;rw[SN,Zj]
theorem E9(n:Nat)(T:List Zq)(i:Nat)(len:Int)(d:List Za):Jj n (⟨T,(i:Int),len,d⟩:Kc)=some (.error (pk len (T.drop i)).At):=by
 unfold Jj;rw[Hw,Zj]
def okV(w:Bool)(t:Zq):Bool:=decide (t.Kind=2)||(decide (t.Kind=1)&&(!Cc t.Text||w&&QaG t.Text))
def SS(t:Zq):GN:=if t.Kind=2 then⟨6,[],t.N,t.At,[]⟩ else⟨5,t.Text,0,t.At,[]⟩
def yw(t:Zq):List PV:=GN.cs (SS t)
theorem Qfh(w:Bool)(len:Int):okV w (qW len)=false:=by simp[okV,qW]
theorem SV(w:Bool)(T:List Zq)(len:Int)(B:(List (List PV)×Int→Option (List (List PV)×Kc))→List (List PV)×Int→Option (List (List PV)×Kc))(hT:T.length≤2100)(Z:∀rec acc (i:Nat),acc.length≤2100→B rec (acc,(i:Int))=if okV w (pk len (T.drop i)) then rec (acc++[yw (pk len (T.drop i))],wi ((i:Int)+1)) else some (acc,(⟨T,(i:Int),len,[]⟩:Kc))) :
  ∀(m j i:Nat) (acc:List (List PV)),T.length-i≤m→m<j→i≤T.length→acc.length≤i →
   QB B j (acc,(i:Int))=some (acc++((T.drop i).takeWhile (okV w)).map yw,(⟨T,((i+((T.drop i).takeWhile (okV w)).length:Nat):Int),len,[]⟩:Kc)):=by
 intro m
 induction m with
|zero =>
  intro j i acc h1 h2 h3 Y;obtain⟨j,rfl⟩:∃U,j=U+1:=⟨j-1,by omega⟩;unfold QB;have hd:T.drop i=[]:=List.drop_eq_nil_of_le zo;rw[Z _ _ _ zo,hd];have:okV w (pk len [])=false:=Qfh w len;rw[this];simp
|succ m W =>
  intro j i acc h1 h2 h3 Y;obtain⟨j,rfl⟩:∃U,j=U+1:=⟨j-1,by omega⟩;by_cases hi:i=T.length
  ·exact W (j+1) i acc zo zo h3 Y
  unfold QB;have G:=List.drop_eq_getElem_cons (show i<T.length by omega);generalize T[i]'zo=t at G;generalize hr:T.drop (i+1)=r at G;rw[Z _ _ _ zo,G];have O:pk len (t::r)=t:=rfl;rw[O];by_cases J:okV w t=true
  ·rw[if_pos J,ZP (x:=(i:Int)+1) zo zo,show((i:Int)+1)=((i+1:Nat):Int) from by omega,W j (i+1) _ zo zo zo (by simp;omega),hr];simp only[List.takeWhile_cons,J,if_true,WV,JF,List.append_assoc,List.singleton_append];rw[show i+1+(r.takeWhile (okV w)).length=i+((r.takeWhile (okV w)).length+1) from by omega]
  ·rw[if_neg J];simp[J]
theorem rG(n:Nat)(T:List Zq)(i:Nat)(len:Int)(d:List Za)(W:T.length≤2100)(hi:i≤T.length)(Z:10000≤n) :
  Uy n (⟨T,(i:Int),len,d⟩:Kc)=some (((T.drop i).takeWhile (okV false)).map yw,(⟨T,((i+((T.drop i).takeWhile (okV false)).length:Nat):Int),len,[]⟩:Kc)):=by
 unfold Uy
 have:=SV false T len (fun G (v:List (List PV)×Int)=>WS n (⟨T,(i:Int),len,d⟩:Kc) G v.1 v.2) W (fun rec acc i Y=>by
  show WS n _ rec acc (i:Int)=_;unfold WS;simp only[SN,Zj,Zg,SL,QF];generalize pk len (T.drop i)=t;have J:∀x:List PV,QI (List.length (acc++[x])) 64=true:=by intro x;simp[QI];omega
  simp only[J,Kj];unfold okV yw SS;by_cases O:t.Kind=2
  ·simp[O]
  ·by_cases U:t.Kind=1
   ·cases Cc t.Text<;>simp[U]
   ·simp[U,O]) T.length n i [] zo zo hi zq
 exact this
theorem nA(n:Nat)(T:List Zq)(i:Nat)(len:Int)(d:List Za)(W:T.length≤2100)(hi:i≤T.length)(Z:10000≤n) :
  XU n (⟨T,(i:Int),len,d⟩:Kc)=some (((T.drop i).takeWhile (okV true)).map yw,(⟨T,((i+((T.drop i).takeWhile (okV true)).length:Nat):Int),len,[]⟩:Kc)):=by
 unfold XU
 have:=SV true T len (fun G (v:List (List PV)×Int)=>Vi n (⟨T,(i:Int),len,d⟩:Kc) G v.1 v.2) W (fun rec acc i Y=>by
  show Vi n _ rec acc (i:Int)=_;unfold Vi J7;simp only[SN,Zj,Zg,SL,rE,QF];generalize pk len (T.drop i)=t;have J:∀x:List PV,QI (List.length (acc++[x])) 64=true:=by intro x;simp[QI];omega
  simp only[J,Kj];unfold okV yw SS;by_cases O:t.Kind=2
  ·simp[O]
  ·by_cases U:t.Kind=1
   ·cases Cc t.Text<;>cases QaG t.Text<;>simp[U]
   ·simp[U,O]) T.length n i [] zo zo hi zq
 exact this
def Yr:List Zq→List UInt8×Nat|[]=>([],0)|t::r=>if t.Kind=3∧t.Text≠[123] then(t.Text,1) else((Yr r).1,(Yr r).2+1)
theorem O6(t:Zq)(r:List Zq):Yr (t::r)=if t.Kind=3∧t.Text≠[123] then(t.Text,1) else((Yr r).1,(Yr r).2+1):=rfl
theorem Sd:∀l:List Zq,(Yr l).2≤l.length
|[]=>by simp[Yr]
|t::r=>by
  have:=Sd r;unfold Yr;split<;>simp only[JF]<;>omega
theorem rH(n:Nat)(T:List Zq)(i:Nat)(len:Int)(d:List Za)(hT:T.length≤2100)(hi:i≤T.length)(hn:10000≤n) :
  L9 n (⟨T,(i:Int),len,d⟩:Kc)=some ((Yr (T.drop i)).1,(⟨T,((i+(Yr (T.drop i)).2:Nat):Int),len,[]⟩:Kc)):=by
 unfold L9
 have key:∀(m j G:Nat),T.length-G≤m→m<j→G≤T.length→QB (fun J l1=>Wx (⟨T,(i:Int),len,d⟩:Kc) J l1) j (G:Int)=some ((Yr (T.drop G)).1,(⟨T,((G+(Yr (T.drop G)).2:Nat):Int),len,[]⟩:Kc)):=by
  intro m
  induction m with
 |zero =>
   intro j G h1 h2 O;obtain⟨j,rfl⟩:∃Y,j=Y+1:=⟨j-1,by omega⟩;unfold QB;unfold Wx;simp only[QV,Qb,WB];rw[Ki zo,Kk,List.drop_eq_nil_of_le zo];rfl
 |succ m ih =>
   intro j G h1 h2 O;obtain⟨j,rfl⟩:∃Y,j=Y+1:=⟨j-1,by omega⟩;by_cases hi:G=T.length
   ·exact ih (j+1) G zo zo O
   have U:=ih j (G+1) zo zo zo;unfold QB;generalize QB (fun J l1=>Wx (⟨T,(i:Int),len,d⟩:Kc) J l1) j=L at U ⊢;show Wx _ L (G:Int)=_;unfold Wx;simp only[QV,Qb,WB];have W:=List.drop_eq_getElem_cons (show G<T.length by omega);have hx:T[G]?=some T[G]:=List.getElem?_eq_getElem zo;generalize T[G]=t at W hx;rw[KJ zo,Kj,ZW,hx,Zj,W,Zg,QF,Zj,ZP (x:=(G:Int)+1) zo zo,show((G:Int)+1)=((G+1:Nat):Int) from by omega,U];rw[O6];by_cases h:t.Kind=3∧t.Text≠[123]
   ·have:(bif decide (t.Kind=3) then !Qs t.Text [123] else false)=true:=by
     rw[KJ h.1];simp[Qs,h.2]
    rw[this,Kj,if_pos h]
   ·have:(bif decide (t.Kind=3) then !Qs t.Text [123] else false)=false:=by
     by_cases O:t.Kind=3
     ·have Z:t.Text=[123]:=Classical.byContradiction fun Z=>h ⟨O,Z⟩
      rw[Z,KJ O];rfl
     ·rw[Ki O];rfl
    rw[this,Kk,if_neg h];simp only;rw[show G+1+(Yr (T.drop (G+1))).2=G+((Yr (T.drop (G+1))).2+1) from by omega]
 exact key T.length n i zo zo hi
def X9(c:UInt8)(t:Zq):Bool:=decide (t.Kind=3∧t.Text=[c])
def WU(w:Bool)(r:List Zq):List Zq:=r.takeWhile (okV w)
def Tz(len:Int)(r:List Zq):Except (Int×Nat) (GN×Nat) :=if(pk len r).Kind=1∧qV (pk len r).Text=true then if X9 59 (pk len (r.drop (1+(WU true (r.drop 1)).length))) then .ok (⟨4,(pk len r).Text,0,(pk len r).At,(WU true (r.drop 1)).map yw⟩,2+(WU true (r.drop 1)).length) else .error ((pk len (r.drop (1+(WU true (r.drop 1)).length))).At,1+(WU true (r.drop 1)).length) else .error ((pk len r).At,0)
def VH:Nat→List Zq→List (List PV)×Nat|0,_=>([],0)|_+1,[]=>([],0)|f+1,t::q=>if t.Kind=1∧EL t.Text=true then(GN.cs ⟨3,t.Text,0,t.At,(WU false q).map yw⟩::(VH f (q.drop (WU false q).length)).1,1+(WU false q).length+(VH f (q.drop (WU false q).length)).2) else([],0)
def YU:Nat→Int→List Za→List Zq→List (List PV)×Nat×List Za
|0,_,ds,_=>([],0,ds)
|f+1,len,ds,r=>if 20≤ds.length then([],0,ds) else if X9 125 (pk len r) then([],1,ds) else match Tz len r with
 |.ok (x,k)=>let z:=YU f len ds (r.drop k);(GN.cs x::z.1,k+z.2.1,z.2.2)
 |.error (e,k)=>let m:=Yr (r.drop k)
   if m.1≠[59] then([],k+m.2,ds++[⟨7,e⟩]) else
    let z:=YU f len (ds++[⟨7,e⟩]) (r.drop (k+m.2));(z.1,k+m.2+z.2.1,z.2.2)
def UO(len:Int)(ds:List Za)(r:List Zq):Except (Int×Nat) (GN×Nat×List Za) :=
 if(pk len r).Kind=1∧Rk (pk len r).Text≠0 then
  if(pk len (r.drop 1)).Kind=1∧Cc (pk len (r.drop 1)).Text=false then
   let a:=VH (r.length+1) (r.drop 2)
   let t:=pk len (r.drop (2+a.2))
   if Rk (pk len r).Text=7 then
    if X9 123 t then
     let z:=YU (r.length+1) len ds (r.drop (3+a.2));.ok (⟨2,(pk len (r.drop 1)).Text,7,(pk len r).At,a.1++z.1⟩,3+a.2+z.2.1,z.2.2)
    else .error (t.At,2+a.2)
   else if X9 59 t then .ok (⟨2,(pk len (r.drop 1)).Text,Rk (pk len r).Text,(pk len r).At,a.1⟩,3+a.2,ds)
    else .error (t.At,2+a.2)
  else .error ((pk len (r.drop 1)).At,1)
 else .error ((pk len r).At,0)
def K5:Nat→Int→List Za→List Zq→List (List PV)×List Za
|0,_,ds,_=>([],ds)
|f+1,len,ds,r=>if r=[]∨20≤ds.length then([],ds) else match UO len ds r with
 |.ok (x,k,G)=>let z:=K5 f len G (r.drop k);(GN.cs x::z.1,z.2)
 |.error (e,k)=>K5 f len (ds++[⟨7,e⟩]) (r.drop (k+(Yr (r.drop k)).2))
theorem QaH(c:UInt8)(t:Zq):(bif decide (t.Kind=3) then Qs t.Text [c] else false)=X9 c t:=by
 unfold X9 Qs;by_cases h:t.Kind=3
 ·by_cases G:t.Text=[c]<;>simp[h,G]
 ·simp[h]
theorem jX(c:UInt8)(t:Zq):(bif decide (t.Kind=0) then true else !X9 c t)=!X9 c t:=by
 by_cases h:t.Kind=0
 ·have:X9 c t=false:=by unfold X9;rw[Ki];rintro⟨G,_⟩;omega
  rw[this,KJ h];rfl
 ·rw[Ki h];rfl
theorem UQ(r:List Zq)(w:Bool):(WU w r).length≤r.length:=(List.takeWhile_prefix (okV w)).length_le
theorem KE(T:List Zq)(i k:Nat):T.drop (i+k)=(T.drop i).drop k:=(List.drop_drop ..).symm
theorem nC(n:Nat)(T:List Zq)(i:Nat)(len:Int)(hT:T.length≤2100)(hi:i≤T.length)(Z:10000≤n) :
  U5 n (⟨T,(i:Int),len,[]⟩:Kc)=some (match Tz len (T.drop i) with
  |.ok (x,k)=>.ok (x,(⟨T,((i+k:Nat):Int),len,[]⟩:Kc))
  |.error (e,k)=>.error (e,(⟨T,((i+k:Nat):Int),len,[]⟩:Kc))):=by
 unfold U5;simp only[SN,Zj,Zg,yt,QF,rF,FE];unfold Tz;generalize W:pk len (T.drop i)=t;by_cases J:t.Kind=1∧qV t.Text=true;rotate_left
 ·rw[if_neg J]
  have:(bif decide (t.Kind=0) then true else !bif decide (t.Kind=1) then qV t.Text else false)=true:=by
   by_cases a:t.Kind=1
   ·have b:qV t.Text=false:=by
     cases hb:qV t.Text
     ·rfl
     ·exact absurd ⟨a,hb⟩ J
    rw[b,KJ a,Ki zo];rfl
   ·rw[Ki a];cases decide (t.Kind=0)<;>rfl
  rw[this,Kj];simp
 rw[if_pos J]
 have hlt:i<T.length:=by
  apply Classical.byContradiction;intro h;rw[List.drop_eq_nil_of_le zo] at W;rw[←W] at J;exact absurd J.1 (by simp[pk,qW])
 have hb:(bif decide (t.Kind=0) then true else !bif decide (t.Kind=1) then qV t.Text else false)=false:=by
  rw[Ki zo,KJ J.1,J.2];rfl
 rw[hb,Kk];unfold YC;simp only[ZP (x:=(i:Int)+1) zo zo];rw[show((i:Int)+1)=((i+1:Nat):Int) from by omega,nA n T (i+1) len [] hT zo Z,Zj];have O:=UQ (T.drop (i+1)) true;rw[FM] at O;have Y:(T.drop (i+1)).takeWhile (okV true)=WU true ((T.drop i).drop 1):=by rw[KE];rfl
 rw[Y];rw[KE T i 1] at O;generalize WU true ((T.drop i).drop 1)=v at O ⊢;have G:QI (List.length (v.map yw)) 64=true:=by simp[QI];omega
 simp only[G,Kj,Zj,List.nil_append];rw[SN,Zj];have U:T.drop (i+1+v.length)=(T.drop i).drop (1+v.length):=by rw[Nat.add_assoc,KE]
 rw[U];simp only[Zg,QF,Zj,QaH,jX,rF,U];unfold YB;cases hp:X9 59 (pk len ((T.drop i).drop (1+v.length)))
 ·simp only[Bool.not_false,Kj,FE];rw[show i+1+v.length=i+(1+v.length) from by omega];simp
 ·simp only[Bool.not_true,Kk,if_true];rw[ZP (x:=((i+1+v.length:Nat):Int)+1) zo zo,show(((i+1+v.length:Nat):Int)+1)=((i+(2+v.length):Nat):Int) from by omega]
theorem QaI(T:List Zq)(len:Int)(hT:T.length≤2100)(B:(List (List PV)×List Zq×Int×Int×Int×List UInt8×Int×Int→Option (List (List PV)×List Zq×Int×Int))→List (List PV)×List Zq×Int×Int×Int×List UInt8×Int×Int→Option (List (List PV)×List Zq×Int×Int))(hB:∀rec acc (i:Nat) (t:Zq),acc.length≤2100→i≤T.length→B rec (acc,T,(i:Int),len,t.Kind,t.Text,t.N,t.At)=if t.Kind=1∧EL t.Text=true then
    (if i<T.length then rec (acc++[GN.cs (⟨3,t.Text,0,t.At,(WU false (T.drop (i+1))).map yw⟩:GN)],T,((i+1+(WU false (T.drop (i+1))).length:Nat):Int),len,(pk len (T.drop (i+1+(WU false (T.drop (i+1))).length))).Kind,(pk len (T.drop (i+1+(WU false (T.drop (i+1))).length))).Text,(pk len (T.drop (i+1+(WU false (T.drop (i+1))).length))).N,(pk len (T.drop (i+1+(WU false (T.drop (i+1))).length))).At) else B rec (acc,T,(i:Int),len,t.Kind,t.Text,t.N,t.At)) else some (acc,T,(i:Int),len)) :
  ∀(m j i f:Nat) (acc:List (List PV)),T.length-i≤m→m<j→i≤T.length→acc.length≤i→T.length-i<f →
   QB B j (acc,T,(i:Int),len,(pk len (T.drop i)).Kind,(pk len (T.drop i)).Text,(pk len (T.drop i)).N,(pk len (T.drop i)).At)=some (acc++(VH f (T.drop i)).1,T,((i+(VH f (T.drop i)).2:Nat):Int),len):=by
 intro m
 induction m with
|zero =>
  intro j i f acc h1 h2 J h4 Z;obtain⟨j,rfl⟩:∃U,j=U+1:=⟨j-1,by omega⟩;obtain⟨f,rfl⟩:∃W,f=W+1:=⟨f-1,by omega⟩;unfold QB;rw[hB _ _ _ _ zo J,List.drop_eq_nil_of_le zo];rw[if_neg (by simp[pk,qW])];simp[VH]
|succ m ih =>
  intro j i f acc h1 h2 J h4 Z;by_cases hi:i=T.length
  ·exact ih j i f acc zo zo J h4 Z
  obtain⟨j,rfl⟩:∃U,j=U+1:=⟨j-1,by omega⟩;obtain⟨f,rfl⟩:∃W,f=W+1:=⟨f-1,by omega⟩;unfold QB;rw[hB _ _ _ _ zo J];have G:=List.drop_eq_getElem_cons (show i<T.length by omega);generalize T[i]'zo=t at G;have O:pk len (T.drop i)=t:=by rw[G];rfl
  rw[O];have Y:=UQ (T.drop (i+1)) false;rw[FM] at Y;by_cases h:t.Kind=1∧EL t.Text=true
  ·rw[if_pos h,if_pos zo,ih j _ f _ zo zo zo (by simp;omega) zo,G]
   have e:VH (f+1) (t::T.drop (i+1))=(GN.cs ⟨3,t.Text,0,t.At,(WU false (T.drop (i+1))).map yw⟩::(VH f ((T.drop (i+1)).drop (WU false (T.drop (i+1))).length)).1,1+(WU false (T.drop (i+1))).length+(VH f ((T.drop (i+1)).drop (WU false (T.drop (i+1))).length)).2):=by
    conv=>lhs;unfold VH
    rw[if_pos h]
   rw[e,←KE T (i+1)];simp only[List.append_assoc,List.singleton_append];rw[show i+1+(WU false (T.drop (i+1))).length+(VH f (T.drop (i+1+(WU false (T.drop (i+1))).length))).2=i+(1+(WU false (T.drop (i+1))).length+(VH f (T.drop (i+1+(WU false (T.drop (i+1))).length))).2) from by omega]
  ·rw[if_neg h,G]
   have e:VH (f+1) (t::T.drop (i+1))=([],0):=by
    conv=>lhs;unfold VH
    rw[if_neg h]
   rw[e];simp
theorem O7:∀(f G:Nat) (r:List Zq),r.length<f→r.length<G→VH f r=VH G r
|0,_,_,h,_=>absurd h (Nat.not_lt_zero _)
|_,0,_,_,h=>absurd h (Nat.not_lt_zero _)
|f+1,G+1,[],_,_=>rfl
|f+1,G+1,t::q,h,h'=>by
  unfold VH;have:(q.drop (WU false q).length).length≤q.length:=by rw[FM];omega
  simp only[JF] at h h';rw[O7 f G _ zo zo]
theorem Sg:∀(f:Nat) (r:List Zq),(VH f r).2≤r.length
|0,_=>by simp[VH]
|f+1,[]=>by simp[VH]
|f+1,t::q=>by
  have G:=Sg f (q.drop (WU false q).length);have J:=UQ q false;rw[FM] at G;unfold VH;split
  ·simp only[JF];omega
  ·simp
theorem yx:∀(f:Nat) (r:List Zq),(VH f r).1.length≤(VH f r).2
|0,_=>by simp[VH]
|f+1,[]=>by simp[VH]
|f+1,t::q=>by
  have G:=yx f (q.drop (WU false q).length);unfold VH;split
  ·simp only[JF];omega
  ·simp
theorem uY(n:Nat)(T:List Zq)(i:Nat)(len:Int)(W:Kc)(Y:T.length≤2100)(hi:i≤T.length)(hn:10000≤n) :
  QB (fun G (v:List (List PV)×List Zq×Int×Int×Int×List UInt8×Int×Int)=>Vw n W G v.1 v.2.1 v.2.2.1 v.2.2.2.1 v.2.2.2.2.1 v.2.2.2.2.2.1 v.2.2.2.2.2.2.1 v.2.2.2.2.2.2.2) n ([],T,(i:Int),len,(pk len (T.drop i)).Kind,(pk len (T.drop i)).Text,(pk len (T.drop i)).N,(pk len (T.drop i)).At)=some ((VH (T.length-i+1) (T.drop i)).1,T,((i+(VH (T.length-i+1) (T.drop i)).2:Nat):Int),len):=by
 refine QaI T len Y _ ?_ T.length n i _ [] zo zo hi zq zo;intro rec acc i t ha hi;show Vw n W rec acc T (i:Int) len t.Kind t.Text t.N t.At=_;by_cases hc:t.Kind=1∧EL t.Text=true;rotate_left
 ·rw[if_neg hc];unfold Vw;simp only[Zg,yo,Zj,QF]
  have:(bif decide (t.Kind=1) then EL t.Text else false)=false:=by
   by_cases a:t.Kind=1
   ·cases hb:EL t.Text
    ·simp
    ·exact absurd ⟨a,hb⟩ hc
   ·rw[Ki a];rfl
  rw[this,Kk]
 rw[if_pos hc];by_cases hlt:i<T.length;rotate_left
 ·rw[if_neg hlt]
 rw[if_pos hlt];unfold Vw;simp only[Zg,yo,Zj,QF];rw[KJ hc.1,hc.2,Kj,Kj,ZP (x:=(i:Int)+1) zo zo,show((i:Int)+1)=((i+1:Nat):Int) from by omega,rG n T (i+1) len [] Y zo hn,Zj];have U:=UQ (T.drop (i+1)) false;rw[FM] at U;have Z:(T.drop (i+1)).takeWhile (okV false)=WU false (T.drop (i+1)):=rfl;rw[Z];generalize WU false (T.drop (i+1))=v at U ⊢;have O:QI (List.length (v.map yw)) 64=true:=by simp[QI];omega
 have J:∀x:List PV,QI (List.length (acc++[x])) 64=true:=by intro x;simp[QI];omega
 simp only[O,J,Kj,Zj,List.nil_append,Hw]
theorem rJ(n:Nat)(T:List Zq)(i:Nat)(len:Int)(O:Kc)(hT:T.length≤2100)(hi:i≤T.length)(hn:10000≤n) :
  QB (fun J (v:List (List PV)×List Zq×Int×Int×Int×List UInt8×Int×Int)=>U6 n O J v.1 v.2.1 v.2.2.1 v.2.2.2.1 v.2.2.2.2.1 v.2.2.2.2.2.1 v.2.2.2.2.2.2.1 v.2.2.2.2.2.2.2) n ([],T,(i:Int),len,(pk len (T.drop i)).Kind,(pk len (T.drop i)).Text,(pk len (T.drop i)).N,(pk len (T.drop i)).At)=some ((VH (T.length-i+1) (T.drop i)).1,T,((i+(VH (T.length-i+1) (T.drop i)).2:Nat):Int),len):=by
 have e:∀G Z v2 v3 v4 v5 Y W U,U6 n O G Z v2 v3 v4 v5 Y W U=Vw n O G Z v2 v3 v4 v5 Y W U:=fun _ _ _ _ _ _ _ _ _=>rfl
 simp only[e];exact uY n T i len O hT hi hn
theorem BQ{o:Option α}{f:α→Option β}{x:α}{b:Option β}(h:o=some x)(G:f x=b):o.bind f=b:=by
 rw[h];exact G
theorem rM(n:Nat)(r:Kc):L6 n r=some (decide (20≤r.dg.length)):=by
 unfold L6;simp only[leI,Qb,WB];rw[show decide ((20:Int)≤(r.dg.length:Int))=decide (20≤r.dg.length) from decide_eq_decide.2 zo]
theorem QaJ(n:Nat)(w:List UInt8):Ff n w=some (!decide (Rk w=0)):=by
 unfold Ff;simp only[yu,Zj,Zg]
theorem rO(t:Zq)(b:Bool):(bif decide (t.Kind=0) then true else !bif decide (t.Kind=1) then b else false)=!(decide (t.Kind=1)&&b):=by
 by_cases h:t.Kind=0
 ·rw[KJ h,Ki (show ¬t.Kind=1 by omega)];rfl
 ·rw[Ki h];cases decide (t.Kind=1)<;>rfl
theorem CG{j:Nat}(h:X9 c (pk len (r.drop j))=true):j<r.length:=by
 apply Classical.byContradiction;intro G;rw[List.drop_eq_nil_of_le zo] at h;exact absurd (of_decide_eq_true h).1 (by simp[pk,qW])
theorem SX{j:Nat}(h:(pk len (r.drop j)).Kind=1):j<r.length:=by
 apply Classical.byContradiction;intro G;rw[List.drop_eq_nil_of_le zo] at h;exact absurd h (by simp[pk,qW])
theorem uZ(h:Tz len r=.ok (x,k)):2≤k∧k≤r.length:=by
 unfold Tz at h;split at h
 ·split at h
  ·rename_i G;simp only[Except.ok.injEq,XA] at h;have:=CG G;omega
  ·cases h
 ·cases h
theorem SY{e:Int}(h:Tz len r=.error (e,k)):k≤r.length:=by
 unfold Tz at h;split at h
 ·rename_i G;have h0:0<r.length:=SX (j:=0) (len:=len) G.1;split at h
  ·cases h
  ·simp only[Except.error.injEq,XA] at h;have:=UQ (r.drop 1) true;rw[FM] at this;omega
 ·simp only[Except.error.injEq,XA] at h;omega
theorem yz{l:List Zq}(h:l≠[]):1≤(Yr l).2:=by
 cases l with
|nil=>exact absurd rfl h
|cons t r=>rw[O6];split<;>simp
theorem QaK{l:List Zq}(h:(Yr l).1≠[]):l≠[]:=by rintro rfl;exact h rfl
theorem nD(n:Nat)(T:List Zq)(len:Int)(pre:List (List PV))(Y:T.length≤2100)(hp:pre.length≤2100)(W:10000≤n)(rec:(List (List PV)×List Zq×Int×Int×List Za)→Option (List (List PV)×List Zq×Int×Int×List Za))(acc:List (List PV))(i:Nat)(ds:List Za)(hi:i≤T.length)(ha:acc.length≤i)(Z:ds.length≤20) :
  Vu n pre rec acc T (i:Int) len ds=if 20≤ds.length then some (pre++acc,T,(i:Int),len,ds) else if X9 125 (pk len (T.drop i)) then some (pre++acc,T,((i+1:Nat):Int),len,ds) else match Tz len (T.drop i) with
  |.ok (x,k)=>rec (acc++[GN.cs x],T,((i+k:Nat):Int),len,ds)
  |.error (e,k)=>if(Yr ((T.drop i).drop k)).1≠[59] then some (pre++acc,T,((i+(k+(Yr ((T.drop i).drop k)).2):Nat):Int),len,ds++[⟨7,e⟩]) else rec (acc,T,((i+(k+(Yr ((T.drop i).drop k)).2):Nat):Int),len,ds++[⟨7,e⟩]):=by
 have U:QI (pre.length+acc.length) 64=true:=by simp[QI];omega
 have O:QI (acc.length+1) 64=true:=by simp[QI];omega
 have J:QI (ds.length+1) 16=true:=by simp[QI];omega
 unfold Vu Jv;simp only[rM,Zj,Hw,Zg,QF,QaH,List.nil_append,List.append_nil,X4,U,Kj,List.length_singleton,O,J];by_cases hf:20≤ds.length
 ·rw[KJ hf,if_pos hf];rfl
 rw[Ki hf,if_neg hf];simp only[Bool.not_false,Kj];cases hb:X9 125 (pk len (T.drop i));rotate_left
 ·simp only[Kj,if_true];have:=CG hb;rw[ZP (x:=(i:Int)+1) zo zo];rfl
 simp only[Kk,Bool.false_eq_true,if_false];rw[nC n T i len Y hi W];cases hA:Tz len (T.drop i) with
|ok y =>
  obtain⟨x,k⟩:=y;simp only[Zj,FE,Kj]
|error y =>
  obtain⟨e,k⟩:=y;have hk:=SY hA;rw[FM] at hk;simp only[Zj,FE];rw[rH n T (i+k) len [] Y zo W];simp only[Zj,Kk];rw[KE];generalize Yr ((T.drop i).drop k)=m;rw[show i+k+m.2=i+(k+m.2) from by omega];by_cases G:m.1=[59]
  ·rw[if_neg (by simpa using G),show Qs m.1 [59]=true from by simp[Qs,G]];rfl
  ·rw[if_pos G,show Qs m.1 [59]=false from by simp[Qs,G]];rfl
theorem rP(n:Nat)(T:List Zq)(len:Int)(pre:List (List PV))(hT:T.length≤2100)(hp:pre.length≤2100)(hn:10000≤n) :
  ∀(j i f:Nat) (acc:List (List PV)) (ds:List Za),T.length-i<j→i≤T.length→acc.length≤i→ds.length≤20→T.length-i<f →
   QB (fun G (v:List (List PV)×List Zq×Int×Int×List Za)=>Vu n pre G v.1 v.2.1 v.2.2.1 v.2.2.2.1 v.2.2.2.2) j (acc,T,(i:Int),len,ds)=some (pre++(acc++(YU f len ds (T.drop i)).1),T,((i+(YU f len ds (T.drop i)).2.1:Nat):Int),len,(YU f len ds (T.drop i)).2.2):=by
 intro j
 induction j with
|zero=>intro i f acc ds h;omega
|succ j O =>
  intro i f acc ds h1 Y Z W h5;obtain⟨f,rfl⟩:∃f',f=f'+1:=⟨f-1,by omega⟩
  have e:YU (f+1) len ds (T.drop i)=if 20≤ds.length then([],0,ds) else if X9 125 (pk len (T.drop i)) then([],1,ds) else match Tz len (T.drop i) with
  |.ok (x,k)=>let z:=YU f len ds ((T.drop i).drop k);(GN.cs x::z.1,k+z.2.1,z.2.2)
  |.error (e,k)=>let m:=Yr ((T.drop i).drop k)
    if m.1≠[59] then([],k+m.2,ds++[⟨7,e⟩]) else
     let z:=YU f len (ds++[⟨7,e⟩]) ((T.drop i).drop (k+m.2));(z.1,k+m.2+z.2.1,z.2.2):=rfl
  unfold QB;generalize QB (fun G (v:List (List PV)×List Zq×Int×Int×List Za)=>Vu n pre G v.1 v.2.1 v.2.2.1 v.2.2.2.1 v.2.2.2.2) j=L at O ⊢;show Vu n pre L acc T (i:Int) len ds=_;rw[nD n T len pre hT hp hn L acc i ds Y Z W,e];by_cases hf:20≤ds.length
  ·simp[if_pos hf]
  rw[if_neg hf,if_neg hf];by_cases hb:X9 125 (pk len (T.drop i))=true
  ·simp[if_pos hb]
  rw[if_neg hb,if_neg hb];cases hA:Tz len (T.drop i) with
 |ok y =>
   obtain⟨x,k⟩:=y;have U:=uZ hA;rw[FM] at U;simp only;rw[O (i+k) f _ _ zo zo (by simp;omega) W zo,KE];simp only[List.append_assoc,List.singleton_append];rw[show i+k+(YU f len ds ((T.drop i).drop k)).2.1=i+(k+(YU f len ds ((T.drop i).drop k)).2.1) from by omega]
 |error y =>
   obtain⟨e,k⟩:=y;have U:=SY hA;rw[FM] at U;simp only;have hs:=Sd ((T.drop i).drop k);rw[FM,FM] at hs;by_cases J:(Yr ((T.drop i).drop k)).1≠[59]
   ·rw[if_pos J,if_pos J];simp
   ·rw[if_neg J,if_neg J];have hne:=yz (QaK (l:=(T.drop i).drop k) (by rw[Classical.not_not.1 J];simp));generalize Yr ((T.drop i).drop k)=m at hs hne;rw[O (i+(k+m.2)) f _ _ zo zo zo (by simp;omega) zo,KE];simp only;rw[show i+(k+m.2)+(YU f len (ds++[⟨7,e⟩]) ((T.drop i).drop (k+m.2))).2.1=i+(k+m.2+(YU f len (ds++[⟨7,e⟩]) ((T.drop i).drop (k+m.2))).2.1) from by omega]
theorem S9:∀(f:Nat) (len:Int) (ds:List Za) (r:List Zq),(YU f len ds r).2.1≤r.length∧(YU f len ds r).1.length≤(YU f len ds r).2.1∧(ds.length≤20→(YU f len ds r).2.2.length≤20)
|0,_,_,r=>by simp[YU]
|f+1,len,ds,r=>by
  have e:YU (f+1) len ds r=if 20≤ds.length then([],0,ds) else if X9 125 (pk len r) then([],1,ds) else match Tz len r with
  |.ok (x,k)=>let z:=YU f len ds (r.drop k);(GN.cs x::z.1,k+z.2.1,z.2.2)
  |.error (e,k)=>let m:=Yr (r.drop k)
    if m.1≠[59] then([],k+m.2,ds++[⟨7,e⟩]) else
     let z:=YU f len (ds++[⟨7,e⟩]) (r.drop (k+m.2));(z.1,k+m.2+z.2.1,z.2.2):=rfl
  rw[e];by_cases hf:20≤ds.length
  ·simp[if_pos hf]
  rw[if_neg hf];by_cases hb:X9 125 (pk len r)=true
  ·have:0<r.length:=CG (j:=0) hb;rw[if_pos hb];exact⟨this,by simp,fun h=>h⟩
  rw[if_neg hb];cases hA:Tz len r with
 |ok y =>
   obtain⟨x,k⟩:=y;have J:=uZ hA;have:=S9 f len ds (r.drop k);rw[FM] at this;simp only[JF];omega
 |error y =>
   obtain⟨e,k⟩:=y;have J:=SY hA;simp only;have hs:=Sd (r.drop k);rw[FM] at hs;generalize Yr (r.drop k)=m at hs;by_cases G:m.1≠[59]
   ·rw[if_pos G];simp;omega
   ·rw[if_neg G];have:=S9 f len (ds++[⟨7,e⟩]) (r.drop (k+m.2));rw[FM] at this;simp only[X4,List.length_singleton] at this ⊢;omega
theorem Qdx(n:Nat)(T:List Zq)(i:Nat)(len:Int)(ds:List Za)(hT:T.length≤2100)(hi:i≤T.length)(aa:ds.length≤20)(hn:10000≤n) :
  Dm n (⟨T,(i:Int),len,ds⟩:Kc)=some (match UO len ds (T.drop i) with
  |.ok (x,k,Z)=>.ok (x,(⟨T,((i+k:Nat):Int),len,Z⟩:Kc))
  |.error (e,k)=>.error (e,(⟨T,((i+k:Nat):Int),len,ds⟩:Kc))):=by
 unfold Dm;simp only[Hw,Zj,Zg,QaJ,QF,rO,E9,FE];unfold UO;have e0:pk len (T.drop i)=pk len ((T.drop i).drop 0):=rfl;by_cases W:(pk len (T.drop i)).Kind=1∧Rk (pk len (T.drop i)).Text≠0;rotate_left
 ·rw[if_neg W]
  have:(decide ((pk len (T.drop i)).Kind=1)&&!decide (Rk (pk len (T.drop i)).Text=0))=false:=by
   rw[Bool.eq_false_iff];intro h;simp only[Z8,Bg,Bool.not_eq_true',decide_eq_false_iff_not] at h;exact W h
  rw[this];rfl
 rw[if_pos W]
 have ac:i<T.length:=by
  have:=SX (len:=len) (r:=T) (j:=i) W.1;exact this
 have:(decide ((pk len (T.drop i)).Kind=1)&&!decide (Rk (pk len (T.drop i)).Text=0))=true:=by
  rw[KJ W.1,Ki W.2];rfl
 rw[this];simp only[Bool.not_true,Kk];unfold Wz;simp only;rw[ZP (x:=(i:Int)+1) zo zo,show((i:Int)+1)=((i+1:Nat):Int) from by omega];simp only[Hw,Zj,Zg,SL,QF,rO,E9,FE];rw[show T.drop (i+1)=(T.drop i).drop 1 from KE ..];by_cases U:(pk len ((T.drop i).drop 1)).Kind=1∧Cc (pk len ((T.drop i).drop 1)).Text=false;rotate_left
 ·rw[if_neg U]
  have:(decide ((pk len ((T.drop i).drop 1)).Kind=1)&&!Cc (pk len ((T.drop i).drop 1)).Text)=false:=by
   rw[Bool.eq_false_iff];intro h;simp only[Z8,Bg,Bool.not_eq_true'] at h;exact U h
  rw[this];rfl
 rw[if_pos U]
 have ad:i+1<T.length:=by
  have:=U.1;rw[←KE] at this;exact SX (len:=len) (r:=T) (j:=i+1) this
 have:(decide ((pk len ((T.drop i).drop 1)).Kind=1)&&!Cc (pk len ((T.drop i).drop 1)).Text)=true:=by
  rw[KJ U.1,U.2];rfl
 rw[this];simp only[Bool.not_true,Kk];unfold Wy;simp only[yu,Zj,Zg];rw[ZP (x:=(i:Int)+1) zo zo,show((i:Int)+1)=((i+1:Nat):Int) from by omega,ZP (x:=((i+1:Nat):Int)+1) zo zo,show(((i+1:Nat):Int)+1)=((i+2:Nat):Int) from by omega];have O:=uY n T (i+2) len ⟨T,(i:Int),len,ds⟩ hT zo hn;have J:=rJ n T (i+2) len ⟨T,(i:Int),len,ds⟩ hT zo hn;have hl:(T.drop i).length=T.length-i:=FM
 have hF:VH (T.length-(i+2)+1) (T.drop (i+2))=VH ((T.drop i).length+1) ((T.drop i).drop 2):=by
  rw[←KE,O7 _ ((T.drop i).length+1) _ (by rw[FM];omega) (by rw[FM];omega)]
 rw[hF] at O J;have ab:(VH ((T.drop i).length+1) ((T.drop i).drop 2)).2≤T.length-i-2:=Nat.le_trans (Sg ..) (by rw[FM,hl];omega);have Y:=yx ((T.drop i).length+1) ((T.drop i).drop 2);generalize VH ((T.drop i).length+1) ((T.drop i).drop 2)=a at O J ab Y ⊢;have G:QI (List.length a.1) 64=true:=by simp[QI];omega
 by_cases h7:Rk (pk len (T.drop i)).Text=7
 ·rw[KJ h7,Kj];simp only[Hw,Zj];refine BQ J ?_;show cond (QI (List.length ([]++a.1)) 64) _ _=_;rw[List.nil_append,G,Kj];simp only[Hw,Zj,QF,QaH,jX,E9,FE];rw[show T.drop (i+2+a.2)=(T.drop i).drop (2+a.2) from by rw[Nat.add_assoc,KE]];rw[if_pos h7];cases hp:X9 123 (pk len ((T.drop i).drop (2+a.2)))
  ·simp only[Bool.not_false,Kj];rw[show i+2+a.2=i+(2+a.2) from by omega];simp
  ·have hlt:=CG hp;simp only[Bool.not_true,Kk,if_true];unfold Vv;simp only[List.nil_append,List.append_nil,G,Kj];rw[ZP (x:=((i+2+a.2:Nat):Int)+1) zo zo,show(((i+2+a.2:Nat):Int)+1)=((i+(3+a.2):Nat):Int) from by omega];have hg:=rP n T len a.1 hT zo hn n (i+(3+a.2)) ((T.drop i).length+1) [] ds zo zo zq aa zo;refine BQ hg ?_;show Jk _ _ _ _ _ _ _ _=_;unfold Jk;rw[List.nil_append,KE,h7];generalize YU ((T.drop i).length+1) len ds ((T.drop i).drop (3+a.2))=z;rw[show i+(3+a.2)+z.2.1=i+(3+a.2+z.2.1) from by omega]
 ·rw[Ki h7,Kk];simp only[Hw,Zj];refine BQ O ?_;show cond (QI (List.length ([]++a.1)) 64) _ _=_;rw[List.nil_append,G,Kj];simp only[Hw,Zj,QF,QaH,jX,E9,FE];rw[show T.drop (i+2+a.2)=(T.drop i).drop (2+a.2) from by rw[Nat.add_assoc,KE]];rw[if_neg h7];cases hp:X9 59 (pk len ((T.drop i).drop (2+a.2)))
  ·simp only[Bool.not_false,Kj];rw[show i+2+a.2=i+(2+a.2) from by omega];simp
  ·have hlt:=CG hp;simp only[Bool.not_true,Kk,if_true];unfold Vx Jw;simp only[List.nil_append,List.append_nil,G,Kj];rw[ZP (x:=((i+2+a.2:Nat):Int)+1) zo zo,show(((i+2+a.2:Nat):Int)+1)=((i+(3+a.2):Nat):Int) from by omega]
theorem gp{p:α→Bool}(l:List α):∀x∈l.takeWhile p,p x=true:=by
 induction l with
|nil=>intro x G;cases G
|cons c r J =>
  intro x G;rw[List.takeWhile_cons] at G;split at G
  ·rename_i h;rcases List.mem_cons.1 G with rfl|G
   ·exact h
   ·exact J x G
  ·cases G
theorem O8{p:α→Bool}(l:List α):l=l.takeWhile p++l.drop (l.takeWhile p).length:=by
 induction l with
|nil=>rfl
|cons c r G =>
  rw[List.takeWhile_cons];split
  ·simp only[List.cons_append,JF,List.drop_succ_cons,List.cons.injEq,true_and];exact G
  ·rfl
inductive rQ:List Zq→GN→Prop
|mk {t e:Zq} {v:List Zq}:t.Kind=1→qV t.Text=true→(∀x∈v,okV true x=true)→X9 59 e=true→rQ (t::(v++[e])) ⟨4,t.Text,0,t.At,v.map yw⟩
inductive yA:List Zq→List (List PV)→Prop
|nil:yA [] []
|cons {t:Zq} {v r:List Zq} {xs:List (List PV)}:t.Kind=1→EL t.Text=true→(∀x∈v,okV false x=true)→yA r xs→yA (t::(v++r)) (GN.cs ⟨3,t.Text,0,t.At,v.map yw⟩::xs)
inductive jY:List Zq→List (List PV)→Prop
|nil {e:Zq}:X9 125 e=true→jY [e] []
|cons {a r:List Zq} {x:GN} {xs:List (List PV)}:rQ a x→jY r xs→jY (a++r) (GN.cs x::xs)
inductive O9:List Zq→GN→Prop
|plain {t m e:Zq} {a:List Zq} {xs:List (List PV)}:t.Kind=1→Rk t.Text≠0→Rk t.Text≠7→m.Kind=1→Cc m.Text=false→yA a xs→X9 59 e=true→O9 (t::m::(a++[e])) ⟨2,m.Text,Rk t.Text,t.At,xs⟩
|tariff {t m e:Zq} {a b:List Zq} {xs ys:List (List PV)}:t.Kind=1→Rk t.Text=7→m.Kind=1→Cc m.Text=false→yA a xs→X9 123 e=true→jY b ys→O9 (t::m::(a++e::b)) ⟨2,m.Text,7,t.At,xs++ys⟩
inductive BR:List Zq→List (List PV)→Prop
|nil:BR [] []
|cons {a r:List Zq} {x:GN} {xs:List (List PV)}:O9 a x→BR r xs→BR (a++r) (GN.cs x::xs)
theorem QaL{t:Zq}(h:X9 c t=true):t.Kind=3∧t.Text=[c]:=of_decide_eq_true h
theorem BU(len:Int)(t:Zq)(r:List Zq):pk len (t::r)=t:=rfl
theorem BV(a b:List α)(k:Nat)(h:k=a.length):(a++b).drop k=b:=by subst h;exact List.drop_left
theorem Qdy(h:Tz len r=.ok (x,k)):∃a q,r=a++q∧a.length=k∧rQ a x:=by
 unfold Tz at h;split at h
 ·rename_i J;split at h
  ·rename_i G;simp only[Except.ok.injEq,XA] at h;obtain⟨rfl,rfl⟩:=h;have h0:0<r.length:=SX (j:=0) (len:=len) J.1;cases r with
  |nil=>exact absurd h0 zq
  |cons t r =>
    simp only[BU,List.drop_succ_cons,List.drop_zero] at J G ⊢;rw[Nat.add_comm 1,List.drop_succ_cons] at G;have hs:=O8 (p:=okV true) r;have O:=gp (p:=okV true) r;unfold WU at G ⊢;generalize r.takeWhile (okV true)=v at hs O G ⊢;cases hq:r.drop v.length with
   |nil=>rw[hq] at G;exact absurd (QaL G).1 (by simp[pk,qW])
   |cons e q =>
     rw[hq,BU] at G;rw[hq] at hs;refine⟨t::(v++[e]),q,by rw[hs];simp,by simp;omega,.mk J.1 J.2 O G⟩
  ·cases h
 ·cases h
theorem rR:∀(f:Nat) (r:List Zq),r.length<f→∃a q,r=a++q∧a.length=(VH f r).2∧yA a (VH f r).1∧∀d∈q.head?,¬(d.Kind=1∧EL d.Text=true)
|0,_,h=>absurd h (Nat.not_lt_zero _)
|f+1,[],_=>⟨[],[],rfl,rfl,.nil,fun d G=>by cases G⟩
|f+1,t::r,hf=>by
  have e:VH (f+1) (t::r)=if t.Kind=1∧EL t.Text=true then
   (GN.cs ⟨3,t.Text,0,t.At,(WU false r).map yw⟩::(VH f (r.drop (WU false r).length)).1,1+(WU false r).length+(VH f (r.drop (WU false r).length)).2)
   else([],0):=rfl
  rw[e];simp only[JF] at hf;by_cases h:t.Kind=1∧EL t.Text=true
  ·rw[if_pos h];have hs:=O8 (p:=okV false) r;have J:=gp (p:=okV false) r;unfold WU;generalize r.takeWhile (okV false)=v at hs J ⊢;obtain⟨a,q,Y,O,W,U⟩:=rR f (r.drop v.length) (by rw[FM];omega);refine⟨t::(v++a),q,?_,?_,.cons h.1 h.2 J W,U⟩
   ·rw[hs,Y];simp
   ·simp only[JF,X4,O];omega
  ·rw[if_neg h];exact⟨[],t::r,rfl,rfl,.nil,fun d G=>by simp only[List.head?_cons,Option.mem_def,Q0] at G;subst G;exact h⟩
theorem qX(f:Nat)(len:Int)(ds:List Za)(r:List Zq):YU (f+1) len ds r=if 20≤ds.length then([],0,ds) else if X9 125 (pk len r) then([],1,ds) else match Tz len r with
     |.ok (x,k)=>let z:=YU f len ds (r.drop k);(GN.cs x::z.1,k+z.2.1,z.2.2)
     |.error (e,k)=>let m:=Yr (r.drop k)
        if m.1≠[59] then([],k+m.2,ds++[⟨7,e⟩]) else
          let z:=YU f len (ds++[⟨7,e⟩]) (r.drop (k+m.2));(z.1,k+m.2+z.2.1,z.2.2):=rfl
theorem Rl:∀(f:Nat) (len:Int) (ds:List Za) (r:List Zq),ds.length≤(YU f len ds r).2.2.length
|0,_,_,r=>by simp[YU]
|f+1,len,ds,r=>by
  rw[qX];split
  ·exact Kz _
  split
  ·exact Kz _
  split
  ·exact Rl f len ds _
  ·simp only;split
   ·simp
   ·refine Nat.le_trans ?_ (Rl f len _ _);simp
theorem NY:∀(f:Nat) (len:Int) (ds:List Za) (r:List Zq),∃es,(YU f len ds r).2.2=ds++es
|0,_,_,r=>⟨[],by simp[YU]⟩
|f+1,len,ds,r=>by
  rw[qX];split
  ·exact⟨[],by simp⟩
  split
  ·exact⟨[],by simp⟩
  split
  ·exact NY f len ds _
  ·rename_i e k _;simp only;split
   ·exact⟨[⟨7,e⟩],rfl⟩
   ·obtain⟨es,h⟩:=NY f len (ds++[(⟨7,e⟩:Za)]) (r.drop (k+(Yr (r.drop k)).2));exact⟨⟨7,e⟩::es,by rw[h];simp⟩
theorem nE{G:List Za}(h:UO len ds r=.ok (x,k,G)):∃es,G=ds++es:=by
 unfold UO at h;split at h;rotate_left
 ·cases h
 split at h;rotate_left
 ·cases h
 simp only at h;generalize VH (r.length+1) (r.drop 2)=A at h;split at h
 ·split at h;rotate_left
  ·cases h
  simp only[Except.ok.injEq,XA] at h;obtain⟨rfl,rfl,rfl⟩:=h;exact NY _ _ _ _
 ·split at h;rotate_left
  ·cases h
  simp only[Except.ok.injEq,XA] at h;obtain⟨rfl,rfl,rfl⟩:=h;exact⟨[],by simp⟩
theorem rT{G:List Za}(h:UO len ds r=.ok (x,k,G))(J:G.length≤ds.length):G=ds:=by
 obtain⟨es,rfl⟩:=nE h;rw[X4] at J;have:es=[]:=List.eq_nil_of_length_eq_zero zo;rw[this,List.append_nil]
theorem gq:∀(f:Nat) (len:Int) (ds:List Za) (r:List Zq),r.length<f→ds.length<20→(YU f len ds r).2.2=ds→∃a q,r=a++q∧a.length=(YU f len ds r).2.1∧jY a (YU f len ds r).1
|0,_,_,_,h,_,_=>absurd h (Nat.not_lt_zero _)
|f+1,len,ds,r,hf,Y,G=>by
  rw[qX] at G ⊢;rw[if_neg zo] at G ⊢;by_cases hb:X9 125 (pk len r)=true
  ·rw[if_pos hb];have:0<r.length:=CG (j:=0) hb;cases r with
  |nil=>exact absurd this zq
  |cons t q=>exact⟨[t],q,rfl,rfl,.nil hb⟩
  rw[if_neg hb] at G ⊢;cases hA:Tz len r with
 |ok y =>
   obtain⟨x,k⟩:=y;rw[hA] at G;simp only at G ⊢;obtain⟨a,q,rfl,rfl,J⟩:=Qdy hA;have O:0<a.length:=by cases J;simp
   rw[BV a _ _ rfl] at G ⊢;simp only[X4] at hf;obtain⟨b,Z,e1,U,W⟩:=gq f len ds q zo Y G;exact⟨a++b,Z,by rw[e1];simp,by rw[X4,U],.cons J W⟩
 |error y =>
   obtain⟨e,k⟩:=y;rw[hA] at G;simp only at G;exfalso;split at G
   ·have:=congrArg List.length G;simp at this
   ·have:=Rl f len (ds++[(⟨7,e⟩:Za)]) (r.drop (k+(Yr (r.drop k)).2));rw[G] at this;simp at this;omega
theorem QaM(hd:ds.length<20)(h:UO len ds r=.ok (x,k,ds)):∃a q,r=a++q∧a.length=k∧O9 a x:=by
 unfold UO at h;split at h;rotate_left
 ·cases h
 rename_i O;split at h;rotate_left
 ·cases h
 rename_i G;have J:1<r.length:=SX (len:=len) (j:=1) G.1
 obtain⟨t,m,r,rfl⟩:∃t m r',r=t::m::r':=by
  cases r with
 |nil=>simp at J
 |cons t r =>
   cases r with
  |nil=>simp at J
  |cons m r=>exact⟨t,m,r,rfl⟩
 simp only[BU,List.drop_succ_cons,List.drop_zero] at O G h;obtain⟨a,q,e1,Y,W,e4⟩:=rR ((t::m::r).length+1) r (by simp only[JF];omega);generalize VH ((t::m::r).length+1) r=A at Y W h;subst e1;rw[←Y] at h;rw[show(t::m::(a++q)).drop (2+a.length)=q from by rw[Nat.add_comm 2,List.drop_succ_cons,List.drop_succ_cons,BV a _ _ rfl],show(t::m::(a++q)).drop (3+a.length)=q.drop 1 from by rw[show 3+a.length=a.length+1+2 from by omega,List.drop_succ_cons,List.drop_succ_cons,←List.drop_drop,BV a _ _ rfl]] at h;split at h
 ·rename_i h7;split at h;rotate_left
  ·cases h
  rename_i hp;have U:0<q.length:=CG (j:=0) hp;cases q with
 |nil=>simp at U
 |cons e q =>
   rw[BU] at hp;simp only[List.drop_succ_cons,List.drop_zero,Except.ok.injEq,XA] at h;obtain⟨rfl,rfl,h3⟩:=h;obtain⟨b,q',f1,f2,f3⟩:=gq _ len ds q (by simp only[JF,X4];omega) hd h3;generalize YU ((t::m::(a++e::q)).length+1) len ds q=Z at f2 f3;refine⟨t::m::(a++e::b),q',by rw[f1];simp,?_,.tariff O.1 h7 G.1 G.2 W hp f3⟩;simp only[JF,X4,←f2];omega
 ·rename_i h7;split at h;rotate_left
  ·cases h
  rename_i hp;have U:0<q.length:=CG (j:=0) hp;cases q with
 |nil=>simp at U
 |cons e q =>
   rw[BU] at hp;simp only[Except.ok.injEq,XA] at h;obtain⟨rfl,rfl,_⟩:=h;refine⟨t::m::(a++[e]),q,by simp,?_,.plain O.1 O.2 h7 G.1 G.2 W hp⟩;simp only[JF,X4,List.length_nil];omega
theorem BX(f:Nat)(len:Int)(ds:List Za)(r:List Zq):K5 (f+1) len ds r=if r=[]∨20≤ds.length then([],ds) else match UO len ds r with
 |.ok (x,k,G)=>let z:=K5 f len G (r.drop k);(GN.cs x::z.1,z.2)
 |.error (e,k)=>K5 f len (ds++[⟨7,e⟩]) (r.drop (k+(Yr (r.drop k)).2)):=rfl
theorem BZ{G:List Za}(h:UO len ds r=.ok (x,k,G)):3≤k∧k≤r.length∧ds.length≤G.length∧(ds.length≤20→G.length≤20):=by
 unfold UO at h;split at h;rotate_left
 ·cases h
 split at h;rotate_left
 ·cases h
 have J:=Sg (r.length+1) (r.drop 2);rw[FM] at J;simp only at h;generalize VH (r.length+1) (r.drop 2)=A at J h;split at h
 ·split at h;rotate_left
  ·cases h
  rename_i hp;have:=CG hp;simp only[Except.ok.injEq,XA] at h;obtain⟨rfl,rfl,rfl⟩:=h;have O:=S9 (r.length+1) len ds (r.drop (3+A.2));have U:=Rl (r.length+1) len ds (r.drop (3+A.2));rw[FM] at O;omega
 ·split at h;rotate_left
  ·cases h
  rename_i hp;have:=CG hp;simp only[Except.ok.injEq,XA] at h;obtain⟨rfl,rfl,rfl⟩:=h;omega
theorem nG{e:Int}(h:UO len ds r=.error (e,k)):k≤r.length∧e=(pk len (r.drop k)).At:=by
 unfold UO at h;split at h;rotate_left
 ·simp only[Except.error.injEq,XA] at h;obtain⟨rfl,rfl⟩:=h;exact⟨by omega,rfl⟩
 rename_i U;have h0:0<r.length:=SX (len:=len) (j:=0) U.1;split at h;rotate_left
 ·simp only[Except.error.injEq,XA] at h;obtain⟨rfl,rfl⟩:=h;exact⟨by omega,rfl⟩
 rename_i O;have J:1<r.length:=SX (len:=len) (j:=1) O.1;have G:=Sg (r.length+1) (r.drop 2);rw[FM] at G;simp only at h;generalize VH (r.length+1) (r.drop 2)=A at G h;split at h
 ·split at h
  ·cases h
  ·simp only[Except.error.injEq,XA] at h;obtain⟨rfl,rfl⟩:=h;exact⟨by omega,rfl⟩
 ·split at h
  ·cases h
  ·simp only[Except.error.injEq,XA] at h;obtain⟨rfl,rfl⟩:=h;exact⟨by omega,rfl⟩
theorem UR:∀(f:Nat) (len:Int) (ds:List Za) (r:List Zq),ds.length≤(K5 f len ds r).2.length∧(ds.length≤20→(K5 f len ds r).2.length≤20)
|0,_,_,r=>by simp[K5]
|f+1,len,ds,r=>by
  rw[BX];split
  ·exact⟨Kz _,fun h=>h⟩
  rename_i h0;cases hI:UO len ds r with
 |ok y =>
   obtain⟨x,k,G⟩:=y;have:=BZ hI;have:=UR f len G (r.drop k);simp only;omega
 |error y =>
   obtain⟨e,k⟩:=y;have:=UR f len (ds++[(⟨7,e⟩:Za)]) (r.drop (k+(Yr (r.drop k)).2));simp only[X4,List.length_singleton] at this ⊢;omega
theorem yE:∀(f:Nat) (len:Int) (ds:List Za) (r:List Zq),r.length<f→ds.length<20→(K5 f len ds r).2=ds→BR r (K5 f len ds r).1
|0,_,_,_,h,_,_=>absurd h (Nat.not_lt_zero _)
|f+1,len,ds,r,hf,Y,G=>by
  rw[BX] at G ⊢;by_cases h0:r=[]
  ·subst h0;rw[if_pos (.inl rfl)];exact .nil
  have O:¬(r=[]∨20≤ds.length):=by
   rintro(h|h)
   ·exact h0 h
   ·omega
  rw[if_neg O] at G ⊢;cases hI:UO len ds r with
 |ok y =>
   obtain⟨x,k,J⟩:=y;rw[hI] at G;simp only at G ⊢;have h1:=BZ hI;have U:=UR f len J (r.drop k);rw[G] at U
   obtain rfl:J=ds:=by
    have h3:=h1.2.2.1;have h4:=U.1;exact rT hI zo
   obtain⟨a,q,rfl,rfl,Z⟩:=QaM Y hI;have W:0<a.length:=by omega
   rw[BV a _ _ rfl] at G ⊢;simp only[X4] at hf;exact .cons Z (yE f len J q zo Y G)
 |error y =>
   obtain⟨e,k⟩:=y;rw[hI] at G;simp only at G;exfalso;have:=(UR f len (ds++[(⟨7,e⟩:Za)]) (r.drop (k+(Yr (r.drop k)).2))).1;rw[G] at this;simp at this;omega
theorem Qfi{V:Type}(B:(V→Option R)→V→Option R)(n:Nat)(v:V):QB B (n+1) v=B (QB B n) v:=rfl
def Ls:Nat→GN→Prop|0,_=>False|d+1,x=>x.Kids.length≤10000∧(0≤x.At∧x.At≤100000)∧∀k∈x.Kids,∃y,GN.of k=some y∧Ls d y
theorem Hy(d:Nat)(x:GN):Ls (d+1) x=(x.Kids.length≤10000∧(0≤x.At∧x.At≤100000)∧∀k∈x.Kids,∃y,GN.of k=some y∧Ls d y):=rfl
theorem gu(h:∀k∈l,∃y,GN.of k=some y∧Ls d y)(hi:i<l.length):∃y,Option.bind (Q3 l (i:Int)) GN.of=some y∧Ls d y∧GN.of (l[i]'hi)=some y:=by
 obtain⟨y,e,t⟩:=h (l[i]'hi) (List.getElem_mem hi);refine⟨y,?_,t,e⟩;rw[ZW,List.getElem?_eq_getElem hi];exact e
theorem Qfj(a b:Int):leI a b=!QV b a:=by
 unfold leI QV;by_cases h:a≤b
 ·rw[KJ h,Ki zo];rfl
 ·rw[Ki h,KJ zo];rfl
theorem yH:∀(n d:Nat) (x:GN) (l:Int),Ls d x→Jy n x l=Zk n x l
|0,_,_,_,_=>rfl
|n+1,0,_,_,h=>h.elim
|n+1,d+1,x,l,h=>by
  obtain⟨hl,_,hk⟩:=(Hy d x▸h);show Jl n (Jy n) x l=ZK n (Zk n) x l;have O:=fun y l U=>yH n d y l U
  generalize Jy n=A at O ⊢;generalize Zk n=B at O ⊢;unfold Jl ZK
  have key:∀(j:Nat) (s:Int) (i:Nat),i≤x.Kids.length→QB (fun G (v:Int×Int)=>WH x l A G v.1 v.2) j (s,(i:Int))=QB (fun G (v:Int×Int)=>Zu x l B G v.1 v.2) j (s,(i:Int)):=by
   intro j
   induction j with
  |zero=>intro s i _;rfl
  |succ j J =>
    intro s i hi;unfold QB;generalize QB (fun G (v:Int×Int)=>WH x l A G v.1 v.2) j=Y at J ⊢;generalize QB (fun G (v:Int×Int)=>Zu x l B G v.1 v.2) j=Z at J ⊢;show WH x l A Y s (i:Int)=Zu x l B Z s (i:Int);unfold WH Zu;simp only[zP,Qb,QV,Qfj];by_cases c:i<x.Kids.length;rotate_left
    ·rw[Ki zo];rfl
    obtain⟨y,U,ty,_⟩:=gu hk c;rw[KJ zo,Kj,Kj,U];simp only[Zj];by_cases W:l<s
    ·rw[KJ W];rfl
    ·rw[Ki W];simp only[Bool.not_false,Kj,Kk];rw[O y _ ty];congr 1;funext r;rw[ZP (x:=(i:Int)+1) zo zo];exact J _ (i+1) c
  exact key n 1 0 (Nat.zero_le _)
theorem jZ:∀(m n d:Nat) (x:GN) (G:Int),Ls d x→0≤G→G≤m→m≤1000000→m+3≤n→Does (Zk n x G) (fun r=>1≤r∧r≤G+1):=by
 intro m
 induction m with
|zero =>
  intro n d x G U h0 h1 h2 h3;obtain⟨n,rfl⟩:∃q,n=q+1+1:=⟨n-2,by omega⟩;obtain rfl:G=0:=by omega
  refine⟨1,?_,by omega,by omega⟩;unfold Zk ZK;rw[Qfi];unfold Zu;simp only[show leI 1 0=false from rfl,QF,Zj];cases QV 0 (Qb (List.map Zn x.Kids))<;>rfl
|succ m ih =>
  intro n d x G U h0 h1 h2 h3;obtain⟨n,rfl⟩:∃q,n=q+1:=⟨n-1,by omega⟩;cases d with
 |zero=>exact U.elim
 |succ e =>
  obtain⟨hl,_,hk⟩:=(Hy e x▸U);unfold Zk ZK;refine Yl (Q:=fun _ r=>1≤r∧r≤G+1) (fun v=>(G+1-v.1).toNat) (fun v=>1≤v.1∧v.1≤G+1∧∃i:Nat,v.2=(i:Int)∧i≤x.Kids.length) ?_ ⟨by omega,by omega,0,rfl,by omega⟩ (by simp only;omega);rintro rec ⟨J,Eo⟩ ⟨g1,g2,i,hi,aa⟩ O;simp only at g1 g2 hi O ⊢;subst hi;unfold Zu;simp only[Qb,WB,QV,leI];by_cases Z:i<x.Kids.length;rotate_left
  ·rw[Ki zo];exact Qm ⟨g1,g2⟩
  rw[KJ zo];by_cases Y:J≤G;rotate_left
  ·rw[Ki Y];exact Qm ⟨g1,g2⟩
  rw[KJ Y];obtain⟨y,hy,W,_⟩:=gu hk Z;simp only[Kj,Zj];rw[hy,Zj,ZP (x:=G-J) zo zo];refine Z9 (ih n e y (G-J) W zo zo zo zo) ?_;rintro r ⟨r1,r2⟩;rw[ZP (x:=J+r) zo zo,ZP (x:=(i:Int)+1) zo zo];exact O (J+r,(i:Int)+1) ⟨by simp only;omega,by simp only;omega,i+1,by simp,Z⟩ (by simp only;omega)
theorem NZ(x:GN):GN.of (GN.cs x)=some x:=jS _ _ _ _ _
def gy(l:List Zq):Prop:=∀t∈l,0≤t.At∧t.At≤100000
theorem Dy{b:List Zq}:gy (a++b)↔gy a∧gy b:=by
 unfold gy;simp only[List.mem_append];exact⟨fun h=>⟨fun t G=>h t (.inl G),fun t G=>h t (.inr G)⟩,fun h t G=>G.elim (h.1 t) (h.2 t)⟩
theorem GD{t:Zq}{b:List Zq}:gy (t::b)↔(0≤t.At∧t.At≤100000)∧gy b:=by
 unfold gy;simp
def Md(d:Nat)(xs:List (List PV)):Prop:=∀k∈xs,∃y,GN.of k=some y∧Ls d y
theorem N7(h:Ls d x)(h':Md d xs):Md d (GN.cs x::xs):=by
 intro k G;rcases List.mem_cons.1 G with rfl|G
 ·exact⟨x,NZ x,h⟩
 ·exact h' k G
theorem rU{ys:List (List PV)}(h:Md d xs)(h':Md d ys):Md d (xs++ys):=by
 intro k G;rcases List.mem_append.1 G with G|G
 ·exact h k G
 ·exact h' k G
theorem qa{v:List Zq}(h:gy v):Md 1 (v.map yw):=by
 intro k G;obtain⟨t,J,rfl⟩:=List.mem_map.1 G;refine⟨SS t,NZ _,?_⟩;rw[Hy];have:=h t J;unfold SS;split
 ·exact⟨by simp,this,by simp⟩
 ·exact⟨by simp,this,by simp⟩
theorem nH(h:rQ a x)(G:a.length≤10000)(hb:gy a):Ls 2 x:=by
 cases h with
|mk U O W J =>
  simp only[JF,X4,List.length_nil] at G;rw[GD,Dy] at hb;rw[Hy];exact⟨by simp;omega,hb.1,qa hb.2.1⟩
theorem qb(h:yA a xs)(J:a.length≤10000)(hb:gy a):Md 2 xs∧xs.length≤a.length:=by
 induction h with
|nil=>exact⟨fun k O=>(by cases O),Kz _⟩
|cons Y W Z U G =>
  simp only[JF,X4] at J;rw[GD,Dy] at hb;have:=G zo hb.2.2;refine⟨N7 ?_ this.1,by simp only[JF,X4];omega⟩;rw[Hy];exact⟨by simp;omega,hb.1,qa hb.2.1⟩
theorem nI(h:jY a xs)(O:a.length≤10000)(hb:gy a):Md 2 xs∧xs.length≤a.length:=by
 induction h with
|nil=>exact⟨fun k U=>(by cases U),by simp⟩
|cons G W J =>
  simp only[X4] at O;rw[Dy] at hb;have:=J zo hb.2;have hp:=nH G zo hb.1;refine⟨N7 hp this.1,?_⟩;cases G;simp only[JF,X4];omega
theorem xc(h:O9 a x)(J:a.length≤10000)(hb:gy a):Ls 3 x:=by
 cases h with
|plain h1 W h3 Z U G h7 =>
  simp only[JF,X4,List.length_nil] at J;rw[GD,GD,Dy] at hb;have:=qb G zo hb.2.2.1;rw[Hy];exact⟨by simp only;omega,hb.1,this.1⟩
|tariff h1 W Z U G h7 Y =>
  simp only[JF,X4] at J;rw[GD,GD,Dy,GD] at hb;have O:=qb G zo hb.2.2.1;have hB:=nI Y zo hb.2.2.2.2;rw[Hy];exact⟨by simp only[X4];omega,hb.1,rU O.1 hB.1⟩
theorem xe(h:BR a xs)(O:a.length≤10000)(hb:gy a):Md 3 xs∧xs.length≤a.length:=by
 induction h with
|nil=>exact⟨fun k U=>(by cases U),by simp⟩
|cons G W J =>
  simp only[X4] at O;rw[Dy] at hb;have:=J zo hb.2;refine⟨N7 (xc G zo hb.1) this.1,?_⟩;cases G<;>simp only[JF,X4]<;>omega
theorem nJ(n:Nat)(T:List Zq)(len:Int)(hT:T.length≤2100)(hn:10000≤n) :
  ∀(j i f:Nat) (acc:List (List PV)) (ds:List Za),T.length-i<j→i≤T.length→acc.length≤i→ds.length≤20→T.length-i<f →
   ∃U:Int,QB (fun G (v:List (List PV)×List Zq×Int×Int×List Za)=>WI n G v.1 v.2.1 v.2.2.1 v.2.2.2.1 v.2.2.2.2) j (acc,T,(i:Int),len,ds)=some (acc++(K5 f len ds (T.drop i)).1,T,U,len,(K5 f len ds (T.drop i)).2):=by
 intro j
 induction j with
|zero=>intro i f acc ds h;omega
|succ j ih =>
  intro i f acc ds h1 h2 h3 h4 h5;obtain⟨f,rfl⟩:∃f',f=f'+1:=⟨f-1,by omega⟩;unfold QB;generalize QB (fun G (v:List (List PV)×List Zq×Int×Int×List Za)=>WI n G v.1 v.2.1 v.2.2.1 v.2.2.2.1 v.2.2.2.2) j=L at ih ⊢;show ∃U,WI n L acc T (i:Int) len ds=_;rw[BX];unfold WI;simp only[rM,Zj,QV,Qb,WB,QF];by_cases h0:T.drop i=[]∨20≤ds.length
  ·rw[if_pos h0]
   have:(bif decide ((i:Int)<(T.length:Int)) then !decide (20≤ds.length) else false)=false:=by
    rcases h0 with h|h
    ·rw[List.drop_eq_nil_iff] at h;rw[Ki zo];rfl
    ·rw[KJ h];cases decide ((i:Int)<(T.length:Int))<;>rfl
   rw[this];exact⟨(i:Int),by simp⟩
  rw[if_neg h0]
  have hi:i<T.length:=by
   apply Classical.byContradiction;intro h;exact h0 (.inl (List.drop_eq_nil_of_le zo))
  have hd:¬20≤ds.length:=fun h=>h0 (.inr h)
  rw[KJ zo,Ki hd];simp only[Bool.not_false,Kj];rw[Qdx n T i len ds hT h2 h4 hn];have O:∀z:List PV,QI (List.length (acc++[z])) 64=true:=by intro z;simp[QI];omega
  have J:∀z:Za,QI (List.length (ds++[z])) 16=true:=by intro z;simp[QI];omega
  cases hI:UO len ds (T.drop i) with
 |ok y =>
   obtain⟨x,k,Z⟩:=y;have Y:=BZ hI;rw[FM] at Y;simp only[Zj,FE,Kj,O];obtain⟨U,e⟩:=ih (i+k) f (acc++[GN.cs x]) Z zo zo (by simp;omega) (Y.2.2.2 h4) zo;refine⟨U,e.trans ?_⟩;rw[KE];simp
 |error y =>
   obtain⟨e,k⟩:=y;have Y:=(nG hI).1;rw[FM] at Y;simp only[Zj,FE,J,Kj];rw[rH n T (i+k) len [] hT zo hn];simp only[Zj,Kk];rw[show T.drop (i+k)=(T.drop i).drop k from KE ..];have hs:=Sd ((T.drop i).drop k);rw[FM,FM] at hs
   have W:1≤k+(Yr ((T.drop i).drop k)).2:=by
    cases k with
   |zero=>have:=yz (l:=(T.drop i).drop 0) (fun h=>h0 (.inl h));omega
   |succ k=>omega
   generalize (Yr ((T.drop i).drop k)).2=m at hs W ⊢;rw[show i+k+m=i+(k+m) from by omega];obtain⟨U,e'⟩:=ih (i+(k+m)) f acc (ds++[⟨7,e⟩]) zo zo zo (by simp;omega) zo;refine⟨U,e'.trans ?_⟩;rw[KE T i (k+m)]
theorem Bc:∀(f:Nat) (len:Int) (ds:List Za) (r:List Zq),(K5 f len ds r).1.length≤r.length
|0,_,_,r=>by simp[K5]
|f+1,len,ds,r=>by
  rw[BX];split
  ·simp
  rename_i h0;cases hI:UO len ds r with
 |ok y =>
   obtain⟨x,k,J⟩:=y;have:=BZ hI;have G:=Bc f len J (r.drop k);rw[FM] at G;simp only[JF];omega
 |error y =>
   obtain⟨e,k⟩:=y;have G:=Bc f len (ds++[(⟨7,e⟩:Za)]) (r.drop (k+(Yr (r.drop k)).2));rw[FM] at G;simp only;omega
def nz:GN:=⟨0,[],0,0,[]⟩
def FD(xs:List (List PV)):GN:=⟨1,[],0,0,xs⟩
theorem QaN(n:Nat)(s:List UInt8)(J:10000≤n):Wj n s=match Ce s with
 |.error (e,p)=>cond (!Qj e 0) (some (nz,[⟨e,(p:Int)⟩])) (Wj n s)
 |.ok T=>if(K5 (T.length+1) (s.length:Int) [] T).2≠[] then some (nz,(K5 (T.length+1) (s.length:Int) [] T).2) else
    (Jy n (FD (K5 (T.length+1) (s.length:Int) [] T).1) 1500).bind fun c=>cond (QV 1500 c) (some (nz,[⟨2,0⟩])) (some (FD (K5 (T.length+1) (s.length:Int) [] T).1,[])):=by
 have G:=Qff n s J;cases hS:Ce s with
|error y =>
  obtain⟨e,p⟩:=y;rw[hS] at G;simp only;cases he:!Qj e 0
  ·rfl
  ·unfold Wj;rw[G];simp only[jV,Zj,he,Kj];rfl
|ok T =>
  rw[hS] at G;obtain⟨_,_,U⟩:=(SK s T).1 hS;unfold Wj;rw[G];simp only[jV,Zj,List.nil_append,show(!Qj 0 0)=false from rfl,Kk];obtain⟨O,e⟩:=nJ n T (s.length:Int) zo J n 0 (T.length+1) [] [] zo (Nat.zero_le _) zq zq zo;rw[List.drop_zero,List.nil_append] at e;refine BQ (x:=((K5 (T.length+1) (s.length:Int) [] T).1,T,O,(s.length:Int),(K5 (T.length+1) (s.length:Int) [] T).2)) ?_ ?_
  ·refine BQ e ?_;show cond (QI (List.length (K5 (T.length+1) (s.length:Int) [] T).1) 64) _ none=_;have:(K5 (T.length+1) (s.length:Int) [] T).1.length≤T.length:=Bc _ _ _ _;rw[show QI (List.length (K5 (T.length+1) (s.length:Int) [] T).1) 64=true from by simp[QI];omega,Kj]
  ·show cond (QV 0 (Qb (List.map Za.cs (K5 (T.length+1) (s.length:Int) [] T).2))) _ _=_;generalize K5 (T.length+1) (s.length:Int) [] T=Z;simp only[QV,Qb,WB];by_cases h:Z.2=[]
   ·rw[if_neg (by simpa using h),h];rfl
   ·have:0<Z.2.length:=List.length_pos_iff.2 h;rw[if_pos h,KJ zo];rfl
theorem Qdz{t:List UInt8}{e:Int}(h:FC t=.error e):e≠0:=by
 unfold FC at h
 repeat (first|(split at h)|(simp only[Except.error.injEq] at h;omega)|(exact nomatch h))
theorem yJ:∀(f p k:Nat) (s:List UInt8) (e:Int) (q:Nat),s.length<f→He f p s k=.error (e,q)→e≠0∧p≤q∧q≤p+s.length
|0,_,_,_,_,_,h,_=>absurd h (Nat.not_lt_zero _)
|f+1,p,k,s,e,q,hf,h=>by
  have O:=NV s false;cases hd:s.drop (Kt false s) with
 |nil=>rw[qU _ _ _ _ hd] at h;cases h
 |cons c r =>
   rw[SH _ _ _ _ c r hd] at h;split at h
   ·simp only[Except.error.injEq,XA] at h;obtain⟨rfl,rfl⟩:=h;exact⟨by omega,by omega,by omega⟩
   cases ht:FC (Gl (c::r)) with
  |error U =>
    rw[ht] at h;simp only[Except.error.injEq,XA] at h;obtain⟨rfl,rfl⟩:=h;exact⟨Qdz ht,by omega,by omega⟩
  |ok y =>
    obtain⟨W,x,v⟩:=y;rw[ht] at h;simp only at h;have hp:=qQ ht;have J:=jW (c::r);have G:(c::r).length=s.length-Kt false s:=by rw[←hd,FM]
    cases hl:He f (p+Kt false s+(Gl (c::r)).length) ((c::r).drop (Gl (c::r)).length) (k+1) with
   |ok l=>rw[hl] at h;cases h
   |error z =>
     rw[hl] at h;simp only[Except.error.injEq] at h;subst h;have:=yJ f _ _ _ _ _ (by rw[FM];omega) hl;rw[FM] at this;exact⟨this.1,by omega,by omega⟩
theorem rV{e:Int}{q:Nat}(h:Ce s=.error (e,q)):e≠0∧q≤s.length:=by
 unfold Ce at h;split at h
 ·simp only[Except.error.injEq,XA] at h;obtain⟨rfl,rfl⟩:=h;exact⟨by omega,Nat.zero_le _⟩
 ·have:=yJ _ _ _ _ _ _ zo h;exact⟨this.1,by omega⟩
theorem QaO(h:Ce s=.ok T):(∀t∈T,0≤t.At∧t.At<(s.length:Int))∧T.Pairwise (fun a b=>a.At<b.At)∧gy T∧T.length≤2000∧s.length≤8000:=by
 obtain⟨O,J,U⟩:=(SK s T).1 h;have:=Qfg J;refine⟨fun t G=>?_,this.2,fun t G=>?_,U,O⟩
 ·have:=this.1 t G;omega
 ·have:=this.1 t G;omega
def Good(n:Nat)(s:List UInt8)(T:List Zq)(xs:List (List PV)):Prop:=Ce s=.ok T∧BR T xs∧∃c,Zk n (FD xs) 1500=some c∧c≤1500
theorem yL(h:Ce s=.ok T)(J:BR T xs):Ls 4 (FD xs):=by
 have G:=QaO h;have:=xe J zo G.2.2.1;rw[Hy];exact⟨by unfold FD;simp only;omega,⟨by simp[FD],by simp[FD]⟩,this.1⟩
theorem yM(n:Nat)(s:List UInt8)(Z:30000≤n):∃r,Wj n s=some r∧((r.2=[]∧∃T xs,Good n s T xs∧r.1=FD xs)∨(r.1=nz∧r.2≠[]∧(r.2=[⟨2,0⟩]∨(∃T,Ce s=.ok T∧r.2=(K5 (T.length+1) (s.length:Int) [] T).2)∨∃e q,Ce s=.error (e,q)∧r.2=[⟨e,(q:Int)⟩]))):=by
 have G:=QaN n s zo;cases hS:Ce s with
|error y =>
  obtain⟨e,q⟩:=y;rw[hS] at G;simp only at G;have:=rV hS;rw[show(!Qj e 0)=true from by rw[Zg,Ki this.1];rfl,Kj] at G;exact⟨_,G,.inr ⟨rfl,by simp,.inr (.inr ⟨e,q,rfl,rfl⟩)⟩⟩
|ok T =>
  rw[hS] at G;simp only at G;by_cases h:(K5 (T.length+1) (s.length:Int) [] T).2=[];rotate_left
  ·rw[if_pos h] at G;exact⟨_,G,.inr ⟨rfl,h,.inr (.inl ⟨T,rfl,rfl⟩)⟩⟩
  rw[if_neg (by simpa using h)] at G;have J:=yE (T.length+1) (s.length:Int) [] T zo zq h;generalize (K5 (T.length+1) (s.length:Int) [] T).1=xs at G J;have U:=yL hS J;obtain⟨c,hc,W,Y⟩:=jZ 1500 n 4 _ 1500 U zo zo zo zo;rw[yH n 4 _ _ U,hc,Zj] at G;by_cases O:c≤1500
  ·rw[show QV 1500 c=false from Ki zo,Kk] at G;exact⟨_,G,.inl ⟨rfl,T,xs,⟨hS,J,c,hc,O⟩,rfl⟩⟩
  ·rw[show QV 1500 c=true from KJ zo,Kj] at G;exact⟨_,G,.inr ⟨rfl,by simp,.inl rfl⟩⟩
theorem nK{r:GN×List Za}(G:Wj n s=some r)(h:(r.2=[]∧∃T xs,Good n s T xs∧r.1=FD xs)∨(r.1=nz∧r.2≠[]∧(r.2=[⟨2,0⟩]∨(∃T,Ce s=.ok T∧r.2=(K5 (T.length+1) (s.length:Int) [] T).2)∨∃e q,Ce s=.error (e,q)∧r.2=[⟨e,(q:Int)⟩]))):r.2.length≤20:=by
 rcases h with⟨e,_⟩|⟨_,_,e|⟨T,_,e⟩|⟨_,_,_,e⟩⟩
 ·rw[e];simp
 ·rw[e];simp
 ·rw[e];exact(UR _ _ _ _).2 zq
 ·rw[e];simp
theorem xg(c:UInt8)(d:Nat)(h:Z5 c=48+(d:Int)):UInt8.ofNat (48+d)=c:=by
 have G:c.toNat=48+d:=by unfold Z5 at h;omega
 rw[←G];simp
theorem rW(a d:Nat)(G:1≤a)(J:d≤9):Lib.decDigits (10*a+d)=Lib.decDigits a++[UInt8.ofNat (48+d)]:=by
 rw[Lib.decDigits,dif_neg zo];rw[show(10*a+d) / 10=a from by omega,show(10*a+d)%10=d from by omega]
theorem gz:∀(r:List UInt8) (a:Nat) (v:Int),r.all Hr=true→1≤a→a≤1000000→C9 (a:Int) r=some v→0≤v∧v≤1000000∧Lib.decDigits v.toNat=Lib.decDigits a++r
|[],a,v,_,J,O,h=>by
  simp only[C9,Q0] at h;subst h;exact⟨by omega,by omega,by simp⟩
|c::r,a,v,G,J,O,h=>by
  simp only[List.all_cons,Z8] at G;have hc:=of_decide_eq_true G.1;unfold C9 at h;split at h
  ·cases h
  rename_i hb;obtain⟨d,U⟩:=Int.eq_ofNat_of_zero_le (show 0≤Z5 c-48 by omega);rw[show 10*(a:Int)+(Z5 c-48)=((10*a+d:Nat):Int) from by omega] at h hb;obtain⟨g1,g2,g3⟩:=gz r (10*a+d) v G.2 zo zo h;refine⟨g1,g2,?_⟩;rw[g3,rW a d J zo,xg c d zo];simp
theorem rX{r:List UInt8}(G:(c::r).all Hr=true)(h0:¬(1<(c::r).length∧Z5 c=48))(h:C9 0 (c::r)=some v):0≤v∧v≤1000000∧Lib.itoa v=c::r:=by
 simp only[List.all_cons,Z8] at G;have hc:=of_decide_eq_true G.1;obtain⟨d,O⟩:=Int.eq_ofNat_of_zero_le (show 0≤Z5 c-48 by omega);unfold C9 at h;rw[show 10*(0:Int)+(Z5 c-48)=(d:Int) from by omega] at h;split at h
 ·cases h
 have key:0≤v∧v≤1000000∧Lib.decDigits v.toNat=c::r:=by
  cases r with
 |nil =>
   simp only[C9,Q0] at h;subst h;refine⟨by omega,by omega,?_⟩;rw[Int.toNat_natCast,Lib.decDigits,dif_pos zo,xg c d zo]
 |cons e r =>
   have J:1≤d:=by
    simp only[JF,not_and] at h0;have:=h0 zo;omega
   obtain⟨g1,g2,g3⟩:=gz (e::r) d v G.2 J zo h;refine⟨g1,g2,?_⟩;rw[g3,Lib.decDigits,dif_pos zo,xg c d zo];rfl
 refine⟨key.1,key.2.1,?_⟩;unfold Lib.itoa;rw[if_neg zo,key.2.2]
theorem rY{t x:List UInt8}{k:Int}(hw:X8 t=true)(h:FC t=.ok (k,x,v)):(k=2∧Lib.itoa v=t∧0≤v∧v≤1000000)∨(k≠2∧x=t):=by
 cases t with
|nil=>cases hw
|cons c r =>
  unfold FC at h;unfold X8 at hw;simp only at h hw;by_cases J:qO c=true
  ·rw[if_pos J] at h;split at h
   ·cases h
   ·simp only[Except.ok.injEq,XA] at h;exact .inr ⟨by omega,h.2.1.symm⟩
  rw[if_neg J] at h hw;by_cases G:Hr c=true
  ·rw[if_pos G] at h hw;split at h
   ·cases h
   rename_i h0;cases hv:C9 0 (c::r) with
  |none=>rw[hv] at h;cases h
  |some u =>
    rw[hv] at h;simp only[Except.ok.injEq,XA] at h;obtain⟨rfl,rfl,rfl⟩:=h;obtain⟨g1,g2,g3⟩:=rX hw h0 hv;exact .inl ⟨rfl,g3,g1,g2⟩
  ·rw[if_neg G] at h;split at h
   ·simp only[Except.ok.injEq,XA] at h;exact .inr ⟨by omega,h.2.1.symm⟩
   ·cases h
theorem qY(l:List (List PV)):(Qp l).length≤l.length:=List.length_filterMap_le _ _
theorem rZ{a b:Int}(h:a≤b):leI a b=true:=KJ h
theorem xh{a b:Int}(h:¬a≤b):leI a b=false:=Ki h
theorem QaP{a b c d:Int}(h:a≤b↔c≤d):leI a b=leI c d:=decide_eq_decide.2 h
theorem si(O:Kb d x)(U:9223372036854776000≤n)(h0:0≤left)(Y:left≤1500):Does (VL n x left) (fun r=>r.1=(J9 x&&leI (x.Kids.length:Int) left)∧(r.1=true→r.2=left-x.Kids.length)):=by
 by_cases c:(x.Kids.length:Int)≤left
 ·refine VZ (cO O U ⟨c,Y⟩) ?_;rintro r ⟨G,W⟩;rw[rZ c,Bool.and_true];exact⟨G,fun h=>W (G▸h)⟩
 obtain⟨e,rfl,Z,_,hk⟩:=ZC O
 have hw:wi (left-Qb (List.map Zn x.Kids))=left-x.Kids.length:=by
  simp only[Qb,WB];exact ZP zo zo
 rw[xh c,Bool.and_false];have hf:∀z:Int,Does (some (false,z)) (fun r:Bool×Int=>r.1=false∧(r.1=true→r.2=left-x.Kids.length)):=fun z=>Qm ⟨rfl,fun h=>by cases h⟩
 unfold VL;rw[O5,uU,hw,show QV (left-(x.Kids.length:Int)) 0=true from KJ zo];simp only[Zj,QF,Zg,Kj];by_cases J:x.Kind=3
 ·rw[J];cases decide (x.N=0)<;>cases O3 x.Name<;>exact hf _
 ·rw[Ki J];cases decide (x.N=0)<;>cases decide (x.Kind=4)<;>cases O4 x.Name<;>exact hf _
theorem QaQ(y:GN)(l:List GN):Tt (y::l)=(y.Kids.length:Int)+Tt l:=rfl
theorem sj(ht:Kb d x)(hn:9223372036854776000≤n)(g0:0≤left)(g15:left≤1500) :
  Does (VM n x left) (fun r=>r.1=(Hq x&&leI ((x.Kids.length:Int)+Tt (Qp x.Kids)) left)∧(r.1=true→r.2=left-(x.Kids.length+Tt (Qp x.Kids)))):=by
 obtain⟨e,rfl,hl,hs,hk⟩:=ZC ht
 have hw:wi (left-Qb (List.map Zn x.Kids))=left-x.Kids.length:=by
  simp only[Qb,WB];exact ZP zo zo
 have ad:=Gj (Qp x.Kids)
 have W:0≤left-x.Kids.length→Does (QB (fun Y (v:Bool×Int×Int)=>Yp n x Y v.1 v.2.1 v.2.2) n (false,0,left-x.Kids.length)) (fun r=>r.1=(X6 (decide (x.N=7)) false (Qp x.Kids)&&leI (Tt (Qp x.Kids)) (left-x.Kids.length))∧(r.1=true→r.2=left-x.Kids.length-Tt (Qp x.Kids))):=by
  intro aa
  refine Yl (Q:=fun(v:Bool×Int×Int) (r:Bool×Int)=>r.1=(X6 (decide (x.N=7)) v.1 (Qp (x.Kids.drop v.2.1.toNat))&&leI (Tt (Qp (x.Kids.drop v.2.1.toNat))) v.2.2)∧(r.1=true→r.2=v.2.2-Tt (Qp (x.Kids.drop v.2.1.toNat)))) (fun v=>x.Kids.length-v.2.1.toNat)
   (fun(v:Bool×Int×Int)=>(∃i:Nat,v.2.1=(i:Int)∧i≤x.Kids.length)∧0≤v.2.2∧v.2.2≤1500) ?_ ⟨⟨0,rfl,by omega⟩,aa,by simp only;omega⟩ (by simp only;omega)
  rintro rec ⟨fl,Eo,Z⟩ ⟨⟨i,hi,ac⟩,g1,g2⟩ O;simp only at hi O g1 g2 ⊢;subst hi;simp only[Int.toNat_natCast];unfold Yp;simp only[Qb,WB,QV];by_cases c1:i<x.Kids.length;rotate_left
  ·rw[Ki zo,Kk,JL _ zo];unfold Yo;rw[Zg,show Tt []=0 from rfl,rZ g1,Bool.and_true];cases fl
   ·exact Qm ⟨rfl,fun _=>by simp⟩
   ·exact Qm ⟨rfl,fun _=>by simp⟩
  obtain⟨y,hy,ab,hc⟩:=XD hk c1;have h0:=Gj (Qp (List.drop (i+1) x.Kids));rw[hc,QaQ,KJ zo,Kj,hy,Zj]
  have U:∀b:Bool,Does (ZJ n (i:Int) Z rec y b) fun r=>r.1=((J9 y&&X6 (decide (x.N=7)) b (Qp (List.drop (i+1) x.Kids)))&&leI ((y.Kids.length:Int)+Tt (Qp (List.drop (i+1) x.Kids))) Z)∧(r.1=true→r.2=Z-((y.Kids.length:Int)+Tt (Qp (List.drop (i+1) x.Kids)))):=by
   intro b;unfold ZJ;rw[ZP (x:=(i:Int)+1) zo zo];refine Z9 (si ab hn g1 g2) ?_;rintro⟨r1,r2⟩ ⟨J,q2⟩;simp only at J q2 ⊢;cases hb:J9 y
   ·rw[hb] at J;simp only[Bool.false_and] at J;subst J;exact Qm ⟨rfl,fun h=>by cases h⟩
   rw[hb,Bool.true_and] at J;by_cases c2:(y.Kids.length:Int)≤Z;rotate_left
   ·rw[xh c2] at J;subst J;rw[xh (show ¬((y.Kids.length:Int)+Tt (Qp (List.drop (i+1) x.Kids))≤Z) by omega),Bool.and_false];exact Qm ⟨rfl,fun h=>by cases h⟩
   rw[rZ c2] at J;have q2:=q2 J;subst J;simp only[Bool.not_true,Kk,Bool.true_and];refine VZ (O (b,(i:Int)+1,r2) ⟨⟨i+1,by simp,c1⟩,by simp only;omega,by simp only;omega⟩ (by simp only;omega)) ?_;rintro⟨s1,s2⟩ ⟨t1,t2⟩;simp only[show((i:Int)+1).toNat=i+1 by omega] at t1 t2 ⊢;refine⟨?_,fun h=>by rw[t2 h];omega⟩;rw[t1];congr 1;exact QaP zo
  rw[Zg];unfold X6;cases decide (y.Kind=4)
  ·cases fl
   ·exact U false
   ·exact Qm ⟨rfl,fun h=>by cases h⟩
  ·exact U true
 unfold VM;rw[CY n x.Name zo,hw];simp only[Zj,QF,Zg]
 have hb:Hq x=(decide (x.Kind=2)&&(decide (1≤x.N)&&(decide (x.N≤7)&&(BO x.Name&&X6 (decide (x.N=7)) false (Qp x.Kids))))):=by
  unfold Hq;rw[Dx];simp
 rw[hb]
 have G:∀(z:Int) (b:Bool),b=false→Does (some (false,z)) (fun r:Bool×Int=>r.1=b∧(r.1=true→r.2=left-(x.Kids.length+Tt (Qp x.Kids)))):=by
  intro z b h;subst h;exact Qm ⟨rfl,fun h=>by cases h⟩
 by_cases c0:x.Kind=2;rotate_left
 ·rw[Ki c0];exact G _ _ rfl
 rw[KJ c0];by_cases c1:x.N<1
 ·rw[show QV x.N 1=true from KJ c1,Ki (show ¬1≤x.N by omega)];exact G _ _ rfl
 rw[show QV x.N 1=false from Ki c1,KJ (show 1≤x.N by omega)];by_cases c2:7<x.N
 ·rw[show QV 7 x.N=true from KJ c2,Ki (show ¬x.N≤7 by omega)];exact G _ _ rfl
 rw[show QV 7 x.N=false from Ki c2,KJ (show x.N≤7 by omega)];cases BO x.Name
 ·exact G _ _ rfl
 by_cases c3:(x.Kids.length:Int)≤left;rotate_left
 ·rw[show QV (left-(x.Kids.length:Int)) 0=true from KJ zo,xh (show ¬((x.Kids.length:Int)+Tt (Qp x.Kids)≤left) by omega)];exact G _ _ zq
 rw[show QV (left-(x.Kids.length:Int)) 0=false from Ki zo];refine VZ (W zo) ?_;rintro r ⟨J,q2⟩;refine⟨?_,fun h=>by rw[q2 h];omega⟩;rw[J];simp only[Bool.true_and];congr 1;exact QaP zo
def okT(x:GN):Bool:=Tu x&&leI (1+((x.Kids.length:Int)+Ec (Qp x.Kids))) 1500
theorem Me(y:GN)(l:List GN):Ec (y::l)=((y.Kids.length:Int)+Tt (Qp y.Kids))+Ec l:=rfl
theorem N8(ht:Kb d x)(hn:9223372036854776000≤n):WT n x=some (okT x):=by
 obtain⟨e,rfl,hl,_,hk⟩:=ZC ht
 have hw:wi (1499-Qb (List.map Zn x.Kids))=1499-x.Kids.length:=by
  simp only[Qb,WB];exact ZP zo zo
 have af:=Xo (Qp x.Kids)
 have U:0≤1499-(x.Kids.length:Int)→Does (QB (fun G (v:Int×Int)=>Y4 n x G v.1 v.2) n (0,1499-x.Kids.length)) (fun r=>r=((Qp x.Kids).all Hq&&leI (Ec (Qp x.Kids)) (1499-(x.Kids.length:Int)))):=by
  intro h0;refine Yl (Q:=fun(v:Int×Int) (r:Bool)=>r=((Qp (x.Kids.drop v.1.toNat)).all Hq&&leI (Ec (Qp (x.Kids.drop v.1.toNat))) v.2)) (fun v=>x.Kids.length-v.1.toNat) (fun v=>(∃i:Nat,v.1=(i:Int)∧i≤x.Kids.length)∧0≤v.2∧v.2≤1500) ?_ ⟨⟨0,rfl,by omega⟩,h0,by simp only;omega⟩ (by simp only;omega);rintro rec ⟨Eo,lf⟩ ⟨⟨i,hi,ae⟩,g1,g2⟩ O;simp only at hi O g1 g2 ⊢;subst hi;simp only[Int.toNat_natCast];unfold Y4;simp only[Qb,WB,QV];by_cases c1:i<x.Kids.length;rotate_left
  ·rw[Ki zo,Kk,JL _ zo,show Ec []=0 from rfl,rZ g1];exact Qm rfl
  obtain⟨y,hy,ac,hc⟩:=XD hk c1;rw[hc,Me];have h0:=Xo (Qp (List.drop (i+1) x.Kids));have ad:=Gj (Qp y.Kids);rw[KJ zo,Kj,hy,Zj,List.all_cons,ZP (x:=(i:Int)+1) zo zo];refine Z9 (sj ac hn g1 g2) ?_;rintro⟨r1,r2⟩ ⟨J,q2⟩;simp only at J q2 ⊢;cases hb:Hq y
  ·rw[hb,Bool.false_and] at J;subst J;exact Qm rfl
  rw[hb,Bool.true_and] at J;by_cases c2:(y.Kids.length:Int)+Tt (Qp y.Kids)≤lf;rotate_left
  ·rw[xh c2] at J;subst J;rw[xh (show ¬(y.Kids.length:Int)+Tt (Qp y.Kids)+Ec (Qp (List.drop (i+1) x.Kids))≤lf by omega),Bool.and_false];exact Qm rfl
  rw[rZ c2] at J;have q2:=q2 J;subst J;simp only[Bool.not_true,Kk,Bool.true_and];refine VZ (O ((i:Int)+1,r2) ⟨⟨i+1,by simp,c1⟩,by simp only;omega,by simp only;omega⟩ (by simp only;omega)) ?_;intro r Z;simp only[show((i:Int)+1).toNat=i+1 by omega] at Z;rw[Z];congr 1;exact QaP zo
 unfold WT okT Tu;rw[hw,Qds];simp only[QF,Zj,Zg];by_cases c0:(x.Kids.length:Int)≤1499;rotate_left
 ·rw[show QV (1499-(x.Kids.length:Int)) 0=true from KJ zo,xh (show ¬(1+((x.Kids.length:Int)+Ec (Qp x.Kids))≤1500) by omega),Bool.and_false];cases decide (x.Kind=1)<;>cases decide (x.Name=[])<;>cases decide (x.N=0)<;>rfl
 obtain⟨r,er,Z⟩:=U zo;rw[show QV (1499-(x.Kids.length:Int)) 0=false from Ki zo];have aa:QB (fun G (ab:Int×Int)=>match ab with|(Y,W)=>Y4 n x G Y W) n (0,1499-(x.Kids.length:Int))=some r:=er;rw[aa,Z,show leI (Ec (Qp x.Kids)) (1499-(x.Kids.length:Int))=leI (1+((x.Kids.length:Int)+Ec (Qp x.Kids))) 1500 from QaP zo];cases decide (x.Kind=1)<;>cases decide (x.Name=[])<;>cases decide (x.N=0)<;>simp
def vT(v:GN):List UInt8:=32::(if v.Kind=6 then Lib.itoa v.N else v.Name)
def vsT(l:List (List PV)):List UInt8:=(Qp l).flatMap vT
def aT(k:GN):List UInt8:=if k.Kind=3 then 32::(k.Name++vsT k.Kids) else[]
def cT(k:GN):List UInt8:=if k.Kind=4 then 32::32::(k.Name++(vsT k.Kids++[59,10])) else[]
def QcN(k:Int):List UInt8:=(kindsTab[k.toNat]?).getD []
def iT(x:GN):List UInt8:=QcN x.N++(32::(x.Name++((Qp x.Kids).flatMap aT++(if x.N=7 then[32,123,10]++((Qp x.Kids).flatMap cT++[125,10]) else[59,10]))))
def sT(x:GN):List UInt8:=(Qp x.Kids).flatMap iT
theorem su(h:okT x=true):x.Kind=1∧x.Name=[]∧x.N=0∧(∀y∈Qp x.Kids,Hq y=true∧(y.Kids.length:Int)+Tt (Qp y.Kids)≤1500)∧x.Kids.length≤1499:=by
 simp only[okT,Tu,leI,Z8,Bg,X5] at h
 have J:∀(l:List GN),∀y∈l,(y.Kids.length:Int)+Tt (Qp y.Kids)≤Ec l:=by
  intro l
  induction l with
 |nil=>intro y G;cases G
 |cons a l O =>
   intro y G;rw[Me];have:=Xo l;have:=Gj (Qp a.Kids);rcases List.mem_cons.1 G with rfl|G
   ·omega
   ·have:=O y G;omega
 have h0:=Xo (Qp x.Kids);exact⟨h.1.1,h.1.2.1,h.1.2.2.1,fun y G=>⟨h.1.2.2.2 y G,by have:=J _ y G;omega⟩,by omega⟩
theorem sw(s:List UInt8):Qs s s=true:=by simp[Qs]
def shp:Nat→GN→Prop|0,_=>False|d+1,x=>x.Kids.length≤10000∧∀k∈x.Kids,∃y,GN.of k=some y∧shp d y
theorem QcO(d:Nat)(x:GN):shp (d+1) x=(x.Kids.length≤10000∧∀k∈x.Kids,∃y,GN.of k=some y∧shp d y):=rfl
theorem qc:∀(d:Nat) (x:GN),Ls d x→shp d x
|0,_,h=>h.elim
|d+1,x,h=>by
  obtain⟨O,_,G⟩:=(Hy d x▸h);exact⟨O,fun k J=>by obtain⟨y,e,t⟩:=G k J;exact⟨y,e,qc d y t⟩⟩
def Oo:Nat→GN→GN
|0,x=>x
|k+1,x=>⟨x.Kind,x.Name,x.N,0,x.Kids.map (fun c=>match GN.of c with|some y=>GN.cs (Oo k y)|none=>c)⟩
def RZ(k:Nat)(c:List PV):List PV:=match GN.of c with|some y=>GN.cs (Oo k y)|none=>c
theorem QcP(k:Nat)(x:GN):Oo (k+1) x=⟨x.Kind,x.Name,x.N,0,x.Kids.map (RZ k)⟩:=rfl
theorem sD{c:List PV}(h:GN.of c=some y):RZ k c=GN.cs (Oo k y):=by unfold RZ;rw[h]
theorem Aa{k d:Nat}:∀{l:List (List PV)},(∀c∈l,∃y,GN.of c=some y∧shp d y)→Qp (l.map (RZ k))=(Qp l).map (Oo k)
|[],_=>rfl
|c::l,h=>by
  obtain⟨y,e,_⟩:=h c zq;have G:=Aa (k:=k) (l:=l) fun z J=>h z (by simp[J])
  unfold Qp at G ⊢;rw[WV,List.filterMap_cons_some (by rw[sD e,NZ]),List.filterMap_cons_some e,WV,G]
def wfT(t:Zq):Prop:=t.Text.length≤10000∧(0≤t.N∧t.N≤1000000)∧(0≤t.At∧t.At≤100000)∧(t.Kind=1→t.N=0)∧(t.Kind=2→t.Text=[])∧(t.Kind=3→t.N=0)
theorem Qfk{t x:List UInt8}{k:Int}(hw:X8 t=true)(h:FC t=.ok (k,x,v)):x.length≤t.length∧(0≤v∧v≤1000000)∧(k=1→v=0)∧(k=2→x=[])∧(k=3→v=0):=by
 have G:=rY hw h;cases t with
|nil=>cases hw
|cons c r =>
  unfold FC at h;simp only at h;split at h
  ·split at h
   ·cases h
   ·simp only[Except.ok.injEq,XA] at h;obtain⟨rfl,rfl,rfl⟩:=h;exact⟨Kz _,by omega,fun _=>rfl,fun h=>by omega,fun h=>by omega⟩
  ·split at h
   ·split at h
    ·cases h
    cases hv2:C9 0 (c::r) with
   |none=>rw[hv2] at h;cases h
   |some u =>
     rw[hv2] at h;simp only[Except.ok.injEq,XA] at h;obtain⟨rfl,rfl,rfl⟩:=h;rcases G with G|G
     ·exact⟨by simp,G.2.2,fun h=>by omega,fun _=>rfl,fun h=>by omega⟩
     ·exact absurd rfl G.1
   ·split at h
    ·simp only[Except.ok.injEq,XA] at h;obtain⟨rfl,rfl,rfl⟩:=h;exact⟨Kz _,by omega,fun h=>by omega,fun h=>by omega,fun _=>rfl⟩
    ·cases h
theorem Qfl{p:Nat}{l:List Zq}(h:Lx p s l):p+s.length≤9000→∀t∈l,wfT t:=by
 induction h with
|nil W=>intro _ t J;cases J
|@cons p g t r l k v x W hw J Y hl Z =>
  intro hp z G;simp only[X4] at hp;rcases List.mem_cons.1 G with rfl|G
  ·obtain⟨h1,U,h3,h4,O⟩:=Qfk hw J;exact⟨by simp only;omega,U,by simp only;omega,h3,h4,O⟩
  ·exact Z zo z G
theorem sF{w:List UInt8}(h:Rk w≠0):QcN (Rk w)=w∧1≤Rk w∧Rk w≤7:=by
 unfold Rk VJ at h ⊢;simp only[Qs] at h ⊢;by_cases G:w=[102,101,101,100,101,114]
 ·subst G;exact⟨rfl,by decide,by decide⟩
 by_cases J:w=[99,97,98,108,101]
 ·subst J;exact⟨rfl,by decide,by decide⟩
 by_cases U:w=[111,119,110,101,114]
 ·subst U;exact⟨rfl,by decide,by decide⟩
 by_cases W:w=[99,111,110,116,114,97,99,116]
 ·subst W;exact⟨rfl,by decide,by decide⟩
 by_cases O:w=[99,104,97,114,103,101,114]
 ·subst O;exact⟨rfl,by decide,by decide⟩
 by_cases Z:w=[98,97,121]
 ·subst Z;exact⟨rfl,by decide,by decide⟩
 by_cases Y:w=[116,97,114,105,102,102]
 ·subst Y;exact⟨rfl,by decide,by decide⟩
 ·refine absurd ?_ h;rw[beq_false_of_ne G,beq_false_of_ne J,beq_false_of_ne U,beq_false_of_ne W,beq_false_of_ne O,beq_false_of_ne Z,beq_false_of_ne Y];rfl
theorem xk{k n a:Int}(O:0≤k∧k≤10)(J:0≤n∧n≤1000000)(U:0≤a∧a≤100000)(hs:s.length≤10000)(G:l.length≤10000)(h:Yx d l):Kb (d+1) ⟨k,s,n,a,l⟩ :=
 ⟨⟨by simp only;omega,by simp only;omega⟩,⟨by simp only;omega,by simp only;omega⟩,⟨by simp only;omega,by simp only;omega⟩,by simp only[maxLen];omega,by simp only[maxLen];omega,h⟩
theorem qZ(h:Kb d x)(h':Yx d xs):Yx d (GN.cs x::xs):=by
 intro k G;rcases List.mem_cons.1 G with rfl|G
 ·exact⟨x,NZ x,h⟩
 ·exact h' k G
theorem QdB{ys:List (List PV)}(h:Yx d xs)(h':Yx d ys):Yx d (xs++ys):=by
 intro k G;rcases List.mem_append.1 G with G|G
 ·exact h k G
 ·exact h' k G
theorem sH{v:List Zq}(h:∀t∈v,wfT t):Yx 1 (v.map yw):=by
 intro k G;obtain⟨t,U,rfl⟩:=List.mem_map.1 G;obtain⟨W,O,J,_⟩:=h t U;refine⟨SS t,NZ _,?_⟩;unfold SS;split
 ·exact xk zo O J zq zq fun k G=>by cases G
 ·exact xk zo zo J W zq fun k G=>by cases G
theorem QdC(h:rQ a x)(J:a.length≤10000)(hb:∀t∈a,wfT t):Kb 2 x:=by
 cases h with
|@mk t e v Y W Z U =>
  have G:=hb t zq;exact xk zo zo G.2.2.1 G.1 (by simp at J;simp;omega) (sH fun z O=>hb z (by simp[O]))
theorem sI(h:yA a xs):a.length≤10000→(∀t∈a,wfT t)→Yx 2 xs∧xs.length≤a.length:=by
 induction h with
|nil=>intro _ _;exact⟨fun k W=>(by cases W),Kz _⟩
|@cons t v r xs h1 Y h3 h4 O =>
  intro U hb;simp only[JF,X4] at U;have J:=hb t zq;obtain⟨k1,Z⟩:=O zo fun z G=>hb z (by simp[G])
  exact⟨qZ (xk zo zo J.2.2.1 J.1 (by simp;omega) (sH fun z G=>hb z (by simp[G]))) k1,by simp only[JF,X4];omega⟩
theorem QdD(h:jY a xs):a.length≤10000→(∀t∈a,wfT t)→Yx 2 xs∧xs.length≤a.length:=by
 induction h with
|nil=>intro _ _;exact⟨fun k W=>(by cases W),by simp⟩
|@cons a r x xs J Y O =>
  intro U hb;simp only[X4] at U;have Z:1≤a.length:=by cases J;simp
  obtain⟨k1,k2⟩:=O zo fun z G=>hb z (by simp[G])
  exact⟨qZ (QdC J zo fun z G=>hb z (by simp[G])) k1,by simp only[JF,X4];omega⟩
theorem QaR(h:O9 a x)(U:a.length≤10000)(hb:∀t∈a,wfT t):Kb 3 x:=by
 cases h with
|@plain t m e a xs Z O h3 h4 W J h7 =>
  simp only[JF,X4,List.length_nil] at U;obtain⟨k1,k2⟩:=sI J zo fun z G=>hb z (by simp[G])
  have:=sF O;exact xk zo zo (hb t zq).2.2.1 (hb m zq).1 zo k1
|@tariff t m e a b xs ys Z O h4 W J h7 h8 =>
  simp only[JF,X4] at U;obtain⟨k1,k2⟩:=sI J zo fun z G=>hb z (by simp[G])
  obtain⟨Y,k4⟩:=QdD h8 zo fun z G=>hb z (by simp[G])
  exact xk zo zo (hb t zq).2.2.1 (hb m zq).1 (by simp only[X4];omega) (QdB k1 Y)
theorem QaS(h:BR a xs):a.length≤10000→(∀t∈a,wfT t)→Yx 3 xs∧xs.length≤a.length:=by
 induction h with
|nil=>intro _ _;exact⟨fun k W=>(by cases W),by simp⟩
|@cons a r x xs J Y O =>
  intro U hb;simp only[X4] at U;have Z:1≤a.length:=by cases J<;>simp
  obtain⟨k1,k2⟩:=O zo fun z G=>hb z (by simp[G])
  exact⟨qZ (QaR J zo fun z G=>hb z (by simp[G])) k1,by simp only[JF,X4];omega⟩
theorem Qfm(hs:s.length≤8000)(G:T.length≤10000)(h:Lx 0 s T)(O:BR T xs):Kb 4 (FD xs):=by
 obtain⟨J,U⟩:=QaS O G (Qfl h zo);exact xk zo zo zo zq zo J
theorem QaT(h:Yx d l):∀{i:Nat},i<l.length→∃y,Option.bind (Q3 l (i:Int)) GN.of=some y∧Kb d y∧(Qp l)[i]?=some y:=by
 induction l with
|nil=>intro i hi;cases hi
|cons c l U =>
  intro i hi;obtain⟨z,e,t⟩:=h c zq;have G:Qp (c::l)=z::Qp l:=by unfold Qp;rw[List.filterMap_cons,e]
  rw[G];cases i with
 |zero=>exact⟨z,by rw[ZW];exact e,t,rfl⟩
 |succ i =>
   obtain⟨y,J,O,W⟩:=U (fun k G=>h k (by simp[G])) (i:=i) (by simpa using hi);refine⟨y,?_,O,W⟩;rw[ZW] at J ⊢;exact J
theorem yN{l:List α}(h:i<l.length):∃x,Q3 l (i:Int)=some x∧l[i]?=some x:=⟨l[i],by rw[ZW,List.getElem?_eq_getElem h],List.getElem?_eq_getElem h⟩
theorem sJ{l:List Int}{k:Int}(Z:l.length≤1000)(hn:2000≤n):Qz n l b k=some (l.contains k):=by
 unfold Qz;have:=V3 (B:=fun G Y=>Vy l k G Y) (n:=n) (L:=l.length) (fun i r=>r=(l.drop i).contains k) zo (fun rec i hi U=>?_) 0 zo zo
 ·obtain⟨r,e,h⟩:=this;rw[show((0:Nat):Int)=0 from rfl] at e;rw[e,h];rfl
 unfold Vy;simp only[Qb,WB,QV];by_cases J:i<l.length;rotate_left
 ·rw[Ki zo,Kk,List.drop_eq_nil_of_le zo];exact Qm rfl
 obtain⟨O,W⟩:=U J;rw[KJ zo,Kj,ZW,List.getElem?_eq_getElem J,Zj,O,List.drop_eq_getElem_cons J,List.contains_cons,Zg];generalize l[i]'J=y;by_cases h:y=k
 ·subst h;rw[KJ rfl,Kj,beq_self_eq_true,Bool.true_or];exact Qm rfl
 ·rw[Ki h,Kk,show(k==y)=false from by simpa using fun e=>h e.symm,Bool.false_or];exact W
def nL(p:GN×K6):Bool:=decide (p.2.from_≤p.1.N)&&decide (p.1.N≤p.2.to_)
def snR(a:GN)(sp:List K6):Except (Int×Int) (List Int) :=if((Qp a.Kids).zip sp).all nL then .ok ((Qp a.Kids).map (·.N)) else .error (3,a.At)
def snF(a:GN)(sp:List K6):Except (Int×Int) (List Int) :=if a.Kids.length=sp.length then if(Qp a.Kids).all (fun y=>decide (y.Kind=6)) then snR a sp else .error (9,a.At) else .error (9,a.At)
theorem xm{a:GN}(ht:Kb d a)(hn:2000≤n)(hl:a.Kids.length=sp.length)(hs:sp.length≤10):K8 n a sp=some (snR a sp):=by
 obtain⟨e,rfl,_,_,hk⟩:=ZC ht;have af:=Gi hk;unfold K8;simp only[Qb,WB];rw[show wH (sp.length:Int) (sp.length:Int) 8=true from by unfold wH;simp;omega,Kj]
 have:=Yl (n:=n) (B:=fun O (v:List Int×Int)=>VA n a sp O v.1 v.2) (v:=(List.replicate (Int.toNat (sp.length:Int)) 0,0))
  (Q:=fun v r=>∀i:Nat,v.2=(i:Int)→r=if(((Qp a.Kids).drop i).zip (sp.drop i)).all nL then .ok ((Qp a.Kids).map (·.N)) else .error (3,a.At))
  (fun v=>sp.length-v.2.toNat) (fun v=>∃i:Nat,v.2=(i:Int)∧i≤sp.length∧v.1=((Qp a.Kids).take i).map (·.N)++List.replicate (sp.length-i) 0) ?_ ⟨0,rfl,by omega,by simp⟩ (by simp only;omega)
 ·obtain⟨r,e1,h⟩:=this;rw[e1,h 0 rfl];rfl
 rintro rec ⟨l,q⟩ ⟨i,hq,hi,U⟩ J;simp only at hq U J ⊢;subst hq;unfold VA;simp only[Qb,WB,QV];by_cases c1:i<a.Kids.length;rotate_left
 ·rw[Ki zo,Kk];refine Qm fun j hj=>?_
  obtain rfl:i=j:=by omega
  rw[List.drop_eq_nil_of_le (by omega:(Qp a.Kids).length≤i),List.zip_nil_left,List.all_nil,if_pos rfl,U,List.take_of_length_le zo,show sp.length-i=0 by omega];simp
 obtain⟨y,hy,ai,hK⟩:=QaT hk c1;obtain⟨Z,ac⟩:=DC.1 hK;have W:(Qp a.Kids).length=sp.length:=by omega
 obtain⟨s,aa,ae⟩:=yN (l:=sp) (i:=i) zo;obtain⟨ab,Y⟩:=DC.1 ae;have ah:l.length=sp.length:=by rw[U];simp;omega
 obtain⟨z,hz,_⟩:=yN (l:=l) (i:=i) zo;rw[KJ zo,Kj,hy,Zj,aa,Zj]
 have ad:Vz n s y.N=some (nL (y,s)):=by
  unfold Vz nL leI;cases decide (s.from_≤y.N)<;>rfl
 rw[ad,Zj,hz,Zj,ZP (x:=(i:Int)+1) zo zo,Int.toNat_natCast]
 have G:((Qp a.Kids).drop i).zip (sp.drop i)=(y,s)::((Qp a.Kids).drop (i+1)).zip (sp.drop (i+1)):=by
  rw[List.drop_eq_getElem_cons Z,List.drop_eq_getElem_cons ab,ac,Y,List.zip_cons_cons]
 cases hb:nL (y,s)
 ·refine Qm fun j hj=>?_
  obtain rfl:i=j:=by omega
  rw[G,List.all_cons,hb];rfl
 ·refine VZ (J (l.set i y.N,(i:Int)+1) ⟨i+1,by simp,by omega,?_⟩ (by simp only;omega)) ?_
  ·simp only;rw[U,List.set_append,if_neg (by simp;omega)];simp only[WB,List.length_take];rw[show i-min i (Qp a.Kids).length=0 by omega,show sp.length-i=(sp.length-(i+1))+1 by omega,List.replicate_succ,List.set_cons_zero,List.take_add_one,hK];simp
  ·intro r hr j hj;obtain rfl:i=j:=by omega
   rw[G,List.all_cons,hb,Bool.true_and];exact hr (i+1) zq
theorem N9{a:GN}(O:Kb d a)(hn:9223372036854776000≤n)(hs:sp.length≤10):Zy n a sp=some (snF a sp):=by
 unfold Zy snF;simp only[Qb,WB];rw[Zg];by_cases h:a.Kids.length=sp.length;rotate_left
 ·rw[Ki zo,if_neg h];rfl
 rw[KJ zo,if_pos h,Bool.not_true,Kk];obtain⟨e,rfl,hl,_,hk⟩:=ZC O;have:=V3 (B:=fun G Y=>VC n a sp G Y) (n:=n) (L:=a.Kids.length) (fun i r=>r=if(Qp (a.Kids.drop i)).all (fun y=>decide (y.Kind=6)) then snR a sp else .error (9,a.At)) hl (fun rec i hi hr=>?_) 0 zo zo
 ·obtain⟨r,U,h1⟩:=this;rw[show((0:Nat):Int)=0 from rfl] at U;rw[U,h1];rfl
 unfold VC;simp only[Qb,WB,QV];by_cases J:i<a.Kids.length;rotate_left
 ·rw[Ki zo,Kk,JL _ zo,xm O zo h hs];exact Qm rfl
 obtain⟨y,Z,aa,hc⟩:=XD hk J;obtain⟨W,w2⟩:=hr J;rw[KJ zo,Kj,Z,Zj,W,hc,List.all_cons,Zg];cases decide (y.Kind=6)
 ·exact Qm rfl
 ·simpa using w2
theorem q8{a:GN}{l:List Int}(J:Kb d a)(h:snF a sp=.ok l):l.length=sp.length∧l=(Qp a.Kids).map (·.N)∧(((Qp a.Kids).zip sp).all nL)=true:=by
 unfold snF snR at h;obtain⟨e,rfl,_,_,O⟩:=ZC J;have G:=Gi O;split at h
 ·split at h
  ·split at h
   ·cases h;rename_i U Y W;exact⟨by simp[G,U],rfl,W⟩
   ·cases h
  ·cases h
 ·cases h
def nmF(ks:List Int)(th:List (List UInt8×KS))(a:GN):Except (Int×Int) Int :=
  match Qp a.Kids with
 |[y]=>if y.Kind=5 then
      (match FH Qt y.Name th with
      |some t=>if ks.contains t.kind then .ok t.index else .error (8,a.At)
      |none=>.error (8,a.At))
    else .error (9,a.At)
 |_=>.error (9,a.At)
theorem sM{a h0:GN}{c:Yb}{k:Yc}{b:ZB}{s:QW}{h7 h10:List (List UInt8×Bool)}{th:List (List UInt8×KS)}(ht:Kb d a)(hn:2000≤n):Gy n a h0 c k g b s f dd h7 th h10=some (nmF [1,2] th a):=by
 obtain⟨e,rfl,hl,_,hk⟩:=ZC ht;have G:=Gi hk;unfold Gy nmF;simp only[Qb,WB,Zg];by_cases h:a.Kids.length=1;rotate_left
 ·rw[Ki zo];simp only[Bool.not_false,Kj,Zj];split
  ·rename_i y U;rw[U] at G;simp at G;omega
  ·rfl
 obtain⟨y,U,aa,Z⟩:=QaT hk (i:=0) zo;rw[show((0:Nat):Int)=0 from rfl] at U
 have Y:Qp a.Kids=[y]:=by
  match hq:Qp a.Kids with
 |[]=>rw[hq] at G;simp at G;omega
 |[z]=>rw[hq] at Z;simp at Z;rw[Z]
 |_::_::_=>rw[hq] at G;simp at G;omega
 rw[KJ zo,U,Y];simp only[Bool.not_true,Kk,Zj];by_cases O:y.Kind=5;rotate_left
 ·rw[Ki O,if_neg O];rfl
 rw[KJ O,if_pos O];simp only[Bool.not_true,Kk];unfold Dh
 match hm:FH Qt y.Name th with
|none=>rfl
|some t =>
  simp only[Option.isSome_some,Kj];have hD:Qx Qt y.Name (⟨0,0⟩:KS) th=t:=by unfold Qx;rw[hm];rfl
  have:=V3 (B:=fun J l6=>XX a th y J l6) (n:=n) (L:=([1,2]:List Int).length) (fun i r=>r=if(([1,2]:List Int).drop i).contains t.kind then .ok t.index else .error (8,a.At)) zq (fun rec i hi hr=>?_) 0 zo (by simp;omega)
  ·obtain⟨r,e1,h1⟩:=this;rw[show((0:Nat):Int)=0 from rfl] at e1;rw[e1,h1];rfl
  unfold XX VD;simp only[Qb,WB,QV,hD];by_cases W:i<([1,2]:List Int).length;rotate_left
  ·rw[Ki zo,Kk,List.drop_eq_nil_of_le zo];exact Qm rfl
  obtain⟨w1,w2⟩:=hr W;rw[KJ zo,Kj,ZW,List.getElem?_eq_getElem W,Zj,w1,List.drop_eq_getElem_cons W,List.contains_cons,Zg];generalize ([1,2]:List Int)[i]'W=z;by_cases h:z=t.kind
  ·subst h;rw[KJ rfl,Kj,beq_self_eq_true,Bool.true_or];exact Qm rfl
  ·rw[Ki h,Kk,show(t.kind==z)=false from by simpa using fun e=>h e.symm,Bool.false_or];exact w2
theorem sQ{a h0:GN}{c:Yb}{k:Yc}{b:ZB}{s:QW}{h7 h10:List (List UInt8×Bool)}{th:List (List UInt8×KS)}(ht:Kb d a)(hn:2000≤n):U7 n a h0 c k g b s f dd h7 th h10=some (nmF [3] th a):=by
 obtain⟨e,rfl,hl,_,hk⟩:=ZC ht;have G:=Gi hk;unfold U7 nmF;simp only[Qb,WB,Zg];by_cases h:a.Kids.length=1;rotate_left
 ·rw[Ki zo];simp only[Bool.not_false,Kj,Zj];split
  ·rename_i y U;rw[U] at G;simp at G;omega
  ·rfl
 obtain⟨y,U,aa,Z⟩:=QaT hk (i:=0) zo;rw[show((0:Nat):Int)=0 from rfl] at U
 have Y:Qp a.Kids=[y]:=by
  match hq:Qp a.Kids with
 |[]=>rw[hq] at G;simp at G;omega
 |[z]=>rw[hq] at Z;simp at Z;rw[Z]
 |_::_::_=>rw[hq] at G;simp at G;omega
 rw[KJ zo,U,Y];simp only[Bool.not_true,Kk,Zj];by_cases O:y.Kind=5;rotate_left
 ·rw[Ki O,if_neg O];rfl
 rw[KJ O,if_pos O];simp only[Bool.not_true,Kk];unfold Dh
 match hm:FH Qt y.Name th with
|none=>rfl
|some t =>
  simp only[Option.isSome_some,Kj];have hD:Qx Qt y.Name (⟨0,0⟩:KS) th=t:=by unfold Qx;rw[hm];rfl
  have:=V3 (B:=fun J l6=>Jn a th y J l6) (n:=n) (L:=([3]:List Int).length) (fun i r=>r=if(([3]:List Int).drop i).contains t.kind then .ok t.index else .error (8,a.At)) zq (fun rec i hi hr=>?_) 0 zo (by simp;omega)
  ·obtain⟨r,e1,h1⟩:=this;rw[show((0:Nat):Int)=0 from rfl] at e1;rw[e1,h1];rfl
  unfold Jn YD;simp only[Qb,WB,QV,hD];by_cases W:i<([3]:List Int).length;rotate_left
  ·rw[Ki zo,Kk,List.drop_eq_nil_of_le zo];exact Qm rfl
  obtain⟨w1,w2⟩:=hr W;rw[KJ zo,Kj,ZW,List.getElem?_eq_getElem W,Zj,w1,List.drop_eq_getElem_cons W,List.contains_cons,Zg];generalize ([3]:List Int)[i]'W=z;by_cases h:z=t.kind
  ·subst h;rw[KJ rfl,Kj,beq_self_eq_true,Bool.true_or];exact Qm rfl
  ·rw[Ki h,Kk,show(t.kind==z)=false from by simpa using fun e=>h e.symm,Bool.false_or];exact w2
theorem sU{a h0:GN}{c:Yb}{k:Yc}{b:ZB}{s:QW}{h7 h10:List (List UInt8×Bool)}{th:List (List UInt8×KS)}(ht:Kb d a)(hn:2000≤n):U8 n a h0 c k g b s f dd h7 th h10=some (nmF [5] th a):=by
 obtain⟨e,rfl,hl,_,hk⟩:=ZC ht;have G:=Gi hk;unfold U8 nmF;simp only[Qb,WB,Zg];by_cases h:a.Kids.length=1;rotate_left
 ·rw[Ki zo];simp only[Bool.not_false,Kj,Zj];split
  ·rename_i y U;rw[U] at G;simp at G;omega
  ·rfl
 obtain⟨y,U,aa,Z⟩:=QaT hk (i:=0) zo;rw[show((0:Nat):Int)=0 from rfl] at U
 have Y:Qp a.Kids=[y]:=by
  match hq:Qp a.Kids with
 |[]=>rw[hq] at G;simp at G;omega
 |[z]=>rw[hq] at Z;simp at Z;rw[Z]
 |_::_::_=>rw[hq] at G;simp at G;omega
 rw[KJ zo,U,Y];simp only[Bool.not_true,Kk,Zj];by_cases O:y.Kind=5;rotate_left
 ·rw[Ki O,if_neg O];rfl
 rw[KJ O,if_pos O];simp only[Bool.not_true,Kk];unfold Dh
 match hm:FH Qt y.Name th with
|none=>rfl
|some t =>
  simp only[Option.isSome_some,Kj];have hD:Qx Qt y.Name (⟨0,0⟩:KS) th=t:=by unfold Qx;rw[hm];rfl
  have:=V3 (B:=fun J l6=>Jo a th y J l6) (n:=n) (L:=([5]:List Int).length) (fun i r=>r=if(([5]:List Int).drop i).contains t.kind then .ok t.index else .error (8,a.At)) zq (fun rec i hi hr=>?_) 0 zo (by simp;omega)
  ·obtain⟨r,e1,h1⟩:=this;rw[show((0:Nat):Int)=0 from rfl] at e1;rw[e1,h1];rfl
  unfold Jo YE;simp only[Qb,WB,QV,hD];by_cases W:i<([5]:List Int).length;rotate_left
  ·rw[Ki zo,Kk,List.drop_eq_nil_of_le zo];exact Qm rfl
  obtain⟨w1,w2⟩:=hr W;rw[KJ zo,Kj,ZW,List.getElem?_eq_getElem W,Zj,w1,List.drop_eq_getElem_cons W,List.contains_cons,Zg];generalize ([5]:List Int)[i]'W=z;by_cases h:z=t.kind
  ·subst h;rw[KJ rfl,Kj,beq_self_eq_true,Bool.true_or];exact Qm rfl
  ·rw[Ki h,Kk,show(t.kind==z)=false from by simpa using fun e=>h e.symm,Bool.false_or];exact w2
def phL(a:GN):List Int→Int→Int→Except (Int×Int) Int|[],bits,_=>.ok bits|x::l,bits,before=>if x≤before then .error (3,a.At) else phL a l (gW .i64 bits (zw .i64 1 (wi (x-1)))) x
def nM(a:GN):List K6:=List.take a.Kids.length [(⟨1,3⟩:K6),(⟨1,3⟩:K6),(⟨1,3⟩:K6)]
def eb{A B:Type}(x:Except (Int×Int) A)(k:A→Except (Int×Int) B):Except (Int×Int) B:=match x with
|.ok a=>k a
|.error e=>.error e
def phF(a:GN):Except (Int×Int) Int:=if 1≤a.Kids.length∧a.Kids.length≤3 then eb (snF a (nM a)) fun l=>phL a l 0 0 else .error (9,a.At)
theorem Qfo(h:Yx d l):∀x∈(Qp l).map (·.N),-9223372036854775808≤x∧x≤9223372036854775807:=by
 intro x J;obtain⟨y,G,rfl⟩:=List.mem_map.1 J;have:=NU h y G;obtain⟨_,rfl,_⟩:=ZC this;exact this.2.1
theorem sV{a:GN}(ht:Kb d a)(hn:9223372036854776000≤n):JS n a=some (phF a):=by
 have U:=ht;obtain⟨e,rfl,hl,_,hk⟩:=ZC ht;unfold JS phF;simp only[Qb,WB,QV];by_cases Y:1≤a.Kids.length∧a.Kids.length≤3;rotate_left
 ·rw[if_neg Y];by_cases Z:a.Kids.length<1
  ·rw[KJ zo];rfl
  ·rw[Ki zo,KJ zo];rfl
 obtain⟨Y,Z⟩:=Y;rw[Ki zo,Ki zo,if_pos ⟨Y,Z⟩];simp only[Kk,Zj];rw[show sliceB 0 (a.Kids.length:Int) (List.length [(⟨1,3⟩:K6),(⟨1,3⟩:K6),(⟨1,3⟩:K6)])=true from by unfold sliceB;simp;omega,Kj];rw[show List.drop (Int.toNat 0) (List.take (Int.toNat (a.Kids.length:Int)) [(⟨1,3⟩:K6),(⟨1,3⟩:K6),(⟨1,3⟩:K6)])=nM a from by unfold nM;simp];rw[N9 U hn (by unfold nM;simp;omega),Zj]
 match hq:snF a (nM a) with
|.error e=>rfl
|.ok r =>
  obtain⟨q1,q2,_⟩:=q8 U hq;have hr:=Qfo hk;rw[←q2] at hr;have ab:r.length≤3:=by rw[q1];unfold nM;simp;omega
  show QB _ n _=some (phL a r 0 0)
  have:=Yl (n:=n) (B:=fun J (v:Int×Int×Int)=>Wl a r J v.1 v.2.1 v.2.2) (v:=(0,0,0))
   (Q:=fun v z=>z=phL a (r.drop v.2.2.toNat) v.1 v.2.1) (fun v=>r.length-v.2.2.toNat) (fun v=>0≤v.2.1∧∃i:Nat,v.2.2=(i:Int)∧i≤r.length) ?_ ⟨Int.le_refl _,0,rfl,by omega⟩ (by simp only;omega)
  ·obtain⟨z,e1,h⟩:=this;rw[e1,h];rfl
  rintro rec ⟨bits,before,q⟩ ⟨hb,i,hi,aa⟩ G;simp only at hb hi G ⊢;subst hi;unfold Wl;simp only[Qb,WB,QV,Int.toNat_natCast,leI] at G ⊢;by_cases O:i<r.length;rotate_left
  ·rw[Ki zo,Kk,List.drop_eq_nil_of_le zo];exact Qm rfl
  have hx:=hr (r[i]'O) (List.getElem_mem O);rw[KJ zo,Kj,ZW,List.getElem?_eq_getElem O,Zj,List.drop_eq_getElem_cons O];generalize r[i]'O=x at hx;unfold phL;by_cases W:x≤before
  ·rw[KJ W,if_pos W];exact Qm rfl
  ·rw[Ki W,if_neg W,ZP (x:=x-1) zo zo,Ki zo,ZP (x:=(i:Int)+1) zo zo];simp only[Kk,Kj,Bool.not_false];have:=G (gW .i64 bits (zw .i64 1 (x-1)),x,(i:Int)+1) ⟨by simp only;omega,i+1,by simp,O⟩ (by simp only;omega);simpa only[show((i:Int)+1).toNat=i+1 by omega] using this
abbrev SQ:=Yb×Yc×Yi×ZB
variable {q:SQ}
abbrev Ua:=List (List UInt8×Bool)
abbrev ThM:=List (List UInt8×KS)
def Xb(h:Ua)(s:List UInt8):Bool:=Qx Qa s false h
def q9(a:GN)(sp:List K6)(f:List Int→SQ):Except (Int×Int) SQ:=eb (snF a sp) fun l=>.ok (f l)
def nmQ(ks:List Int)(th:ThM)(a:GN)(f:Int→SQ):Except (Int×Int) SQ:=eb (nmF ks th a) fun x=>.ok (f x)
def sW(cs:List Yc)(a:GN)(f:List Int→SQ):Except (Int×Int) SQ:=eb (snF a [(⟨1,1000000⟩:K6)]) fun l=>if cs.all (fun c=>!decide (c.Card=l.getD 0 0)) then .ok (f l) else .error (5,a.At)
def Bd(ks:List Int)(k:Int)(a:GN)(h:Ua)(v:Except (Int×Int) SQ):Except (Int×Int) (SQ×Ua) :=if ks.contains k then if Xb h a.Name then .error (5,a.At) else eb v fun q=>.ok (q,Ql Qa a.Name true h) else .error (9,a.At)
def Qfp(k:Int)(cs:List Yc)(th:ThM)(a:GN)(q:SQ)(h:Ua):Except (Int×Int) (SQ×Ua) :=if a.Name=[108,105,109,105,116] then Bd [1,2] k a h (q9 a [(⟨1,1000⟩:K6)] fun l=>(⟨q.1.Name,q.1.Up,l.getD 0 0,q.1.Neutral,q.1.Fuse,q.1.Cable⟩,q.2)) else if a.Name=[110,101,117,116,114,97,108] then Bd [1,2] k a h (q9 a [(⟨1,1000⟩:K6)] fun l=>(⟨q.1.Name,q.1.Up,q.1.Limit,l.getD 0 0,q.1.Fuse,q.1.Cable⟩,q.2)) else if a.Name=[102,117,115,101] then Bd [1,2] k a h (q9 a [(⟨1,1000⟩:K6),(⟨0,1000000⟩:K6)] fun l=>(⟨q.1.Name,q.1.Up,q.1.Limit,q.1.Neutral,⟨l.getD 0 0,l.getD 1 0⟩,q.1.Cable⟩,q.2)) else if a.Name=[116,104,101,114,109,97,108] then Bd [1,2] k a h (q9 a [(⟨0,200000⟩:K6),(⟨0,200000⟩:K6),(⟨0,1000⟩:K6),(⟨0,1000⟩:K6),(⟨1,1000000⟩:K6)] fun l=>(⟨q.1.Name,q.1.Up,q.1.Limit,q.1.Neutral,q.1.Fuse,⟨l.getD 0 0,l.getD 1 0,l.getD 2 0,l.getD 3 0,l.getD 4 0⟩⟩,q.2)) else if a.Name=[102,114,111,109] then Bd [2] k a h (nmQ [1,2] th a fun x=>(⟨q.1.Name,x,q.1.Limit,q.1.Neutral,q.1.Fuse,q.1.Cable⟩,q.2)) else if a.Name=[111,119,110,101,114] then Bd [4,5] k a h (nmQ [3] th a fun x=>(q.1,⟨q.2.1.Name,x,q.2.1.Rank,q.2.1.Card⟩,⟨q.2.2.1.Name,q.2.2.1.At,q.2.2.1.Phases,q.2.2.1.Min,q.2.2.1.Max,q.2.2.1.Step,q.2.2.1.Fallback,x⟩,q.2.2.2)) else if a.Name=[114,97,110,107] then Bd [4] k a h (q9 a [(⟨1,9⟩:K6)] fun l=>(q.1,⟨q.2.1.Name,q.2.1.Owner,l.getD 0 0,q.2.1.Card⟩,q.2.2)) else if a.Name=[99,97,114,100] then Bd [4] k a h (sW cs a fun l=>(q.1,⟨q.2.1.Name,q.2.1.Owner,q.2.1.Rank,l.getD 0 0⟩,q.2.2)) else if a.Name=[97,116] then Bd [5] k a h (nmQ [1,2] th a fun x=>(q.1,q.2.1,⟨q.2.2.1.Name,x,q.2.2.1.Phases,q.2.2.1.Min,q.2.2.1.Max,q.2.2.1.Step,q.2.2.1.Fallback,q.2.2.1.Owner⟩,q.2.2.2)) else if a.Name=[112,104,97,115,101,115] then Bd [5] k a h (eb (phF a) fun x=>.ok (q.1,q.2.1,⟨q.2.2.1.Name,q.2.2.1.At,x,q.2.2.1.Min,q.2.2.1.Max,q.2.2.1.Step,q.2.2.1.Fallback,q.2.2.1.Owner⟩,q.2.2.2)) else if a.Name=[97,109,112,115] then Bd [5] k a h (q9 a [(⟨1,80⟩:K6),(⟨1,80⟩:K6),(⟨1,80⟩:K6)] fun l=>(q.1,q.2.1,⟨q.2.2.1.Name,q.2.2.1.At,q.2.2.1.Phases,l.getD 0 0,l.getD 1 0,l.getD 2 0,q.2.2.1.Fallback,q.2.2.1.Owner⟩,q.2.2.2)) else if a.Name=[102,97,108,108,98,97,99,107] then Bd [5] k a h (q9 a [(⟨0,80⟩:K6)] fun l=>(q.1,q.2.1,⟨q.2.2.1.Name,q.2.2.1.At,q.2.2.1.Phases,q.2.2.1.Min,q.2.2.1.Max,q.2.2.1.Step,l.getD 0 0,q.2.2.1.Owner⟩,q.2.2.2)) else if a.Name=[99,104,97,114,103,101,114] then Bd [6] k a h (nmQ [5] th a fun x=>(q.1,q.2.1,q.2.2.1,⟨q.2.2.2.Name,x⟩)) else .error (9,a.At)
def CJ(k:Int)(cs:List Yc)(th:ThM):List GN→SQ→Ua→Except (Int×Int) (SQ×Ua)|[],q,h=>.ok (q,h)|a::l,q,h=>if a.Kind=3 then eb (Qfp k cs th a q h) fun v=>CJ k cs th l v.1 v.2 else CJ k cs th l q h
def pj{X V:Type}:Except ((Int×Int)×X) V→Except (Int×Int) V|.ok v=>.ok v|.error e=>.error e.1
abbrev AQ:=Yb×Yc×Yi×ZB×Ua
abbrev AE:=(Int×Int)×AQ
def xn(r:Except (Int×Int) (SQ×Ua)):Except (Int×Int) AQ:=eb r fun v=>.ok (v.1.1,v.1.2.1,v.1.2.2.1,v.1.2.2.2,v.2)
section
variable {n:Nat}{ks:List Int}{b:Bool}{k:Int}{a:GN}{h:Ua}{v:Except (Int×Int) SQ}{M:Option (Except AE AQ)}{E1 E2:AQ}{C:SQ×Ua→Except (Int×Int) (SQ×Ua)}
theorem Ub(U:ks.length≤1000)(W:2000≤n)(O:Does M (fun r=>pj r=xn (eb v fun q=>C (q,Ql Qa a.Name true h)))) :
  Does ((Qz n ks b k).bind fun Y=>cond (!Y) (some (.error ((9,a.At),E1))) (cond (Qx Qa a.Name false h) (some (.error ((5,a.At),E2))) M)) (fun r=>pj r=xn (eb (Bd ks k a h v) C)):=by
 rw[sJ U W,Zj];unfold Bd Xb;by_cases J:ks.contains k=true
 ·rw[J,if_pos rfl];by_cases G:Qx Qa a.Name false h=true
  ·rw[G,if_pos rfl];exact Qm rfl
  ·simp only[Bool.not_eq_true] at G;rw[G,if_neg zq];refine VZ O fun r Z=>?_
   rw[Z];cases v<;>rfl
 ·simp only[Bool.not_eq_true] at J;rw[J,if_neg zq];exact Qm rfl
theorem Rm{f:List Int→SQ}{F:List Int→Option (Except AE AQ)}{G:(Int×Int)→Option (Except AE AQ)}{X:(Int×Int)→AQ}(J:Kb d a)(U:9223372036854776000≤n)(hs:sp.length≤10)(W:∀e,G e=some (.error ((e.1,e.2),X e)))(O:∀l,l.length=sp.length→Does (F l) (fun r=>pj r=xn (C (f l,Ql Qa a.Name true h)))) :
  Does ((Zy n a sp).bind (FE F G)) (fun r=>pj r=xn (eb (q9 a sp f) fun q=>C (q,Ql Qa a.Name true h))):=by
 rw[N9 J U hs,Zj];unfold q9
 match hq:snF a sp with
|.error e=>exact⟨_,W e,rfl⟩
|.ok l=>exact O l (q8 J hq).1
theorem sZ{cs:List Yc}{f:List Int→SQ}{F:List Int→Option (Except AE AQ)}{G:(Int×Int)→Option (Except AE AQ)}{X:(Int×Int)→AQ}(J:Kb d a)(W:9223372036854776000≤n)(U:∀e,G e=some (.error ((e.1,e.2),X e)))(O:∀l,l.length=1→Does (F l) (fun r=>pj r=xn (eb (if cs.all (fun c=>!decide (c.Card=l.getD 0 0)) then .ok (f l) else .error (5,a.At)) fun q=>C (q,Ql Qa a.Name true h)))) :
  Does ((Zy n a [(⟨1,1000000⟩:K6)]).bind (FE F G)) (fun r=>pj r=xn (eb (sW cs a f) fun q=>C (q,Ql Qa a.Name true h))):=by
 rw[N9 J W zq,Zj];unfold sW
 match hq:snF a [(⟨1,1000000⟩:K6)] with
|.error e=>exact⟨_,U e,rfl⟩
|.ok l=>exact O l (q8 J hq).1
theorem Mh{y:Except (Int×Int) Int}{m:Option (Except (Int×Int) Int)}{f:Int→SQ}{F:Int→Option (Except AE AQ)}{G:(Int×Int)→Option (Except AE AQ)}{X:(Int×Int)→AQ}(U:m=some y)(O:∀e,G e=some (.error ((e.1,e.2),X e)))(J:∀x,Does (F x) (fun r=>pj r=xn (C (f x,Ql Qa a.Name true h)))) :
  Does (m.bind (FE F G)) (fun r=>pj r=xn (eb (eb y fun x=>.ok (f x)) fun q=>C (q,Ql Qa a.Name true h))):=by
 rw[U,Zj];cases y with
|error e=>exact⟨_,O e,rfl⟩
|ok x=>exact J x
end
theorem Xc{l:List Int}(h:i<l.length):Q3 l (i:Int)=some (l.getD i 0):=by
 rw[ZW,List.getElem?_eq_getElem h,List.getD_eq_getElem?_getD,List.getElem?_eq_getElem h];rfl
theorem QaU{s:QW}{h7 h10:Ua}{th:ThM}{c:Yb}{k:Yc}{b:ZB}(ht:Kb d y)(hs:s.Contracts.length≤100)(hn:9223372036854776000≤n) :
  Does (Fp n y c k g b s f dd h7 th h10) (fun r=>pj r=xn (CJ y.N s.Contracts th (Qp y.Kids) (c,k,g,b) h10)):=by
 obtain⟨e,rfl,hl,_,hk⟩:=ZC ht;unfold Fp
 refine Yl (n:=n) (B:=fun am (v:Int×Yb×Yc×Yi×ZB×Ua)=>JU n y s f dd h7 th am v.1 v.2.1 v.2.2.1 v.2.2.2.1 v.2.2.2.2.1 v.2.2.2.2.2) (v:=(0,c,k,g,b,h10))
  (Q:=fun v r=>pj r=xn (CJ y.N s.Contracts th (Qp (y.Kids.drop v.1.toNat)) (v.2.1,v.2.2.1,v.2.2.2.1,v.2.2.2.2.1) v.2.2.2.2.2)) (fun v=>y.Kids.length-v.1.toNat) (fun v=>∃i:Nat,v.1=(i:Int)∧i≤y.Kids.length) ?_ ⟨0,rfl,by omega⟩ (by simp only;omega)
 rintro rec ⟨q,c,k,g,b,h⟩ ⟨i,hi,au⟩ U;simp only at hi U ⊢;subst hi;unfold JU;simp only[Qb,WB,QV,Int.toNat_natCast] at U ⊢;by_cases c1:i<y.Kids.length;rotate_left
 ·rw[Ki zo,Kk,JL _ zo];exact Qm rfl
 obtain⟨a,ha,O,hc⟩:=XD hk c1;obtain⟨C,hC⟩:∃C:SQ×Ua→Except (Int×Int) (SQ×Ua),C=fun v=>CJ y.N s.Contracts th (Qp (y.Kids.drop (i+1))) v.1 v.2:=⟨_,rfl⟩
 have G:∀c k g b h,Does (QA (i:Int) rec c k g b h) (fun r=>pj r=xn (C ((c,k,g,b),h))):=by
  intro c k g b h;rw[hC];unfold QA;rw[ZP (x:=(i:Int)+1) zo zo];have:=U ((i:Int)+1,c,k,g,b,h) ⟨i+1,by simp,c1⟩ (by simp only;omega);simpa only[show((i:Int)+1).toNat=i+1 by omega] using this
 rw[KJ zo,Kj,ha,Zj,hc,Zg];unfold CJ;by_cases h3:a.Kind=3;rotate_left
 ·rw[Ki h3,if_neg h3,Bool.not_false,Kj];have:=G c k g b h;rw[hC] at this;exact this
 rw[KJ h3,if_pos h3,Bool.not_true,Kk];simp only[Bool.and_true];rw[←hC];unfold Qfp Qs;by_cases ai:a.Name=[108,105,109,105,116]
 ·rw[if_pos ai,beq_iff_eq.2 ai,Kj];refine Ub zq zo ?_;refine Rm (sp:=[(⟨1,1000⟩:K6)]) (C:=C) (X:=fun e=>_) O hn zq (fun e=>rfl) (fun l J=>?_);simp only[JF,List.length_nil] at J;rw[show Q3 l 0=some (l.getD 0 0) from Xc (i:=0) zo,Zj];exact G _ _ _ _ _
 rw[if_neg ai,show(a.Name==[108,105,109,105,116])=false from by simpa using ai,Kk];by_cases ah:a.Name=[110,101,117,116,114,97,108]
 ·rw[if_pos ah,beq_iff_eq.2 ah,Kj];refine Ub zq zo ?_;refine Rm (sp:=[(⟨1,1000⟩:K6)]) (C:=C) (X:=fun e=>_) O hn zq (fun e=>rfl) (fun l J=>?_);simp only[JF,List.length_nil] at J;rw[show Q3 l 0=some (l.getD 0 0) from Xc (i:=0) zo,Zj];exact G _ _ _ _ _
 rw[if_neg ah,show(a.Name==[110,101,117,116,114,97,108])=false from by simpa using ah,Kk];by_cases aj:a.Name=[102,117,115,101]
 ·rw[if_pos aj,beq_iff_eq.2 aj,Kj];refine Ub zq zo ?_;refine Rm (sp:=[(⟨1,1000⟩:K6),(⟨0,1000000⟩:K6)]) (C:=C) (X:=fun e=>_) O hn zq (fun e=>rfl) (fun l J=>?_);simp only[JF,List.length_nil] at J;rw[show Q3 l 0=some (l.getD 0 0) from Xc (i:=0) zo,Zj,show Q3 l 1=some (l.getD 1 0) from Xc (i:=1) zo,Zj];exact G _ _ _ _ _
 rw[if_neg aj,show(a.Name==[102,117,115,101])=false from by simpa using aj,Kk];by_cases W:a.Name=[116,104,101,114,109,97,108]
 ·rw[if_pos W,beq_iff_eq.2 W,Kj];refine Ub zq zo ?_;refine Rm (sp:=[(⟨0,200000⟩:K6),(⟨0,200000⟩:K6),(⟨0,1000⟩:K6),(⟨0,1000⟩:K6),(⟨1,1000000⟩:K6)]) (C:=C) (X:=fun e=>_) O hn zq (fun e=>rfl) (fun l J=>?_);simp only[JF,List.length_nil] at J;rw[show Q3 l 0=some (l.getD 0 0) from Xc (i:=0) zo,Zj,show Q3 l 1=some (l.getD 1 0) from Xc (i:=1) zo,Zj,show Q3 l 2=some (l.getD 2 0) from Xc (i:=2) zo,Zj,show Q3 l 3=some (l.getD 3 0) from Xc (i:=3) zo,Zj,show Q3 l 4=some (l.getD 4 0) from Xc (i:=4) zo,Zj];exact G _ _ _ _ _
 rw[if_neg W,show(a.Name==[116,104,101,114,109,97,108])=false from by simpa using W,Kk];by_cases ad:a.Name=[102,114,111,109]
 ·rw[if_pos ad,beq_iff_eq.2 ad,Kj];refine Ub zq zo ?_;exact Mh (C:=C) (X:=fun e=>_) (sM O (by omega:2000≤n)) (fun e=>rfl) (fun x=>G _ _ _ _ _)
 rw[if_neg ad,show(a.Name==[102,114,111,109])=false from by simpa using ad,Kk];by_cases af:a.Name=[111,119,110,101,114]
 ·rw[if_pos af,beq_iff_eq.2 af,Kj];refine Ub zq zo ?_;exact Mh (C:=C) (X:=fun e=>_) (sQ O (by omega:2000≤n)) (fun e=>rfl) (fun x=>G _ _ _ _ _)
 rw[if_neg af,show(a.Name==[111,119,110,101,114])=false from by simpa using af,Kk];by_cases al:a.Name=[114,97,110,107]
 ·rw[if_pos al,beq_iff_eq.2 al,Kj];refine Ub zq zo ?_;refine Rm (sp:=[(⟨1,9⟩:K6)]) (C:=C) (X:=fun e=>_) O hn zq (fun e=>rfl) (fun l J=>?_);simp only[JF,List.length_nil] at J;rw[show Q3 l 0=some (l.getD 0 0) from Xc (i:=0) zo,Zj];exact G _ _ _ _ _
 rw[if_neg al,show(a.Name==[114,97,110,107])=false from by simpa using al,Kk];by_cases Y:a.Name=[99,97,114,100]
 ·rw[if_pos Y,beq_iff_eq.2 Y,Kj];refine Ub zq zo ?_;refine sZ (C:=C) (X:=fun e=>_) O hn (fun e=>rfl) (fun l J=>?_);rw[show Q3 l 0=some (l.getD 0 0) from Xc (i:=0) zo,Zj];generalize l.getD 0 0=z;have:=V3 (B:=fun ab an=>Jp s (i:Int) c k g b h rec a z ab an) (n:=n) (L:=s.Contracts.length) (fun i2 r=>pj r=xn (eb (if(s.Contracts.drop i2).all (fun c=>!decide (c.Card=z)) then .ok (c,(⟨k.Name,k.Owner,k.Rank,z⟩:Yc),g,b) else .error (5,a.At)) fun q=>C (q,Ql Qa a.Name true h))) zo (fun aq i2 ar ao=>?_) 0 zo zo
  ·exact this
  unfold Jp;simp only[Qb,WB,QV];by_cases c2:i2<s.Contracts.length;rotate_left
  ·rw[Ki zo,Kk,List.drop_eq_nil_of_le zo];exact G _ _ _ _ _
  obtain⟨w1,w2⟩:=ao c2;rw[KJ zo,Kj,ZW,List.getElem?_eq_getElem c2,Zj,w1,List.drop_eq_getElem_cons c2,List.all_cons,Zg];generalize s.Contracts[i2]'c2=t;cases decide (t.Card=z)
  ·simpa using w2
  ·exact Qm rfl
 rw[if_neg Y,show(a.Name==[99,97,114,100])=false from by simpa using Y,Kk];by_cases ae:a.Name=[97,116]
 ·rw[if_pos ae,beq_iff_eq.2 ae,Kj];refine Ub zq zo ?_;exact Mh (C:=C) (X:=fun e=>_) (sM O (by omega:2000≤n)) (fun e=>rfl) (fun x=>G _ _ _ _ _)
 rw[if_neg ae,show(a.Name==[97,116])=false from by simpa using ae,Kk];by_cases aa:a.Name=[112,104,97,115,101,115]
 ·rw[if_pos aa,beq_iff_eq.2 aa,Kj];refine Ub zq zo ?_;exact Mh (C:=C) (X:=fun e=>_) (sV O hn) (fun e=>rfl) (fun x=>G _ _ _ _ _)
 rw[if_neg aa,show(a.Name==[112,104,97,115,101,115])=false from by simpa using aa,Kk];by_cases ac:a.Name=[97,109,112,115]
 ·rw[if_pos ac,beq_iff_eq.2 ac,Kj];refine Ub zq zo ?_;refine Rm (sp:=[(⟨1,80⟩:K6),(⟨1,80⟩:K6),(⟨1,80⟩:K6)]) (C:=C) (X:=fun e=>_) O hn zq (fun e=>rfl) (fun l J=>?_);simp only[JF,List.length_nil] at J;rw[show Q3 l 0=some (l.getD 0 0) from Xc (i:=0) zo,Zj,show Q3 l 1=some (l.getD 1 0) from Xc (i:=1) zo,Zj,show Q3 l 2=some (l.getD 2 0) from Xc (i:=2) zo,Zj];exact G _ _ _ _ _
 rw[if_neg ac,show(a.Name==[97,109,112,115])=false from by simpa using ac,Kk];by_cases Z:a.Name=[102,97,108,108,98,97,99,107]
 ·rw[if_pos Z,beq_iff_eq.2 Z,Kj];refine Ub zq zo ?_;refine Rm (sp:=[(⟨0,80⟩:K6)]) (C:=C) (X:=fun e=>_) O hn zq (fun e=>rfl) (fun l J=>?_);simp only[JF,List.length_nil] at J;rw[show Q3 l 0=some (l.getD 0 0) from Xc (i:=0) zo,Zj];exact G _ _ _ _ _
 rw[if_neg Z,show(a.Name==[102,97,108,108,98,97,99,107])=false from by simpa using Z,Kk];by_cases ak:a.Name=[99,104,97,114,103,101,114]
 ·rw[if_pos ak,beq_iff_eq.2 ak,Kj];refine Ub zq zo ?_;exact Mh (C:=C) (X:=fun e=>_) (sU O (by omega:2000≤n)) (fun e=>rfl) (fun x=>G _ _ _ _ _)
 rw[if_neg ak,show(a.Name==[99,104,97,114,103,101,114])=false from by simpa using ak,Kk];exact Qm rfl
def needT:List (List Int×List UInt8):=[([1,2],[108,105,109,105,116]),([1,2],[110,101,117,116,114,97,108]),([2],[102,114,111,109]),([4,5],[111,119,110,101,114]),([4],[114,97,110,107]),([4],[99,97,114,100]),([5],[97,116]),([5],[112,104,97,115,101,115]),([5],[97,109,112,115]),([5],[102,97,108,108,98,97,99,107]),([6],[99,104,97,114,103,101,114])]
def QcQ(k:Int)(h:Ua):Bool:=needT.any fun p=>p.1.contains k&&!Xb h p.2
def gB(g:Yi):Bool:=leI g.Min g.Max&&(Qj g.Fallback 0||(leI g.Min g.Fallback&&leI g.Fallback g.Max))
def tq(k:Int)(c:Yb)(g:Yi)(h:Ua):Bool:=(Xb h [116,104,101,114,109,97,108]&&!QV c.Cable.Ambient c.Cable.Most)||(Qj k 5&&!gB g)
def whF(y:GN)(c:Yb)(g:Yi)(h:Ua):Except (Int×Int) Unit:=if QcQ y.N h then .error (4,y.At) else if tq y.N c g h then .error (3,y.At) else .ok ()
theorem tu{f d:R}{bs:List Bool}:uy (some f) (some d) (bs.map fun b q=>cond b (some f) q)=some (if bs.any id then f else d):=by
 unfold uy;rw[if_pos (by rw[X5];intro t J;obtain⟨b,_,rfl⟩:=List.mem_map.1 J;cases b<;>rfl)]
 induction bs with
|nil=>rfl
|cons b bs G =>
  rw[WV,List.foldr_cons,G];cases b<;>rfl
theorem cb1{c x:Bool}{k:Bool→Option R}:((cond c (some x) (some false)).bind k)=k (c&&x):=by cases c<;>rfl
theorem cb2{c:Bool}{q:Option R}:((cond c (some ()) (some ())).bind fun _=>q)=q:=by cases c<;>rfl
theorem QdF(n:Nat)(g:Yi):Vl n g=some (gB g):=by
 unfold Vl gB;cases leI g.Min g.Max
 ·rfl
 ·cases Qj g.Fallback 0
  ·cases leI g.Min g.Fallback<;>rfl
  ·rfl
theorem QaV{s:QW}{h7 h10:Ua}{th:ThM}{c:Yb}{k:Yc}{b:ZB}(G:2000≤n) :
  Fu n y c k g b s f dd h7 th h10=some (whF y c g h10):=by
 have R:∀(ks:List Int) (o:Bool),ks.length≤5→Qz n ks o y.N=some (ks.contains y.N):=fun ks o h=>sJ zo G
 unfold Fu
 have J:VN n y c g h10=some (if tq y.N c g h10 then .error (3,y.At) else .ok ()):=by
  unfold VN JA tq Xb;rw[QdF];cases Qx Qa [116,104,101,114,109,97,108] false h10<;>cases QV c.Cable.Ambient c.Cable.Most<;>cases Qj y.N 5<;>cases gB g<;>rfl
 rw[J];simp only[R [1,2] false zq,R [1,2] true zq,R [2] false zq,R [4,5] false zq,R [4] false zq,R [5] false zq,R [6] false zq,Zj,cb1,cb2];refine(tu (bs:=[([1,2]:List Int).contains y.N&&!Xb h10 [108,105,109,105,116],([1,2]:List Int).contains y.N&&!Xb h10 [110,101,117,116,114,97,108],false,false,([2]:List Int).contains y.N&&!Xb h10 [102,114,111,109],([4,5]:List Int).contains y.N&&!Xb h10 [111,119,110,101,114],([4]:List Int).contains y.N&&!Xb h10 [114,97,110,107],([4]:List Int).contains y.N&&!Xb h10 [99,97,114,100],([5]:List Int).contains y.N&&!Xb h10 [97,116],([5]:List Int).contains y.N&&!Xb h10 [112,104,97,115,101,115],([5]:List Int).contains y.N&&!Xb h10 [97,109,112,115],([5]:List Int).contains y.N&&!Xb h10 [102,97,108,108,98,97,99,107],([6]:List Int).contains y.N&&!Xb h10 [99,104,97,114,103,101,114]])).trans ?_;unfold whF QcQ needT;simp only[List.any_cons,List.any_nil,id,Bool.or_false,Bool.false_or]
structure BS where
 cs:List Yb
 os:List Zx
 ks:List Yc
 gs:List Yi
 bs:List ZB
 fd:Bool
 dg:List Za
 nm:Ua
 th:ThM
def BS.t(s:BS):List Yb×List Zx×List Yc×List Yi×List ZB×Bool×List Za×Ua×ThM:=(s.cs,s.os,s.ks,s.gs,s.bs,s.fd,s.dg,s.nm,s.th)
def BS.u(s:BS):List Yb×List Zx×List Yc×List Yi×List ZB×Bool×List Za×ThM:=(s.cs,s.os,s.ks,s.gs,s.bs,s.fd,s.dg,s.th)
def BS.err(s:BS)(e:Int×Int):BS:={ s with dg:=s.dg++[⟨e.1,e.2⟩] }
def BS.site(s:BS):QW:=⟨s.cs,s.os,s.ks,s.gs,s.bs⟩
def gD:SQ:=(⟨[],0,0,0,⟨0,0⟩,⟨0,0,0,0,0⟩⟩,⟨[],0,0,0⟩,⟨[],0,0,0,0,0,0,0⟩,⟨[],0⟩)
def twB(y:GN)(s:BS):Bool:=Xb s.nm y.Name||(Qj y.N 1&&s.fd)
def Mj(k:Int)(s:BS):Int:=cond (Qj k 1||Qj k 2) (s.cs.length:Int) (cond (Qj k 3) (s.os.length:Int) (cond (Qj k 4) (s.ks.length:Int) (cond (Qj k 5) (s.gs.length:Int) (s.bs.length:Int))))
def Ab(k:Int):Int:=cond (Qj k 1||Qj k 2) 16 (cond (Qj k 3) 8 (cond (Qj k 4) 32 (cond (Qj k 5) 16 24)))
def gF(y:GN)(s:BS):Except (Int×Int) SQ:=eb (CJ y.N s.ks s.th (Qp y.Kids) gD []) fun v=>eb (whF y v.1.1 v.1.2.2.1 v.2) fun _=>.ok v.1
def XE(y:GN)(q:SQ)(s:BS):BS :=
 let t:=Ql Qt y.Name (⟨y.N,Mj y.N s⟩:KS) s.th
 if y.N=1 then{ s with cs:=s.cs++[⟨y.Name,-1,q.1.Limit,q.1.Neutral,q.1.Fuse,q.1.Cable⟩],th:=t }
 else if y.N=2 then{ s with cs:=s.cs++[⟨y.Name,q.1.Up,q.1.Limit,q.1.Neutral,q.1.Fuse,q.1.Cable⟩],th:=t }
 else if y.N=3 then{ s with os:=s.os++[⟨y.Name⟩],th:=t }
 else if y.N=4 then{ s with ks:=s.ks++[⟨y.Name,q.2.1.Owner,q.2.1.Rank,q.2.1.Card⟩],th:=t }
 else if y.N=5 then{ s with gs:=s.gs++[⟨y.Name,q.2.2.1.At,q.2.2.1.Phases,q.2.2.1.Min,q.2.2.1.Max,q.2.2.1.Step,q.2.2.1.Fallback,q.2.2.1.Owner⟩],th:=t }
 else if y.N=6 then{ s with bs:=s.bs++[⟨y.Name,q.2.2.2.Charger⟩],th:=t }
 else{ s with th:=t }
def KY(y:GN)(s:BS):BS:={ s with fd:=s.fd||Qj y.N 1,nm:=Ql Qa y.Name true s.nm }
def Yt(y:GN)(s:BS):BS :=
 if twB y s then(KY y s).err (5,y.At)
 else if y.N=7 then KY y s
 else if Ab y.N≤Mj y.N s then(KY y s).err (2,y.At)
 else match gF y s with
 |.error e=>(KY y s).err e
 |.ok q=>XE y q (KY y s)
def runF:List GN→BS→BS|[],s=>s|y::l,s=>if(Yt y s).dg.length=20 then Yt y s else runF l (Yt y s)
def BS.fit(s:BS):Prop:=s.cs.length≤16∧s.os.length≤8∧s.ks.length≤32∧s.gs.length≤16∧s.bs.length≤24
def bs0:BS:=⟨[],[],[],[],[],false,[],[],[]⟩
theorem Mo{s:BS}(h:s.fit):(Yt y s).fit∧(Yt y s).dg.length≤s.dg.length+1∧∃e,(Yt y s).dg=s.dg++e:=by
 obtain⟨h1,U,Y,W,O⟩:=h;have J:∀e,((KY y s).err e).fit∧((KY y s).err e).dg.length≤s.dg.length+1∧∃d,((KY y s).err e).dg=s.dg++d:=fun e=>⟨⟨h1,U,Y,W,O⟩,by simp[BS.err,KY],_,rfl⟩
 have hm:(KY y s).fit∧(KY y s).dg.length≤s.dg.length+1∧∃d,(KY y s).dg=s.dg++d:=⟨⟨h1,U,Y,W,O⟩,by simp[KY],[],by simp[KY]⟩;unfold Yt;split
 ·exact J _
 split
 ·exact hm
 split
 ·exact J _
 rename_i G;split
 ·exact J _
 rename_i q _;obtain⟨_,Z,d,hd2⟩:=hm;unfold Ab Mj at G;unfold XE;by_cases c1:y.N=1
 ·rw[if_pos c1];rw[c1] at G;have:(s.cs.length:Int)<16:=by simpa [Qj] using G
  exact⟨⟨by simp[KY];omega,U,Y,W,O⟩,Z,d,hd2⟩
 rw[if_neg c1];by_cases c2:y.N=2
 ·rw[if_pos c2];rw[c2] at G;have:(s.cs.length:Int)<16:=by simpa [Qj] using G
  exact⟨⟨by simp[KY];omega,U,Y,W,O⟩,Z,d,hd2⟩
 rw[if_neg c2];by_cases c3:y.N=3
 ·rw[if_pos c3];rw[c3] at G;have:(s.os.length:Int)<8:=by simpa [Qj] using G
  exact⟨⟨h1,by simp[KY];omega,Y,W,O⟩,Z,d,hd2⟩
 rw[if_neg c3];by_cases c4:y.N=4
 ·rw[if_pos c4];rw[c4] at G;have:(s.ks.length:Int)<32:=by simpa [Qj] using G
  exact⟨⟨h1,U,by simp[KY];omega,W,O⟩,Z,d,hd2⟩
 rw[if_neg c4];by_cases c5:y.N=5
 ·rw[if_pos c5];rw[c5] at G;have:(s.gs.length:Int)<16:=by simpa [Qj] using G
  exact⟨⟨h1,U,Y,by simp[KY];omega,O⟩,Z,d,hd2⟩
 rw[if_neg c5];by_cases c6:y.N=6
 ·rw[if_pos c6];rw[c6] at G;have:(s.bs.length:Int)<24:=by simpa [Qj] using G
  exact⟨⟨h1,U,Y,W,by simp[KY];omega⟩,Z,d,hd2⟩
 rw[if_neg c6];exact⟨⟨h1,U,Y,W,O⟩,Z,d,hd2⟩
theorem rm1{l:List α}(G:l.length≤100)(J:k≤1000):QI l.length k=true:=by
 unfold QI;rw[Bg];refine⟨Nat.le_trans (Nat.mul_le_mul G J) zo,by omega⟩
theorem cod{c:Bool}:(bif b then true else c)=(b||c):=by cases b<;>rfl
theorem cad{c:Bool}:(bif b then c else false)=(b&&c):=by cases b<;>rfl
theorem QaW{s:BS}:(XE y q s).nm=s.nm:=by
 unfold XE;by_cases G:y.N=1
 ·rw[if_pos G]
 rw[if_neg G];by_cases U:y.N=2
 ·rw[if_pos U]
 rw[if_neg U];by_cases O:y.N=3
 ·rw[if_pos O]
 rw[if_neg O];by_cases W:y.N=4
 ·rw[if_pos W]
 rw[if_neg W];by_cases J:y.N=5
 ·rw[if_pos J]
 rw[if_neg J];by_cases Y:y.N=6
 ·rw[if_pos Y]
 rw[if_neg Y]
theorem Si{s:BS}:(Yt y s).nm=Ql Qa y.Name true s.nm:=by
 unfold Yt;split
 ·rfl
 split
 ·rfl
 split
 ·rfl
 split
 ·rfl
 ·rw[QaW];rfl
theorem gG(ht:Kb d x)(hn:9223372036854776000≤n)(hs:1+(x.Kids.length:Int)+Ec (Qp x.Kids)≤1500) :
  Ky n x=some (if Tu x then(if(runF (Qp x.Kids) bs0).dg=[] then(if(runF (Qp x.Kids) bs0).fd then((runF (Qp x.Kids) bs0).site,[]) else(⟨[],[],[],[],[]⟩,[⟨4,0⟩])) else(⟨[],[],[],[],[]⟩,(runF (Qp x.Kids) bs0).dg)) else(⟨[],[],[],[],[]⟩,[⟨1,0⟩])):=by
 unfold Ky;rw[Qax ht hn hs,Zj];cases hv:Tu x
 ·rfl
 obtain⟨e,rfl,hl,_,hk⟩:=ZC ht;simp only[Bool.not_true,Kk,if_true]
 have W:Does (QB (fun G (v:Int×List Yb×List Zx×List Yc×List Yi×List ZB×Bool×List Za×Ua×ThM)=>Vm n x G v.1 v.2.1 v.2.2.1 v.2.2.2.1 v.2.2.2.2.1 v.2.2.2.2.2.1 v.2.2.2.2.2.2.1 v.2.2.2.2.2.2.2.1 v.2.2.2.2.2.2.2.2.1 v.2.2.2.2.2.2.2.2.2) n (0,[],[],[],[],[],false,[],[],[])) (fun r=>r=(runF (Qp x.Kids) bs0).t):=by
  have:=Yl (n:=n) (B:=fun G (v:Int×List Yb×List Zx×List Yc×List Yi×List ZB×Bool×List Za×Ua×ThM)=>Vm n x G v.1 v.2.1 v.2.2.1 v.2.2.2.1 v.2.2.2.2.1 v.2.2.2.2.2.1 v.2.2.2.2.2.2.1 v.2.2.2.2.2.2.2.1 v.2.2.2.2.2.2.2.2.1 v.2.2.2.2.2.2.2.2.2) (v:=(0,[],[],[],[],[],false,[],[],[]))
   (Q:=fun v r=>∀s:BS,v.2=s.t→r=(runF (Qp (x.Kids.drop v.1.toNat)) s).t) (fun v=>x.Kids.length-v.1.toNat) (fun v=>(∃i:Nat,v.1=(i:Int)∧i≤x.Kids.length)∧∃s:BS,v.2=s.t∧s.fit∧s.dg.length<20) ?_ ⟨⟨0,rfl,by omega⟩,bs0,rfl,by simp[BS.fit,bs0],by simp[bs0]⟩ (by simp only;omega)
  ·obtain⟨r,Y,h⟩:=this;exact⟨r,Y,h bs0 rfl⟩
  rintro rec ⟨q,v⟩ ⟨⟨i,hi,ad⟩,s,hs,U,ab⟩ O;simp only at hi hs O ⊢;subst hi hs;obtain⟨cs,os,ks,gs,bs,fd,dg,nm,th⟩:=s
  have aa:∀s:BS,BS.t ⟨cs,os,ks,gs,bs,fd,dg,nm,th⟩=s.t→(⟨cs,os,ks,gs,bs,fd,dg,nm,th⟩:BS)=s:=by
   intro s h;obtain⟨_,_,_,_,_,_,_,_,_⟩:=s;simp only[BS.t,XA] at h;obtain⟨rfl,rfl,rfl,rfl,rfl,rfl,rfl,rfl,rfl⟩:=h;rfl
  unfold Vm;simp only[Qb,WB,QV,Int.toNat_natCast,BS.t] at O ⊢;by_cases J:i<x.Kids.length;rotate_left
  ·rw[Ki zo,Kk,JL _ zo];refine Qm fun s hs=>?_
   rw[←aa s hs];rfl
  obtain⟨y,hy,ac,hc⟩:=XD hk J;rw[KJ zo,Kj,hy,Zj,hc];obtain⟨f1,f2,_⟩:=Mo (y:=y) U;refine Z9 (Q:=fun v=>v=(Yt y ⟨cs,os,ks,gs,bs,fd,dg,nm,th⟩).u) ?_ ?_
  ·obtain⟨g1,g2,g3,g4,g5⟩:=U;simp only at g1 g2 g3 g4 g5 ab;have hd:∀e:Za,QI (List.length (dg++[e])) 16=true:=fun e=>rm1 (by simp;omega) zo
   simp only[QF,Zj,cod,cad,hd,Kj];unfold Yt;rw[show(Qx Qa y.Name false nm||(Qj y.N 1&&fd))=twB y ⟨cs,os,ks,gs,bs,fd,dg,nm,th⟩ from rfl];cases twB y ⟨cs,os,ks,gs,bs,fd,dg,nm,th⟩;rotate_left
   ·rw[Kj,if_pos rfl];exact Qm rfl
   rw[Kk,if_neg zq,Zg (y:=7)];by_cases c7:y.N=7
   ·rw[KJ c7,if_pos c7,Kj];exact Qm rfl
   rw[Ki c7,if_neg c7,Kk]
   have hp:(bif (Qj y.N 1||Qj y.N 2) then((cs.length:Int),(16:Int)) else bif Qj y.N 3 then((os.length:Int),8) else bif Qj y.N 4 then((ks.length:Int),32) else bif Qj y.N 5 then((gs.length:Int),16) else((bs.length:Int),24))=(Mj y.N ⟨cs,os,ks,gs,bs,fd,dg,nm,th⟩,Ab y.N):=by
    unfold Mj Ab;cases (Qj y.N 1||Qj y.N 2)
    ·cases Qj y.N 3
     ·cases Qj y.N 4
      ·cases Qj y.N 5<;>rfl
      ·rfl
     ·rfl
    ·rfl
   have hx:(bif (Qj y.N 1||Qj y.N 2) then(cs.length:Int) else bif Qj y.N 3 then(os.length:Int) else bif Qj y.N 4 then(ks.length:Int) else bif Qj y.N 5 then(gs.length:Int) else(bs.length:Int))=Mj y.N ⟨cs,os,ks,gs,bs,fd,dg,nm,th⟩:=rfl;have k1:∀e:Yb,QI (List.length (cs++[e])) 96=true:=fun e=>rm1 (by simp;omega) zo
   have k2:∀e:Zx,QI (List.length (os++[e])) 16=true:=fun e=>rm1 (by simp;omega) zo
   have k3:∀e:Yc,QI (List.length (ks++[e])) 40=true:=fun e=>rm1 (by simp;omega) zo
   have k4:∀e:Yi,QI (List.length (gs++[e])) 72=true:=fun e=>rm1 (by simp;omega) zo
   have k5:∀e:ZB,QI (List.length (bs++[e])) 24=true:=fun e=>rm1 (by simp;omega) zo
   simp only[Qht,hp,hx,leI,k1,k2,k3,k4,k5,Kj];by_cases c8:Ab y.N≤Mj y.N ⟨cs,os,ks,gs,bs,fd,dg,nm,th⟩
   ·rw[KJ c8,if_pos c8];exact Qm rfl
   rw[Ki c8,if_neg c8,Kk];obtain⟨r,Y,h⟩:=QaU (n:=n) (y:=y) (s:=⟨cs,os,ks,gs,bs⟩) (f:=(fd||Qj y.N 1)) (dd:=dg) (h7:=Ql Qa y.Name true nm) (h10:=[]) (th:=th) (c:=⟨[],0,0,0,⟨0,0⟩,⟨0,0,0,0,0⟩⟩) (k:=⟨[],0,0,0⟩) (g:=⟨[],0,0,0,0,0,0,0⟩) (b:=⟨[],0⟩) ac (by simp only;omega) hn;rw[Y,Zj];change pj r=xn (CJ y.N ks th (Qp y.Kids) gD []) at h;have hR:gF y ⟨cs,os,ks,gs,bs,fd,dg,nm,th⟩=eb (CJ y.N ks th (Qp y.Kids) gD []) fun v=>eb (whF y v.1.1 v.1.2.2.1 v.2) fun _=>.ok v.1:=rfl
   rw[hR];generalize CJ y.N ks th (Qp y.Kids) gD []=z at h;cases r with
  |error e =>
    cases z with
   |ok v=>cases h
   |error z =>
     have h:e.1=z:=by simpa [pj,xn,eb] using h
     subst h;simp only[FE,eb];exact Qm rfl
  |ok w =>
    cases z with
   |error z=>cases h
   |ok v =>
     have h:w=(v.1.1,v.1.2.1,v.1.2.2.1,v.1.2.2.2,v.2):=by simpa [pj,xn,eb] using h
     subst h;simp only[FE,eb];rw[QaV zo,Zj];cases hw:whF y v.1.1 v.1.2.2.1 v.2 with
    |error e =>
      simp only[FE];exact Qm rfl
    |ok _ =>
      simp only[FE,Zg];unfold XE;by_cases J:y.N=1
      ·rw[KJ J,if_pos J];exact Qm (by simp only[BS.u,KY,Zg,KJ J];rfl)
      rw[Ki J,if_neg J];by_cases c2:y.N=2
      ·rw[KJ c2,if_pos c2];exact Qm (by simp only[BS.u,KY,Zg,Ki J];rfl)
      rw[Ki c2,if_neg c2];by_cases c3:y.N=3
      ·rw[KJ c3,if_pos c3];exact Qm (by simp only[BS.u,KY,Zg,Ki J];rfl)
      rw[Ki c3,if_neg c3];by_cases c4:y.N=4
      ·rw[KJ c4,if_pos c4];exact Qm (by simp only[BS.u,KY,Zg,Ki J];rfl)
      rw[Ki c4,if_neg c4];by_cases c5:y.N=5
      ·rw[KJ c5,if_pos c5];exact Qm (by simp only[BS.u,KY,Zg,Ki J];rfl)
      rw[Ki c5,if_neg c5];by_cases c6:y.N=6
      ·rw[KJ c6,if_pos c6];exact Qm (by simp only[BS.u,KY,Zg,Ki J];rfl)
      rw[Ki c6,if_neg c6];exact Qm (by simp only[BS.u,KY,Zg,Ki J];rfl)
  rintro⟨u1,u2,u3,u4,u5,u6,u7,u8⟩ hu;have Z:=Si (y:=y) (s:=⟨cs,os,ks,gs,bs,fd,dg,nm,th⟩);refine VZ (Q:=fun r=>r=(runF (y::Qp (x.Kids.drop (i+1))) ⟨cs,os,ks,gs,bs,fd,dg,nm,th⟩).t) ?_ (fun r hr s hs=>by rw[hr,aa s hs];rfl);unfold runF;generalize Yt y ⟨cs,os,ks,gs,bs,fd,dg,nm,th⟩=z at *;obtain⟨z1,z2,z3,z4,z5,z6,z7,z8,z9⟩:=z;simp only[BS.u,XA] at hu;obtain⟨rfl,rfl,rfl,rfl,rfl,rfl,rfl,rfl⟩:=hu;simp only at Z f2 ab ⊢;subst Z;rw[Zg];by_cases c9:u7.length=20
  ·rw[KJ zo,if_pos c9];exact Qm rfl
  ·rw[Ki zo,if_neg c9,Kk,ZP (x:=(i:Int)+1) zo zo];refine VZ (O ((i:Int)+1,u1,u2,u3,u4,u5,u6,u7,_,u8) ⟨⟨i+1,by simp,J⟩,⟨u1,u2,u3,u4,u5,u6,u7,_,u8⟩,rfl,f1,by simp only;omega⟩ (by simp only;omega)) ?_;intro r hr;have:=hr ⟨u1,u2,u3,u4,u5,u6,u7,_,u8⟩ rfl;rw[show((i:Int)+1).toNat=i+1 by omega] at this;exact this
 obtain⟨r,Y,h⟩:=W;rw[h] at Y;rw[Y,Zj];generalize runF (Qp x.Kids) bs0=z;obtain⟨z1,z2,z3,z4,z5,z6,z7,z8,z9⟩:=z;show(cond (QV 0 (Qb (List.map Za.cs z7))) (some ((⟨[],[],[],[],[]⟩:QW),z7)) (cond (!z6) (some ((⟨[],[],[],[],[]⟩:QW),[(⟨4,0⟩:Za)])) (some ((⟨z1,z2,z3,z4,z5⟩:QW),[]))))=_;simp only[BS.site];cases z7 with
|nil=>cases z6<;>rfl
|cons a l =>
  rw[if_neg zq];simp only[Qb,QV,WB,JF];rw[KJ zo];rfl
theorem yO{d:Nat}:∀{l:List GN},(∀y∈l,Kb d y)→Qp (l.map GN.cs)=l∧Yx d (l.map GN.cs)
|[],_=>⟨rfl,fun _ h=>by cases h⟩
|y::l,h=>by
  obtain⟨J,O⟩:=yO (l:=l) fun z U=>h z (by simp[U])
  obtain⟨a,b,c,t,ks⟩:=y;refine⟨?_,?_⟩
  ·unfold Qp at J ⊢;rw[WV,List.filterMap_cons,jS,J]
  ·intro k G;rw[WV] at G;rcases List.mem_cons.1 G with rfl|G
   ·exact⟨_,jS _ _ _ _ _,h _ zq⟩
   ·exact O k G
theorem nN(h:Kb (d+1) x)(G:l.length≤x.Kids.length)(J:Yx d l):Kb (d+1) (⟨x.Kind,x.Name,x.N,x.At,l⟩:GN) :=
 ⟨h.1,h.2.1,h.2.2.1,h.2.2.2.1,Nat.le_trans G h.2.2.2.2.1,J⟩
theorem tC{s:BS}:(XE y q s).nm=s.nm∧(XE y q s).fd=s.fd∧(XE y q s).dg=s.dg∧(∃a,(XE y q s).cs=s.cs++a)∧(∃a,(XE y q s).os=s.os++a)∧(∃a,(XE y q s).ks=s.ks++a)∧(∃a,(XE y q s).gs=s.gs++a)∧(∃a,(XE y q s).bs=s.bs++a):=by
 have z:∀{α:Type} (l:List α),∃a,l=l++a:=fun l=>⟨[],by simp⟩
 unfold XE;by_cases G:y.N=1
 ·rw[if_pos G];exact⟨rfl,rfl,rfl,⟨_,rfl⟩,z _,z _,z _,z _⟩
 rw[if_neg G];by_cases J:y.N=2
 ·rw[if_pos J];exact⟨rfl,rfl,rfl,⟨_,rfl⟩,z _,z _,z _,z _⟩
 rw[if_neg J];by_cases U:y.N=3
 ·rw[if_pos U];exact⟨rfl,rfl,rfl,z _,⟨_,rfl⟩,z _,z _,z _⟩
 rw[if_neg U];by_cases W:y.N=4
 ·rw[if_pos W];exact⟨rfl,rfl,rfl,z _,z _,⟨_,rfl⟩,z _,z _⟩
 rw[if_neg W];by_cases O:y.N=5
 ·rw[if_pos O];exact⟨rfl,rfl,rfl,z _,z _,z _,⟨_,rfl⟩,z _⟩
 rw[if_neg O];by_cases Y:y.N=6
 ·rw[if_pos Y];exact⟨rfl,rfl,rfl,z _,z _,z _,z _,⟨_,rfl⟩⟩
 rw[if_neg Y];exact⟨rfl,rfl,rfl,z _,z _,z _,z _,z _⟩
def za(s t:BS):Prop:=(∃a,t.dg=s.dg++a)∧(∃a,t.cs=s.cs++a)∧(∃a,t.os=s.os++a)∧(∃a,t.ks=s.ks++a)∧(∃a,t.gs=s.gs++a)∧(∃a,t.bs=s.bs++a)
theorem qf{l m r:List α}(J:∃a,m=l++a)(G:∃a,r=m++a):∃a,r=l++a:=by
 obtain⟨a,rfl⟩:=J;obtain⟨b,rfl⟩:=G;exact⟨a++b,by simp⟩
theorem tF{s t u:BS}(G:za s t)(J:za t u):za s u :=
 ⟨qf G.1 J.1,qf G.2.1 J.2.1,qf G.2.2.1 J.2.2.1,qf G.2.2.2.1 J.2.2.2.1,qf G.2.2.2.2.1 J.2.2.2.2.1,qf G.2.2.2.2.2 J.2.2.2.2.2⟩
theorem tH(s:BS):za s s:=⟨⟨[],by simp⟩,⟨[],by simp⟩,⟨[],by simp⟩,⟨[],by simp⟩,⟨[],by simp⟩,⟨[],by simp⟩⟩
theorem Pd{s:BS}:za s (Yt y s)∧(Yt y s).fd=(s.fd||Qj y.N 1):=by
 have J:za s (KY y s):=tH s;have G:∀e,za s ((KY y s).err e):=fun e=>⟨⟨_,rfl⟩,J.2⟩
 unfold Yt;split
 ·exact⟨G _,rfl⟩
 split
 ·exact⟨J,rfl⟩
 split
 ·exact⟨G _,rfl⟩
 split
 ·exact⟨G _,rfl⟩
 ·rename_i q _;obtain⟨_,d1,d2,d3⟩:=tC (y:=y) (q:=q) (s:=KY y s);exact⟨tF J ⟨⟨[],by rw[d2];simp⟩,d3⟩,d1⟩
theorem yP:∀{l:List GN} {s:BS},za s (runF l s)
|[],s=>tH s
|y::l,s=>by
  unfold runF;split
  ·exact Pd.1
  ·exact tF Pd.1 yP
theorem tJ{s t:BS}(h:za s t)(G:t.dg=[]):s.dg=[]:=by
 obtain⟨a,e⟩:=h.1;rw[G] at e;exact(List.append_eq_nil_iff.1 e.symm).1
theorem Be{l:List GN}{s:BS}(h:(runF (y::l) s).dg=[]):(Yt y s).dg=[]∧runF (y::l) s=runF l (Yt y s):=by
 have e:runF (y::l) s=if(Yt y s).dg.length=20 then Yt y s else runF l (Yt y s):=rfl
 rw[e] at h ⊢;split at h
 ·rename_i G;rw[h] at G;cases G
 ·rename_i G;rw[if_neg G];exact⟨tJ yP h,rfl⟩
theorem zb{l:List GN}{s:BS}(h:(Yt y s).dg=[]):runF (y::l) s=runF l (Yt y s):=by
 show(if(Yt y s).dg.length=20 then Yt y s else runF l (Yt y s))=_;rw[if_neg (by rw[h];simp)]
theorem good_step{s:BS}(h:(Yt y s).dg=[]):twB y s=false∧((y.N=7∧Yt y s=KY y s)∨(y.N≠7∧¬Ab y.N≤Mj y.N s∧∃q,gF y s=.ok q∧Yt y s=XE y q (KY y s))):=by
 unfold Yt at h ⊢;split at h
 ·simp[BS.err] at h
 rename_i J;simp only[Bool.not_eq_true] at J;rw[if_neg (by rw[J];simp)];refine⟨J,?_⟩;split at h
 ·rename_i G;exact .inl ⟨G,by rw[if_pos G]⟩
 rename_i G;rw[if_neg G];split at h
 ·simp[BS.err] at h
 rename_i O;rw[if_neg O];split at h
 ·simp[BS.err] at h
 rename_i q U;exact .inr ⟨G,O,q,U,rfl⟩
theorem nO{s:BS}(G:twB y s=false)(U:y.N≠7)(J:¬Ab y.N≤Mj y.N s)(O:gF y s=.ok q):Yt y s=XE y q (KY y s):=by
 unfold Yt;rw[if_neg (by rw[G];simp),if_neg U,if_neg J,O]
theorem gH:∀{l:List GN} {s:BS},s.fit→(runF l s).fit
|[],s,h=>h
|y::l,s,h=>by
  unfold runF;split
  ·exact(Mo h).1
  ·exact gH (Mo h).1
theorem Qfr:bs0.fit:=by simp[BS.fit,bs0]
theorem QaX{a:QW}(h1:a.Conductors.length≤1000)(h2:a.Owners.length≤1000)(h3:a.Contracts.length≤1000)(Y:a.Chargers.length≤1000)(W:a.Bays.length≤1000)(Z:2000≤n):YQ n a a=some true:=by
 unfold YQ;have:=V3 (B:=fun rec i=>Wn a a rec i) (n:=n) (L:=a.Bays.length) (fun i r=>r=true) zo (fun rec i hi O=>?_) 0 zo zo
 ·obtain⟨r,e,rfl⟩:=this;exact e
 unfold Wn;simp only[Qb,WB,QV];by_cases G:i<a.Bays.length;rotate_left
 ·rw[Ki zo,Kk];exact BN rfl rfl
 obtain⟨J,U⟩:=O G;rw[KJ zo,Kj,ZW,List.getElem?_eq_getElem G];simp only[Zj,J,MJ,Qs,Qj,beq_self_eq_true,Bool.and_self,Bool.not_true,Kk];exact U
theorem QaY{a:QW}(h1:a.Conductors.length≤1000)(Y:a.Owners.length≤1000)(Z:a.Contracts.length≤1000)(O:a.Chargers.length≤1000)(J:a.Bays.length≤1000)(U:2000≤n):YR n a a=some true:=by
 unfold YR;have:=V3 (B:=fun rec i=>Wp n a a rec i) (n:=n) (L:=a.Chargers.length) (fun i r=>r=true) zo (fun rec i hi hr=>?_) 0 zo zo
 ·obtain⟨r,e,rfl⟩:=this;exact e
 unfold Wp;simp only[Qb,WB,QV];by_cases G:i<a.Chargers.length;rotate_left
 ·rw[Ki zo,Kk];exact BN (QaX h1 Y Z O J U) rfl
 obtain⟨W,w2⟩:=hr G;rw[KJ zo,Kj,ZW,List.getElem?_eq_getElem G];simp only[Zj,W,MJ,Qs,Qj,beq_self_eq_true,Bool.and_self,Bool.not_true,Kk];exact w2
theorem QaZ{a:QW}(h1:a.Conductors.length≤1000)(Y:a.Owners.length≤1000)(Z:a.Contracts.length≤1000)(O:a.Chargers.length≤1000)(J:a.Bays.length≤1000)(U:2000≤n):YS n a a=some true:=by
 unfold YS;have:=V3 (B:=fun rec i=>Wq n a a rec i) (n:=n) (L:=a.Contracts.length) (fun i r=>r=true) zo (fun rec i hi hr=>?_) 0 zo zo
 ·obtain⟨r,e,rfl⟩:=this;exact e
 unfold Wq;simp only[Qb,WB,QV];by_cases G:i<a.Contracts.length;rotate_left
 ·rw[Ki zo,Kk];exact BN (QaY h1 Y Z O J U) rfl
 obtain⟨W,w2⟩:=hr G;rw[KJ zo,Kj,ZW,List.getElem?_eq_getElem G];simp only[Zj,W,MJ,Qs,Qj,beq_self_eq_true,Bool.and_self,Bool.not_true,Kk];exact w2
theorem Qa0{a:QW}(h1:a.Conductors.length≤1000)(Y:a.Owners.length≤1000)(Z:a.Contracts.length≤1000)(O:a.Chargers.length≤1000)(J:a.Bays.length≤1000)(U:2000≤n):YT n a a=some true:=by
 unfold YT;have:=V3 (B:=fun rec i=>Ws n a a rec i) (n:=n) (L:=a.Owners.length) (fun i r=>r=true) zo (fun rec i hi hr=>?_) 0 zo zo
 ·obtain⟨r,e,rfl⟩:=this;exact e
 unfold Ws;simp only[Qb,WB,QV];by_cases G:i<a.Owners.length;rotate_left
 ·rw[Ki zo,Kk];exact BN (QaZ h1 Y Z O J U) rfl
 obtain⟨W,w2⟩:=hr G;rw[KJ zo,Kj,ZW,List.getElem?_eq_getElem G];simp only[Zj,W,MJ,Qs,beq_self_eq_true,Bool.and_self,Bool.not_true,Kk];exact w2
theorem Qa1{a:QW}(h1:a.Conductors.length≤1000)(Y:a.Owners.length≤1000)(Z:a.Contracts.length≤1000)(O:a.Chargers.length≤1000)(J:a.Bays.length≤1000)(U:2000≤n):QB (fun rec i=>Y9 n a a rec i) n 0=some true:=by
 have:=V3 (B:=fun rec i=>Y9 n a a rec i) (n:=n) (L:=a.Conductors.length) (fun i r=>r=true) zo (fun rec i hi hr=>?_) 0 zo zo
 ·obtain⟨r,e,rfl⟩:=this;exact e
 unfold Y9;simp only[Qb,WB,QV];by_cases G:i<a.Conductors.length;rotate_left
 ·rw[Ki zo,Kk];exact BN (Qa0 h1 Y Z O J U) rfl
 obtain⟨W,w2⟩:=hr G;rw[KJ zo,Kj,ZW,List.getElem?_eq_getElem G];simp only[Zj,W,MJ,Qs,Qj,beq_self_eq_true,Bool.and_self,Bool.not_true,Kk];exact w2
theorem xq{a:QW}(O:a.Conductors.length≤1000)(W:a.Owners.length≤1000)(Y:a.Contracts.length≤1000)(U:a.Chargers.length≤1000)(G:a.Bays.length≤1000)(J:2000≤n):JD n a a=some true:=by
 unfold JD;simp only[Qj,beq_self_eq_true,Bool.not_true,Kk,Zj];exact Qa1 O W Y U G J
theorem tK{s:BS}{m:Ua}:XE y q { s with nm:=m }={ XE y q s with nm:=m }:=by
 unfold XE;by_cases G:y.N=1
 ·simp only[if_pos G];rfl
 simp only[if_neg G];by_cases U:y.N=2
 ·simp only[if_pos U];rfl
 simp only[if_neg U];by_cases O:y.N=3
 ·simp only[if_pos O];rfl
 simp only[if_neg O];by_cases W:y.N=4
 ·simp only[if_pos W];rfl
 simp only[if_neg W];by_cases J:y.N=5
 ·simp only[if_pos J];rfl
 simp only[if_neg J];by_cases Y:y.N=6
 ·simp only[if_pos Y];rfl
 simp only[if_neg Y];rfl
theorem tL(s k:List UInt8):∀m:List (List UInt8×Bool),Qx Qa s false (Ql Qa k true m)=(Qx Qa s false m||(s==k))
|[]=>by
  unfold Ql Qx FH FH Qa Qs;by_cases h:s=k
  ·subst h;simp
  ·rw[show(s==k)=false from by simpa using h];rfl
|(q,w)::m=>by
  have J:=tL s k m;unfold Qx at J ⊢;unfold Ql;unfold Qa Qs at J ⊢;by_cases h:k=q
  ·subst h;rw[beq_self_eq_true,Kj];unfold FH;by_cases G:s=k
   ·subst G;simp
   ·rw[show(s==k)=false from by simpa using G];simp
  ·rw[show(k==q)=false from by simpa using h,Kk];unfold FH;by_cases G:s=q
   ·subst G;rw[beq_self_eq_true,Kj,Kj,show(s==k)=false from by simpa using fun e=>h e.symm,Bool.or_false]
   ·rw[show(s==q)=false from by simpa using G,Kk,Kk];exact J
theorem Dz(s k:List UInt8)(m:Ua):Xb (Ql Qa k true m) s=(Xb m s||(s==k)):=tL s k m
theorem TA:∀{l:List GN} {s:BS} {m:Ua},(∀w,Xb m w=true→Xb s.nm w=true)→(runF l s).dg=[]→∃J,runF (l.filter fun y=>!Qj y.N 7) { s with nm:=m }={ runF l s with nm:=J }
|[],s,m,_,_=>⟨m,rfl⟩
|y::l,s,m,U,h=>by
  obtain⟨O,Z⟩:=Be h;rw[Z] at h ⊢;obtain⟨g1,g2⟩:=good_step O;have hs:s.dg=[]:=tJ Pd.1 O;have G:=Si (y:=y) (s:=s);rw[List.filter_cons];rcases g2 with⟨g2,g3⟩|⟨g2,g3,q,g4,g5⟩
  ·rw[if_neg (by simp[Zg,g2])];rw[g3] at h ⊢;have e:({ KY y s with nm:=m }:BS)={ s with nm:=m }:=by simp[KY,Zg,g2]
   obtain⟨J,W⟩:=TA (l:=l) (s:=KY y s) (m:=m) (fun w hw=>by
    show Xb (Ql Qa y.Name true s.nm) w=true;rw[Dz,U w hw,Bool.true_or]) h
   rw[e] at W;exact⟨J,W⟩
  ·rw[if_pos (by simp[Zg,g2])]
   have Y:Yt y { s with nm:=m }={ Yt y s with nm:=Ql Qa y.Name true m }:=by
    rw[g5,nO (s:={ s with nm:=m }) (q:=q) ?_ g2 g3 g4]
    ·exact tK (s:=KY y s)
    ·unfold twB at g1 ⊢;simp only[Bool.or_eq_false_iff] at g1 ⊢;refine⟨?_,g1.2⟩;cases hq:Xb m y.Name
     ·rfl
     ·rw[U _ hq] at g1;cases g1.1
   rw[zb (s:={ s with nm:=m }) (by rw[Y];exact O),Y]
   exact TA (l:=l) (s:=Yt y s) (fun w hw=>by
    rw[G,Dz];rw[Dz] at hw;simp only[Bool.or_eq_true] at hw ⊢;exact hw.imp_left (U w)) h
theorem rm2{l:List α}(G:l.length≤1600):QI l.length 64=true:=by
 unfold QI;rw[Bg];omega
theorem QdG(d:Nat)(c:List PV):GN.of (RZ d c)=(GN.of c).map (Oo d):=by
 cases h:GN.of c with
|none=>unfold RZ;rw[h];exact h
|some y=>rw[sD h,NZ];rfl
theorem QdH(h:l.map (RZ d)=l'.map (RZ d))(p:Int):(Option.bind (Q3 l p) GN.of).map (Oo d)=(Option.bind (Q3 l' p) GN.of).map (Oo d):=by
 have e:(Q3 l p).map (RZ d)=(Q3 l' p).map (RZ d):=by
  unfold Q3;split
  ·rfl
  ·rw[←List.getElem?_map,←List.getElem?_map,h]
 have G:∀o:Option (List PV),(Option.bind o GN.of).map (Oo d)=Option.bind (o.map (RZ d)) GN.of:=by
  intro o;cases o with
 |none=>rfl
 |some c=>exact(QdG d c).symm
 rw[G,G,e]
theorem Pe(h:l.map (RZ d)=l'.map (RZ d))(p:Int):(Option.bind (Q3 l p) GN.of=none∧Option.bind (Q3 l' p) GN.of=none)∨∃y G,Option.bind (Q3 l p) GN.of=some y∧Option.bind (Q3 l' p) GN.of=some G∧Oo d y=Oo d G:=by
 have:=QdH h p;cases e:Option.bind (Q3 l p) GN.of with
|none =>
  rw[e] at this;cases e':Option.bind (Q3 l' p) GN.of with
 |none=>exact .inl ⟨rfl,rfl⟩
 |some y=>rw[e'] at this;cases this
|some y =>
  rw[e] at this;cases e':Option.bind (Q3 l' p) GN.of with
 |none=>rw[e'] at this;cases this
 |some G=>rw[e'] at this;exact .inr ⟨y,G,rfl,rfl,Option.some.inj this⟩
theorem Uc{G:GN}(h:Oo (d+1) y=Oo (d+1) G):y.Kind=G.Kind∧y.Name=G.Name∧y.N=G.N∧y.Kids.map (RZ d)=G.Kids.map (RZ d):=by
 rw[QcP,QcP] at h;simp only[GN.mk.injEq] at h;exact⟨h.1,h.2.1,h.2.2.1,h.2.2.2.2⟩
theorem Mq(h:l.map (RZ d)=l'.map (RZ d)):l.length=l'.length:=by simpa using congrArg List.length h
def rs(r:Int×H9):Int×Kn×List (List PV)×Bool:=(r.1,r.2.article,r.2.values.map (RZ 1),r.2.good)
theorem Ac{A B C:Type}{p:A→B}{o G:Option A}{F J:A→Option C}(h:o.map p=G.map p)(O:∀r r',p r=p r'→F r=J r'):o.bind F=G.bind J:=by
 cases o<;>cases G<;>simp only[Option.map_none,Option.map_some,reduceCtorEq,Q0] at h
 ·rfl
 ·exact O _ _ h
theorem nP{A B C E:Type}{p:A→B}{q:C→E}{o G:Option A}{F J:A→Option C}(h:o.map p=G.map p)(O:∀r r',p r=p r'→(F r).map q=(J r').map q):(o.bind F).map q=(G.bind J).map q:=by
 cases o<;>cases G<;>simp only[Option.map_none,Option.map_some,reduceCtorEq,Q0] at h
 ·rfl
 ·exact O _ _ h
theorem Sj(h:l.map (RZ 1)=l'.map (RZ 1))(k:Nat):(List.drop 1 (List.take k l)).map (RZ 1)=(List.drop 1 (List.take k l')).map (RZ 1):=by
 rw[List.map_drop,List.map_take,h,←List.map_take,←List.map_drop]
theorem Mv(h:l.map (RZ 1)=l'.map (RZ 1))(a:Kn)(g:Bool):(Zv n ⟨a,l,g⟩).map rs=(Zv n ⟨a,l',g⟩).map rs:=by
 have hc:=Sj h;unfold Zv;simp only[Qb,WB,Mq h];rcases Pe h 0 with⟨e,G⟩|⟨y,J,e,G,U⟩
 ·rw[e,G];cases Qj (l'.length:Int) 0<;>simp[rs,h]
 ·rw[e,G];obtain⟨O,_,W,_⟩:=Uc U;simp only[Zj,O,W];cases Qj (l'.length:Int) 0
  ·cases Qj J.Kind 6
   ·simp[rs,h]
   ·simp only[Kk,Bool.not_true,Zj];cases VY 1 (l'.length:Int) (l'.length:Int) l'.length
    ·rfl
    ·simp only[Kj,Option.map_some,rs];rw[show Int.toNat 1=1 from rfl,hc]
  ·simp[rs,h]
theorem Ad(h:l.map (RZ 1)=l'.map (RZ 1))(a b:Kn)(g f:Bool):Zw n ⟨a,l,g⟩=Zw n ⟨b,l',f⟩:=by
 unfold Zw;simp only[Qb,WB,Mq h];rcases Pe h 0 with⟨e,G⟩|⟨y,W,e,G,U⟩
 ·rw[e,G]
 ·rw[e,G];obtain⟨O,J,_,_⟩:=Uc U;simp only[Zj,O,J]
theorem tN(h:l.map (RZ 1)=l'.map (RZ 1))(a:Kn)(g:Bool):(Yd n ⟨a,l,g⟩).map rs=(Yd n ⟨a,l',g⟩).map rs:=by
  have key:∀(k:Nat) (x y:Int) (b:Bool) (l l' m O:List (List PV)),l.map (RZ 1)=l'.map (RZ 1) →
      (QB (fun G (v:Int×Int×List (List PV)×Bool)=>Zl n ⟨a,m,g⟩ G v.1 v.2.1 v.2.2.1 v.2.2.2) k (x,y,l,b)).map (fun r=>(r.1,r.2.1.map (RZ 1),r.2.2)) =
      (QB (fun G (v:Int×Int×List (List PV)×Bool)=>Zl n ⟨a,O,g⟩ G v.1 v.2.1 v.2.2.1 v.2.2.2) k (x,y,l',b)).map (fun r=>(r.1,r.2.1.map (RZ 1),r.2.2)):=by
    intro k
    induction k with
   |zero=>intros;rfl
   |succ k J =>
      intro x y b l l' m O h;rw[XC,XC];have J:=fun x y b l l' h=>J x y b l l' m O h
      generalize QB (fun G (v:Int×Int×List (List PV)×Bool)=>Zl n ⟨a,m,g⟩ G v.1 v.2.1 v.2.2.1 v.2.2.2) k=L at J ⊢;generalize QB (fun G (v:Int×Int×List (List PV)×Bool)=>Zl n ⟨a,O,g⟩ G v.1 v.2.1 v.2.2.1 v.2.2.2) k=W at J ⊢;show(Zl n ⟨a,m,g⟩ L x y l b).map _=(Zl n ⟨a,O,g⟩ W x y l' b).map _;unfold Zl;simp only[Qb,List.length_map,Mq h,show Int.toNat 1=1 from rfl];cases Qj y 0;rotate_left
      · simp[h]
      simp only[Bool.not_false,cond_true]
      cases Qj (vv .i64 x y) 0<;>simp only[Bool.not_true,Bool.not_false,cond_true,cond_false,Zj] <;>
        (cases VY 1 (l'.length:Int) (l'.length:Int) l'.length
         · rfl
         · simp only[cond_true]
           rw[Ad (Sj h _) a a _ _];cases Zw n _ with
          |none=>rfl
          |some U =>
             simp only[Zj];cases JB n U with
            |none=>rfl
            |some r7=>exact J _ _ _ _ _ (Sj h _))
  unfold Yd;rw[Ad h a a g g];cases Zw n ⟨a,l',g⟩ with
 |none=>rfl
 |some r2 =>
    simp only[Zj];cases JB n r2 with
   |none=>rfl
   |some Y =>
      simp only[Zj];refine nP (key n 0 Y g l l' l l' h) ?_;rintro⟨x,v,b⟩ ⟨x',v',Z⟩ e;simp only[Prod.mk.injEq] at e;obtain⟨rfl,e,rfl⟩:=e;simp only;cases Qj x 0<;>simp[rs,e]
theorem tQ{Y:GN}(h1:x.Name=Y.Name)(h:x.Kids.map (RZ 1)=Y.Kids.map (RZ 1)):XY n x=XY n Y:=by
 have key:∀(k:Nat) (a:Bool) (b c d e f g i:Int) (l l':List (List PV)) (j p q r s:Bool),l.map (RZ 1)=l'.map (RZ 1)→QB (tB n) k (a,b,c,d,e,f,g,i,l,j,p,q,r,s)=QB (tB n) k (a,b,c,d,e,f,g,i,l',j,p,q,r,s):=by
  intro k
  induction k with
 |zero=>intros;rfl
 |succ k U =>
   intro a b c d e f g i l l' j p q r s h;rw[XC,XC];generalize QB (tB n) k=L at U ⊢;have go:∀{A A':Option (Int×H9)} (F:Int×H9→TSt),A.map rs=A'.map rs→(∀u J,rs u=rs J→L (F u)=L (F J))→(A.bind fun u=>L (F u))=A'.bind fun u=>L (F u):=fun F hA hF=>Ac hA hF
   have W:∀{u J:Int×H9},rs u=rs J→u.1=J.1∧u.2.article=J.2.article∧u.2.values.map (RZ 1)=J.2.values.map (RZ 1)∧u.2.good=J.2.good:=by
    intro u J e;simp only[rs,XA] at e;exact e
   unfold tB;show VE n L a b c d e f g i l j p q r s=VE n L a b c d e f g i l' j p q r s;unfold VE;simp only[Qb,WB,Mq h,show Int.toNat 1=1 from rfl];have hc:=Sj h;rw[Ad h _ ⟨b,c,d,e,f,g,i⟩ _ j];cases (cond j (some (QV 0 (l'.length:Int))) (some false)) with
  |none=>rfl
  |some Z =>
    simp only[Zj];cases Z
    ·rfl
    simp only[Kj];cases Zw n ⟨⟨b,c,d,e,f,g,i⟩,l',j⟩ with
   |none=>rfl
   |some G =>
     simp only[Zj];cases (Qs G [112,101,114]&&p);rotate_left
     ·simp only[Kj];cases (cond a (some true) (some (Qs G [112,101,114]))) with
     |none=>rfl
     |some O =>
       simp only[Zj];cases VY 1 (l'.length:Int) (l'.length:Int) l'.length
       ·rfl
       ·refine go _ (Mv (hc _) _ _) fun u J e=>?_
        obtain⟨g1,g2,g3,g4⟩:=W e;rw[g1,g2,g4];exact U _ _ _ _ _ _ _ _ _ _ _ _ _ _ _ g3
     simp only[Kk];cases (Qs G [102,114,101,101]&&q);rotate_left
     ·simp only[Kj];cases (cond a (some true) (some (Qs G [112,101,114]))) with
     |none=>rfl
     |some O =>
       simp only[Zj];cases VY 1 (l'.length:Int) (l'.length:Int) l'.length
       ·rfl
       ·refine go _ (Mv (hc _) _ _) fun u J e=>?_
        obtain⟨g1,g2,g3,g4⟩:=W e;rw[g1,g2,g4];exact U _ _ _ _ _ _ _ _ _ _ _ _ _ _ _ g3
     simp only[Kk];cases (Qs G [111,110]&&r);rotate_left
     ·simp only[Kj];cases (cond a (some true) (some (Qs G [112,101,114]))) with
     |none=>rfl
     |some O =>
       simp only[Zj];cases VY 1 (l'.length:Int) (l'.length:Int) l'.length
       ·rfl
       ·refine go _ (tN (hc _) _ _) fun u J e=>?_
        obtain⟨g1,g2,g3,g4⟩:=W e;rw[g1,g2,g4];exact U _ _ _ _ _ _ _ _ _ _ _ _ _ _ _ g3
     simp only[Kk];cases (Qs G [98,101,116,119,101,101,110]&&s)
     ·rfl
     ·simp only[Kj];cases (cond a (some true) (some (Qs G [112,101,114]))) with
     |none=>rfl
     |some O =>
       simp only[Zj];cases VY 1 (l'.length:Int) (l'.length:Int) l'.length
       ·rfl
       ·refine Ac (Mv (hc _) _ _) fun u J e=>?_
        obtain⟨g1,g2,g3,g4⟩:=W e;rw[g1,g2,g4];refine go _ (Mv g3 _ _) fun v v' e=>?_
        obtain⟨g1,g2,g3,g4⟩:=W e;rw[g1,g2,g4];exact U _ _ _ _ _ _ _ _ _ _ _ _ _ _ _ g3
 unfold XY;rw[h1];cases Fx n Y.Name with
|none=>rfl
|some r1 =>
  simp only[Zj];refine Ac (Mv h _ _) fun u J e=>?_
  simp only[rs,XA] at e;obtain⟨g1,g2,g3,g4⟩:=e;rw[g1,g2,g4];have hk:=fun a b c d e f g i j p q r s=>key n a b c d e f g i _ _ j p q r s g3
  unfold tB at hk;simp only[hk]
theorem tT{J:GN}(h:Oo 3 y=Oo 3 J):(ZE n y).2.Err=(ZE n J).2.Err∧(ZE n y).1=(ZE n J).1:=by
 obtain⟨_,_,_,h⟩:=Uc h
 have key:∀(k:Nat) (v:List Kn×Bool×Int),(QB (fun G (v:(List Kn)×Bool×Int)=>ZT n y G v.1 v.2.1 v.2.2) k v).map (fun r=>(r.1,r.2.Err))=(QB (fun G (v:(List Kn)×Bool×Int)=>ZT n J G v.1 v.2.1 v.2.2) k v).map (fun r=>(r.1,r.2.Err)):=by
  intro k
  induction k with
 |zero=>intro v;rfl
 |succ k W =>
   rintro⟨c,a,b⟩;rw[XC,XC];generalize QB (fun G (v:(List Kn)×Bool×Int)=>ZT n y G v.1 v.2.1 v.2.2) k=L at W ⊢;generalize QB (fun G (v:(List Kn)×Bool×Int)=>ZT n J G v.1 v.2.1 v.2.2) k=L' at W ⊢;show(ZT n y L c a b).map _=(ZT n J L' c a b).map _;unfold ZT;simp only[Qb,WB,Mq h];cases QV b (J.Kids.length:Int)
   ·rfl
   simp only[Kj];rcases Pe h b with⟨e,O⟩|⟨z,Y,e,O,Z⟩
   ·rw[e,O];rfl
   rw[e,O];obtain⟨g1,g2,_,g4⟩:=Uc Z;simp only[Zj,g1,tQ g2 g4];cases Qj Y.Kind 3;rotate_left
   ·rfl
   simp only[Kk];cases Qj (c.length:Int) 12;rotate_left
   ·rfl
   simp only[Kk];cases XY n Y with
  |none=>rfl
  |some U =>
    simp only[Zj];cases U.2
    ·rfl
    simp only[Bool.not_true,Kk];cases Y8 n U.1 with
   |none=>rfl
   |some r4 =>
     simp only[Zj];cases r4
     ·rfl
     simp only[Bool.not_true,Kk];cases Qj U.1.Kind 6<;>cases a<;>simp only[Kj,Kk,Zj]<;>try rfl
     all_goals
      cases QI (List.length (c++[U.1])) 56
      ·rfl
      ·exact W _
 have hb:(Ya n y).map (fun r=>(r.1,r.2.Err))=(Ya n J).map (fun r=>(r.1,r.2.Err)):=key n _;unfold ZE;cases e:Ya n y<;>cases O:Ya n J<;>rw[e,O] at hb<;>simp only[Option.map_none,Option.map_some,reduceCtorEq,Q0,XA] at hb
 ·exact⟨rfl,rfl⟩
 ·exact⟨hb.2,hb.1⟩
theorem yQ{α β:Type}{f:α→β}:∀{l l':List α},l.map f=l'.map f→∃ps:List (α×α),l=ps.map (·.1)∧l'=ps.map (·.2)∧∀p∈ps,f p.1=f p.2
|[],[],_=>⟨[],rfl,rfl,fun p h=>by cases h⟩
|[],_::_,h=>by cases h
|_::_,[],h=>by cases h
|a::l,b::l',h=>by
  simp only[WV,List.cons.injEq] at h;obtain⟨ps,O,G,J⟩:=yQ h.2;refine⟨(a,b)::ps,by rw[O];rfl,by rw[G];rfl,fun p hp=>?_⟩;rcases List.mem_cons.1 hp with rfl|hp
  ·exact h.1
  ·exact J p hp
def QdI(n:Nat)(p:GN×GN):Prop:=p.1.Name=p.2.Name∧(ZE n p.1).2.Err=(ZE n p.2).2.Err∧(ZE n p.1).1=(ZE n p.2).1
theorem Qa2{p:GN×GN}(h:QdI n p)(nm:List (List UInt8)):(UN (ZE n) nm p.1).2.Err=(UN (ZE n) nm p.2).2.Err∧(UN (ZE n) nm p.1).1=(UN (ZE n) nm p.2).1:=by
 unfold UN;rw[h.1];cases nm.contains p.2.Name
 ·cases decide (8≤nm.length)
  ·exact h.2
  ·exact⟨rfl,rfl⟩
 ·exact⟨rfl,rfl⟩
theorem ze{n:Nat}:∀(ps:List (GN×GN)) (out:List WY) (dg G:List Za) (nm:List (List UInt8)),(∀p∈ps,QdI n p)→dg.map (·.Err)=G.map (·.Err) →
  (C8 (ZE n) (ps.map (·.1)) out dg nm).2.map (·.Err)=(C8 (ZE n) (ps.map (·.2)) out G nm).2.map (·.Err)∧(C8 (ZE n) (ps.map (·.1)) out dg nm).1=(C8 (ZE n) (ps.map (·.2)) out G nm).1
|[],out,dg,G,nm,_,J=>⟨J,rfl⟩
|p::ps,out,dg,G,nm,Y,J=>by
  have hp:=Y p List.mem_cons_self;have W:=fun q Z=>Y q (List.mem_cons_of_mem _ Z)
  obtain⟨o1,o2⟩:=Qa2 hp nm;have O:dg.length=G.length:=by simpa using congrArg List.length J
  have U:(dg++[(UN (ZE n) nm p.1).2]).map (·.Err)=(G++[(UN (ZE n) nm p.2).2]).map (·.Err):=by simp only[List.map_append,J,WV,List.map_nil,o1]
  simp only[WV,C8];rw[←o1,←hp.1,←O,←o2];cases decide ((UN (ZE n) nm p.1).2.Err=0)
  ·cases decide (dg.length=19)
   ·exact ze ps _ _ _ _ W U
   ·exact⟨U,rfl⟩
  ·exact ze ps _ _ _ _ W J
theorem QdJ(J:Good n s T xs):Kb 4 (FD xs)∧shp 4 (FD xs):=by
 have G:=(SK s T).1 J.1;exact⟨Qfm G.1 zo G.2.1 J.2.1,qc 4 _ (yL J.1 J.2.1)⟩
theorem zf{A:GN→List Kn×Za}:∀(l:List GN) (out:List WY) (dg:List Za) (nm:List (List UInt8)),dg.length≤19→(C8 A l out dg nm).2.length≤20
|[],out,dg,nm,h=>by unfold C8;simp only;omega
|y::l,out,dg,nm,h=>by
  unfold C8;by_cases c:(UN A nm y).2.Err=0
  ·rw[KJ c,Kj];exact zf l _ _ _ h
  ·rw[Ki c,Kk];by_cases G:dg.length=19
   ·rw[KJ G,Kj];simp only[X4,JF,List.length_nil];omega
   ·rw[Ki G,Kk];exact zf l _ _ _ (by simp only[X4,JF,List.length_nil];omega)
theorem zg{A:GN→List Kn×Za}:∀(l:List GN) (out:List WY) (dg:List Za) (nm:List (List UInt8)),(C8 A l out dg nm).1.length≤out.length+l.length
|[],out,dg,nm=>by unfold C8;simp
|y::l,out,dg,nm=>by
  unfold C8;cases decide ((UN A nm y).2.Err=0)
  ·cases decide (dg.length=19)
   ·have:=zg (A:=A) l (out++[⟨y.Name,(UN A nm y).1⟩]) (dg++[(UN A nm y).2]) (nm++[y.Name]);simp only[Kk,X4,JF,List.length_nil] at this ⊢;omega
   ·simp only[Kk,Kj];omega
  ·have:=zg (A:=A) l (out++[⟨y.Name,(UN A nm y).1⟩]) dg (nm++[y.Name]);simp only[Kj,X4,JF,List.length_nil] at this ⊢;omega
theorem gI(O:Kb d x)(J:9223372036854776000≤n)(G:okT x=false):Yq n x=some ([],[⟨1,0⟩]):=by
 unfold Yq;rw[N8 O J,G];rfl
theorem xu{z:GN}(U:shp 4 x)(O:shp 4 z)(h:Oo 4 x=Oo 4 z):∃ps:List (GN×GN),Qp x.Kids=ps.map (·.1)∧Qp z.Kids=ps.map (·.2)∧∀p∈ps,Oo 3 p.1=Oo 3 p.2:=by
 obtain⟨_,_,_,J⟩:=Uc h;have W:=Aa (k:=3) (QcO 3 x▸U).2;have G:=Aa (k:=3) (QcO 3 z▸O).2;exact yQ (by rw[←W,←G,J])
theorem Rn(G:Kb d x)(O:9223372036854776000≤n)(J:okT x=true) :
  Yq n x=some (bif decide ((C8 (ZE n) (Wt (Qp x.Kids)) [] [] []).2=[]) then(C8 (ZE n) (Wt (Qp x.Kids)) [] [] []) else([],(C8 (ZE n) (Wt (Qp x.Kids)) [] [] []).2)):=by
 obtain⟨e,_,_,_,U⟩:=ZC G;have:=(su J).2.2.2.2;exact ym U zo O (by rw[N8 G O,J])
theorem Qa3{d':Nat}{z:GN}(ht:Kb d x)(W:Kb d' z)(hn:9223372036854776000≤n)(hv:okT x=true)(Z:okT z=true)(hx:shp 4 x)(hz:shp 4 z)(h:Oo 4 x=Oo 4 z) :
  ∃r r',Yq n x=some r∧Yq n z=some r'∧r.2.map (·.Err)=r'.2.map (·.Err)∧r.1=r'.1∧r.2.length≤20∧r.1.length≤1500:=by
 obtain⟨ps,e1,e2,Y⟩:=xu hx hz h;have hA:∀p∈ps,QdI n p:=fun p hp=>⟨(Uc (Y p hp)).2.1,tT (Y p hp)⟩
 have hN:∀p∈ps,p.1.N=p.2.N:=fun p hp=>(Uc (Y p hp)).2.2.1
 have hf:∀O:List (GN×GN),(∀p∈O,p.1.N=p.2.N)→Wt (O.map (·.1))=(O.filter fun p=>decide (p.1.N=7)).map (·.1)∧Wt (O.map (·.2))=(O.filter fun p=>decide (p.1.N=7)).map (·.2):=by
  intro O
  induction O with
 |nil=>intro _;exact⟨rfl,rfl⟩
 |cons p O ih =>
   intro hq;obtain⟨U,i2⟩:=ih fun q h=>hq q (List.mem_cons_of_mem _ h)
   have hp:=hq p List.mem_cons_self;unfold Wt at U i2 ⊢;simp only[WV,List.filter_cons];rw[←hp];cases decide (p.1.N=7)
   ·exact⟨U,i2⟩
   ·simp only[if_true,WV,U,i2];exact⟨trivial,trivial⟩
 obtain⟨f1,f2⟩:=hf ps hN;rw[Rn ht hn hv,Rn W hn Z,e1,e2,f1,f2];have hb:=ze (n:=n) (ps.filter fun p=>decide (p.1.N=7)) [] [] [] [] (fun p hp=>hA p (List.mem_filter.1 hp).1) rfl;have J:=zf (A:=ZE n) ((ps.filter fun p=>decide (p.1.N=7)).map (·.1)) [] [] [] zq;have G:=zg (A:=ZE n) ((ps.filter fun p=>decide (p.1.N=7)).map (·.1)) [] [] []
 have aa:(ps.filter fun p=>decide (p.1.N=7)).length≤1500:=by
  have h1:=List.length_filter_le (fun p:GN×GN=>decide (p.1.N=7)) ps;have h2:=congrArg List.length e1;have h3:=qY x.Kids;have h4:=(su hv).2.2.2.2;simp only[WB] at h2;omega
 simp only[List.length_nil,WB] at G;generalize C8 (ZE n) ((ps.filter fun p=>decide (p.1.N=7)).map (·.1)) [] [] []=r at hb J G;generalize C8 (ZE n) ((ps.filter fun p=>decide (p.1.N=7)).map (·.2)) [] [] []=r' at hb;refine⟨_,_,rfl,rfl,?_⟩;by_cases c:r.2=[]
 ·have c':r'.2=[]:=by
   have:=hb.1;rw[c] at this;simpa using this.symm
  rw[KJ c,KJ c',Kj,Kj];exact⟨hb.1,hb.2,J,by omega⟩
 ·have c':r'.2≠[]:=by
   intro h;have:=hb.1;rw[h] at this;exact c (by simpa using this)
  rw[Ki c,Ki c',Kk,Kk];exact⟨hb.1,rfl,J,by simp⟩
theorem QdK:KX 36893488147419103232=some true:=by kernel_rfl
theorem Bf{R V:Type}{B:(V→Option R)→V→Option R}{E:Option R}{f:Nat→V}{k:Nat}(hs:∀rec (i:Nat),i<k→B rec (f i)=rec (f (i+1)))(G:∀rec,B rec (f k)=E):∀{n:Nat} (i:Nat),i≤k→k-i<n→QB B n (f i)=E
|0,_,_,h=>absurd h (Nat.not_lt_zero _)
|n+1,i,hi,h=>by
  unfold QB;by_cases c:i<k
  ·rw[hs _ i c];exact Bf hs G (i+1) c zo
  ·rw[show i=k by omega];exact G _
theorem tV{t:WY}(G:t.Articles.length≤900)(J:1000≤n):XZ n t t=some true:=by
 unfold XZ;simp only[sw,Bool.not_true,Kk,Zj];rw[lF rfl,Bool.not_true,Kk];refine Bf (f:=fun i:Nat=>(i:Int)) (k:=t.Articles.length) (fun rec i hi=>?_) (fun rec=>?_) 0 zo zo
 ·unfold WP;simp only[Qb,WB];rw[MK zo,Kj,ZW,List.getElem?_eq_getElem hi,Zj,Zj,ZP zo zo];simp[MJ,Qj]
 ·unfold WP;simp only[Qb,WB];rw[Ef zo,Kk]
theorem QdL{l:List WY}(J:l.length≤2000)(G:∀t∈l,t.Articles.length≤900)(O:3000≤n):ZV n l l=some true:=by
 unfold ZV;rw[lF rfl,Bool.not_true,Kk];refine Bf (f:=fun i:Nat=>(i:Int)) (k:=l.length) (fun rec i hi=>?_) (fun rec=>?_) 0 zo zo
 ·unfold ZZ;simp only[Qb,WB];rw[MK zo,Kj,ZW,List.getElem?_eq_getElem hi,Zj,Zj,tV (G _ (List.getElem_mem hi)) zo,Zj,ZP zo zo];rfl
 ·unfold ZZ;simp only[Qb,WB];rw[Ef zo,Kk]
theorem zh{A:GN→List Kn×Za}:∀(l:List GN) (out:List WY) (dg:List Za) (nm:List (List UInt8)),(C8 A l out dg nm).2=[]→dg=[]
|[],out,dg,nm,h=>h
|y::l,out,dg,nm,h=>by
  unfold C8 at h;cases c:decide ((UN A nm y).2.Err=0)
  ·rw[c,Kk] at h;cases c2:decide (dg.length=19)
   ·rw[c2,Kk] at h;have:=zh l _ _ _ h;simp at this
   ·rw[c2,Kj] at h;simp at h
  ·rw[c,Kj] at h;exact zh l _ _ _ h
theorem yR{A:GN→List Kn×Za}:∀(l:List GN) (out:List WY) (dg:List Za) (nm:List (List UInt8)),(∀y∈l,(A y).2.Err=0→(A y).1.length≤12)→(∀t∈out,t.Articles.length≤12)→(C8 A l out dg nm).2=[]→∀t∈(C8 A l out dg nm).1,t.Articles.length≤12
|[],out,dg,nm,_,O,_=>O
|y::l,out,dg,nm,U,O,G=>by
  have Z:=fun z W=>U z (List.mem_cons_of_mem _ W)
  unfold C8 at G ⊢;cases c:decide ((UN A nm y).2.Err=0)
  ·rw[c,Kk] at G;exfalso;cases c2:decide (dg.length=19)
   ·rw[c2,Kk] at G;have:=zh l _ _ _ G;simp at this
   ·rw[c2,Kj] at G;simp at G
  ·rw[c,Kj] at G;rw[Kj];refine yR l _ _ _ Z (fun t J=>?_) G;rcases List.mem_append.1 J with J|J
   ·exact O t J
   ·obtain rfl:=List.mem_singleton.1 J;have c:=of_decide_eq_true c;have Y:=U y List.mem_cons_self;simp only;unfold UN at c ⊢;cases e1:nm.contains y.Name
    ·rw[e1,Kk] at c;rw[Kk];cases e2:decide (8≤nm.length)
     ·rw[e2,Kk] at c;exact Y c
     ·exact Nat.zero_le _
    ·exact Nat.zero_le _
theorem tX{r:List WY×List Za}(G:Kb d x)(O:9223372036854776000≤n)(Z:okT x=true)(h:Yq n x=some r):∀t∈r.1,t.Articles.length≤12:=by
 obtain⟨e,_,_,_,hk⟩:=ZC G
 have U:∀y∈Wt (Qp x.Kids),(ZE n y).2.Err=0→(ZE n y).1.length≤12:=by
  intro y J h0;have J:=(List.mem_filter.1 J).1;obtain⟨q,e1,Y,_⟩:=yl (n:=n) (NU hk _ J) O;have W:ZE n y=q:=by unfold ZE;rw[e1];rfl
  rw[W];exact Y
 rw[Rn G O Z] at h;obtain rfl:=Option.some.inj h;have:=yR (Wt (Qp x.Kids)) [] [] [] U (fun t G=>by cases G);by_cases c:(C8 (ZE n) (Wt (Qp x.Kids)) [] [] []).2=[]
 ·rw[KJ c,Kj];exact this c
 ·rw[Ki c,Kk];exact fun t G=>by cases G
theorem gJ:∀(l:List GN) (s:BS),s.fit→s.dg.length≤19→(runF l s).dg.length≤20
|[],s,_,h=>by unfold runF;omega
|y::l,s,hf,h=>by
  obtain⟨f1,f2,_⟩:=Mo (y:=y) hf;unfold runF;split
  ·omega
  ·exact gJ l _ f1 zo
theorem tY{r:QW×List Za}(Y:Kb d x)(hn:9223372036854776000≤n)(Z:okT x=true)(h:Ky n x=some r):r.2.length≤20∧r.1.Conductors.length≤1000∧r.1.Owners.length≤1000∧r.1.Contracts.length≤1000∧r.1.Chargers.length≤1000∧r.1.Bays.length≤1000:=by
 have G:=Z;simp only[okT,leI,Z8,Bg] at G;have g:=gG Y hn zo;rw[G.1] at g;rw[g] at h;obtain rfl:=Option.some.inj h;have J:=gJ (Qp x.Kids) bs0 Qfr (by simp[bs0]);obtain⟨W,h3,h4,O,U⟩:=gH (l:=Qp x.Kids) Qfr;generalize runF (Qp x.Kids) bs0=s at J W h3 h4 O U;simp only[if_true];split
 ·split
  ·exact⟨by simp,by simp only[BS.site];omega,by simp only[BS.site];omega,by simp only[BS.site];omega,by simp only[BS.site];omega,by simp only[BS.site];omega⟩
  ·exact⟨by simp,by simp,by simp,by simp,by simp,by simp⟩
 ·exact⟨J,by simp,by simp,by simp,by simp,by simp⟩
theorem yT(O:Kb d x)(J:9223372036854776000≤n)(G:okT x=false):Ky n x=some (⟨[],[],[],[],[]⟩,[⟨1,0⟩]):=by
 unfold Ky;rw[N8 O J,G];rfl
theorem Ae:Kb 1 nz:=⟨by decide,by decide,by decide,by decide,by decide,fun k G=>by cases G⟩
theorem gK:∀{l m:List GN} {s:BS},(runF l s).dg=[]→runF (l++m) s=runF m (runF l s)
|[],m,s,_=>rfl
|y::l,m,s,h=>by
  obtain⟨J,G⟩:=Be h;rw[G] at h ⊢;rw[List.cons_append,zb J];exact gK h
theorem Pg:∀{l:List GN} {s:BS},(runF l s).dg=[]→(l.map (·.Name)).Nodup∧(∀y∈l,Xb s.nm y.Name=false)∧∀w,Xb (runF l s).nm w=(Xb s.nm w||(l.map (·.Name)).contains w)
|[],s,_=>⟨List.nodup_nil,fun y h=>(by cases h),fun w=>by simp[runF]⟩
|y::l,s,h=>by
  obtain⟨W,J⟩:=Be h;rw[J] at h ⊢;obtain⟨O,i2,i3⟩:=Pg h
  have U:Xb s.nm y.Name=false:=by
   have:=(good_step W).1;unfold twB at this;simp only[Bool.or_eq_false_iff] at this;exact this.1
  have i2:∀z∈l,Xb s.nm z.Name=false∧z.Name≠y.Name:=fun z G=>by
   have:=i2 z G;rw[Si,Dz,Bool.or_eq_false_iff] at this;exact⟨this.1,by simpa using this.2⟩
  refine⟨?_,fun z G=>?_,fun w=>?_⟩
  ·rw[WV,List.nodup_cons];refine⟨fun Y=>?_,O⟩;obtain⟨z,G,e⟩:=List.mem_map.1 Y;exact(i2 z G).2 e
  ·rcases List.mem_cons.1 G with rfl|G
   ·exact U
   ·exact(i2 z G).1
  ·rw[i3,Si,Dz,WV,List.contains_cons,Bool.or_assoc]
theorem yU:∀{l:List GN} {s:BS},(∀y∈l,y.N=7)→(l.map (·.Name)).Nodup→(∀y∈l,Xb s.nm y.Name=false)→s.dg=[]→∃m,runF l s={ s with nm:=m }
|[],s,_,_,_,_=>⟨s.nm,rfl⟩
|y::l,s,h7,O,W,hs=>by
  rw[WV,List.nodup_cons] at O;have J:=h7 y List.mem_cons_self
  have e:Yt y s=KY y s:=by
   unfold Yt;rw[if_neg (by unfold twB;rw[W y List.mem_cons_self,Zg,J];simp),if_pos J]
  have U:KY y s={ s with nm:=Ql Qa y.Name true s.nm }:=by
   unfold KY;rw[Zg,J];simp
  rw[zb (by rw[e,U];exact hs),e,U]
  obtain⟨m,Y⟩:=yU (l:=l) (s:={ s with nm:=Ql Qa y.Name true s.nm }) (fun z G=>h7 z (List.mem_cons_of_mem _ G)) O.2 (fun z G=>by
   show Xb (Ql Qa y.Name true s.nm) z.Name=false;rw[Dz,W z (List.mem_cons_of_mem _ G),Bool.false_or];have:z.Name≠y.Name:=fun e=>O.1 (e▸List.mem_map_of_mem G)
   simpa using this) hs
  exact⟨m,Y⟩
theorem QdM(a b:List GN):Ec (a++b)=Ec a+Ec b:=by
 unfold Ec;rw[List.map_append,List.sum_append]
theorem yV(p:GN→Bool):∀l:List GN,Ec (l.filter fun y=>!p y)+Ec (l.filter p)=Ec l
|[]=>rfl
|y::l=>by
  have G:=yV p l;rw[List.filter_cons,List.filter_cons,Me];cases p y
  ·simp only[Bool.not_false,if_true,Bool.false_eq_true,if_false,Me];omega
  ·simp only[Bool.not_true,if_true,Bool.false_eq_true,if_false,Me];omega
theorem qg(p:GN→Bool):∀l:List GN,(l.filter fun y=>!p y).length+(l.filter p).length=l.length
|[]=>rfl
|y::l=>by
  have G:=qg p l;rw[List.filter_cons,List.filter_cons];cases p y
  ·simp only[Bool.not_false,if_true,Bool.false_eq_true,if_false,JF];omega
  ·simp only[Bool.not_true,if_true,Bool.false_eq_true,if_false,JF];omega
theorem F4{ys:List GN}(O:Kb (d+1) x)(W:okT x=true)(U:∀y∈ys,y∈Qp x.Kids)(hl:ys.length≤(Qp x.Kids).length)(hw:Ec ys≤Ec (Qp x.Kids)) :
  Kb (d+1) (⟨x.Kind,x.Name,x.N,x.At,ys.map GN.cs⟩:GN)∧okT (⟨x.Kind,x.Name,x.N,x.At,ys.map GN.cs⟩:GN)=true∧Qp (ys.map GN.cs)=ys:=by
 obtain⟨e,he,_,_,Z⟩:=ZC O;obtain rfl:d=e:=by omega
 obtain⟨k1,Y⟩:=yO (d:=d) (l:=ys) fun y J=>NU Z _ (U y J)
 have h3:=qY x.Kids;refine⟨nN O (by rw[WB];omega) Y,?_,k1⟩;have G:=W;simp only[okT,Tu,leI,Z8,Bg,X5] at G ⊢;rw[k1,WB];exact⟨⟨G.1.1,G.1.2.1,G.1.2.2.1,fun y J=>G.1.2.2.2 y (U y J)⟩,by omega⟩
theorem MC(J:Kb d x)(U:9223372036854776000≤n)(O:okT x=true) :
  Ky n x=some (if(runF (Qp x.Kids) bs0).dg=[] then(if(runF (Qp x.Kids) bs0).fd then((runF (Qp x.Kids) bs0).site,[]) else(⟨[],[],[],[],[]⟩,[⟨4,0⟩])) else(⟨[],[],[],[],[]⟩,(runF (Qp x.Kids) bs0).dg)):=by
 have G:=O;simp only[okT,leI,Z8,Bg] at G;have g:=gG J U zo;rw[G.1] at g;rw[g];rfl
theorem yX(G:Kb d x)(O:9223372036854776000≤n):∃b,U9 n x 1600=some b:=by
 obtain⟨c,e,_⟩:=cZ 1600 n d x 1600 G zo zo zo zo;unfold U9;rw[e,Zj,leI];cases decide (c≤1600)
 ·exact⟨false,rfl⟩
 ·obtain⟨r,J,_⟩:=mZ 50 n d x 50 G zo zo zo zo;rw[Kj,J,Zj];exact⟨_,rfl⟩
theorem xw{n:Nat}{r2:GN×List Za}(hk:Yx d r2.1.Kids)(hl:r2.1.Kids.length≤1500):∀(m i k:Nat) (a b:List (List PV)),i+m=r2.1.Kids.length→m<k→a.length≤i→b.length≤i →
  QB (fun G (v:Int×(List (List PV))×(List (List PV)))=>QN r2 G v.1 v.2.1 v.2.2) k ((i:Int),a,b)=some (a++((Qp (r2.1.Kids.drop i)).filter fun y=>Qj y.N 7).map GN.cs,b++((Qp (r2.1.Kids.drop i)).filter fun y=>!Qj y.N 7).map GN.cs):=by
 intro m
 induction m with
|zero =>
  intro i k a b h1 O h3 Y;obtain⟨k,rfl⟩:∃q,k=q+1:=⟨k-1,by omega⟩;rw[XC,List.drop_eq_nil_of_le zo];show QN r2 _ (i:Int) a b=_;unfold QN;simp only[Qb,WB];rw[Ef zo];simp[Qp]
|succ m W =>
  intro i k a b h1 O h3 Y;obtain⟨k,rfl⟩:∃q,k=q+1:=⟨k-1,by omega⟩;rw[XC];have J:=fun a b=>W (i+1) k a b zo zo
  generalize QB (fun G (v:Int×(List (List PV))×(List (List PV)))=>QN r2 G v.1 v.2.1 v.2.2) k=L at J ⊢;obtain⟨y,U,Z,hc⟩:=XD hk (show i<r2.1.Kids.length by omega);show QN r2 L (i:Int) a b=_;unfold QN;simp only[Qb,WB];rw[MK zo,Kj,U,Zj,hc,List.filter_cons,List.filter_cons,rm2 (by rw[X4];simp;omega),rm2 (by rw[X4];simp;omega),ZP zo zo,show(i:Int)+1=((i+1:Nat):Int) by omega];cases Qj y.N 7
  ·simp only[Kk,Kj,Bool.not_false,if_true,Bool.false_eq_true,if_false];rw[J a (b++[GN.cs y]) zo (by rw[X4];simp;omega)];simp
  ·simp only[Kj,Bool.not_true,if_true,Bool.false_eq_true,if_false];rw[J (a++[GN.cs y]) b (by rw[X4];simp;omega) zo];simp
theorem nQ(O:9223372036854776000≤n)(hh:KX n=some true):ZN n s=some true:=by
 unfold ZN;rw[hh,Zj];cases ac:QV 3000 (Qb s);rotate_left
 ·rfl
 rw[Kk];obtain⟨⟨u,v⟩,er,hr⟩:=yM n s zo;have hd:=nK er hr;rw[er,Zj];simp only at hr hd ⊢;rcases hr with⟨ah,T,xs,hG,aj⟩|⟨aj,ah,_⟩
 rotate_left
 ·have:0<v.length:=List.length_pos_iff.2 ah;obtain⟨b,eb⟩:=yX Ae O;rw[aj,yT Ae O rfl,Zj,gI Ae O rfl,Zj,eb,Zj];simp only[Qb,WB,JF,List.length_nil];rw[ZP (x:=(v.length:Int)+((0+1:Nat):Int)) zo zo,ZP zo zo,MK zo];rfl
 obtain⟨U,hS⟩:=QdJ hG;obtain⟨b,eb⟩:=yX U O;subst aj ah;cases hv:okT (FD xs)
 ·rw[yT U O hv,Zj,gI U O hv,Zj,eb,Zj];rfl
 obtain⟨sv,es⟩:∃sv,Ky n (FD xs)=some sv:=⟨_,MC U O hv⟩;obtain⟨tv,et⟩:∃tv,Yq n (FD xs)=some tv:=⟨_,Rn U O hv⟩;obtain⟨d1,d2,d3,d4,d5,d6⟩:=tY U O hv es;have an:=tX U O hv et;obtain⟨q1,q2,a1,a2,a3,a4,a5,a6⟩:=Qa3 U U O hv hv hS hS rfl;obtain rfl:tv=q1:=by rw[et] at a1;exact Option.some.inj a1
 rw[es,Zj,et,Zj,eb,Zj];simp only[Qb,WB,List.length_nil];rw[ZP (x:=((0:Nat):Int)+(sv.2.length:Int)) zo zo,ZP zo zo];by_cases Y:sv.2=[];rotate_left
 ·have:0<sv.2.length:=List.length_pos_iff.2 Y;rw[MK zo];rfl
 by_cases ad:tv.2=[];rotate_left
 ·have:0<tv.2.length:=List.length_pos_iff.2 ad;rw[MK zo];rfl
 rw[Y,ad,List.length_nil,show QV 0 (((0:Nat):Int)+((0:Nat):Int)+((0:Nat):Int))=false from rfl,Kk,Zj];cases b
 ·rfl
 rw[Bool.not_true,Kk];obtain⟨e,he,_,_,hk⟩:=ZC U;have ao:=(su hv).2.2.2.2;have aa:=xw (r2:=(FD xs,([]:List Za))) (n:=n) hk (by show(FD xs).Kids.length≤1500;omega) (FD xs).Kids.length 0 n [] [] (by show 0+(FD xs).Kids.length=(FD xs).Kids.length;omega) zo zq zq;rw[List.drop_zero,List.nil_append,List.nil_append] at aa;refine(congrArg (fun q=>Option.bind q _) aa).trans ?_;rw[Zj];simp only[List.nil_append];rw[←List.map_append];generalize hL:Qp (FD xs).Kids=l;have ac:=qY (FD xs).Kids;have aq:=yV (fun y=>Qj y.N 7) l;have ar:=qg (fun y=>Qj y.N 7) l;have n1:=Xo (l.filter fun y=>!Qj y.N 7);have n2:=Xo (l.filter fun y=>Qj y.N 7);have W:∀y∈(l.filter fun y=>!Qj y.N 7),y∈l:=fun y h=>(List.mem_filter.1 h).1
 have J:∀y∈(l.filter fun y=>Qj y.N 7),y∈l:=fun y h=>(List.mem_filter.1 h).1
 rw[hL] at ac;obtain⟨tR,vR,kR⟩:=F4 (ys:=l.filter fun y=>!Qj y.N 7) U hv (by rw[hL];exact W) (by rw[hL];omega) (by rw[hL];omega);obtain⟨tO,vO,kO⟩:=F4 (ys:=l.filter fun y=>Qj y.N 7) U hv (by rw[hL];exact J) (by rw[hL];omega) (by rw[hL];omega);obtain⟨tA,vA,kA⟩:=F4 (ys:=(l.filter fun y=>!Qj y.N 7)++(l.filter fun y=>Qj y.N 7)) U hv (by rw[hL];exact fun y h=>(List.mem_append.1 h).elim (W y) (J y)) (by rw[hL,X4];omega) (by rw[hL,QdM];omega);rw[rm2 (by rw[WB];omega),rm2 (by rw[WB,X4];omega),Kj,Kj];have G:=MC U O hv;rw[es,hL] at G;have G:=Option.some.inj G
 have Z:(runF l bs0).dg=[]:=by
  by_cases c:(runF l bs0).dg=[]
  ·exact c
  ·rw[if_neg c] at G;rw[G] at Y;exact absurd Y c
 have ak:(runF l bs0).fd=true:=by
  cases c:(runF l bs0).fd
  ·rw[if_pos Z,c] at G;rw[G] at Y;exact absurd Y zq
  ·rfl
 rw[if_pos Z,ak,if_pos rfl] at G;obtain⟨m1,ab⟩:=TA (l:=l) (s:=bs0) (m:=bs0.nm) (fun w h=>h) Z;have am:({ bs0 with nm:=bs0.nm }:BS)=bs0:=rfl;rw[am] at ab;have ai:(runF (l.filter fun y=>!Qj y.N 7) bs0).dg=[]:=by rw[ab];exact Z
 obtain⟨u1,u2,u3⟩:=Pg Z;obtain⟨w1,w2,w3⟩:=Pg ai
 have af:∀y∈(l.filter fun y=>Qj y.N 7),Xb (runF (l.filter fun y=>!Qj y.N 7) bs0).nm y.Name=false:=by
  intro y hy;rw[w3,u2 y (J y hy),Bool.false_or];cases c:((l.filter fun y=>!Qj y.N 7).map (·.Name)).contains y.Name
  ·rfl
  ·exfalso;obtain⟨z,hz,e⟩:=List.mem_map.1 (List.contains_iff_mem.1 c)
   have inj:∀{l:List GN},(l.map (·.Name)).Nodup→∀a∈l,∀b∈l,a.Name=b.Name→a=b:=by
    intro l
    induction l with
   |nil=>intro _ a h;cases h
   |cons q l ih =>
     intro hd a ha b hb e;rw[WV,List.nodup_cons] at hd;rcases List.mem_cons.1 ha with h1|h1<;>rcases List.mem_cons.1 hb with h2|h2
     ·rw[h1,h2]
     ·exact absurd (h1▸e▸List.mem_map_of_mem h2) hd.1
     ·exact absurd (h2▸e▸List.mem_map_of_mem h1) hd.1
     ·exact ih hd.2 a h1 b h2 e
   obtain rfl:=inj u1 z (W z hz) y (J y hy) e;have p1:=(List.mem_filter.1 hz).2;have p2:=(List.mem_filter.1 hy).2;rw[p2] at p1;cases p1
 have hA:=gK (m:=l.filter fun y=>Qj y.N 7) ai;obtain⟨m2,al⟩:=yU (s:=runF (l.filter fun y=>!Qj y.N 7) bs0) (fun y hy=>by have:=(List.mem_filter.1 hy).2;rw[Zg] at this;exact of_decide_eq_true this) (List.Sublist.nodup ((List.filter_sublist).map _) u1) af ai;rw[al,ab] at hA;have sR:=MC tR O vR;have sA:=MC tA O vA;simp only at sR sA;rw[kR,ab] at sR;rw[kA,hA] at sA;simp only[Z,ak,if_true] at sR sA;have ae:=Rn U O hv;rw[et,hL] at ae;have sO:=Rn tO O vO;have sT:=Rn tA O vA;simp only at sO sT;have f7:∀l:List GN,Wt l=l.filter fun y=>Qj y.N 7:=fun l=>rfl
 have t1:Wt (l.filter fun y=>Qj y.N 7)=Wt l:=by rw[f7,f7];simp[List.filter_filter]
 have t2:Wt ((l.filter fun y=>!Qj y.N 7)++(l.filter fun y=>Qj y.N 7))=Wt l:=by
  rw[f7,f7,List.filter_append,List.filter_filter,List.filter_filter];simp
 rw[kO,t1,←ae] at sO;rw[kA,t2,←ae] at sT;rw[sR,Zj,sO,Zj,sA,Zj,sT,Zj,ad,G];simp only[BS.site];rw[G] at d2 d3 d4 d5 d6;simp only[BS.site] at d2 d3 d4 d5 d6;rw[xq d2 d3 d4 d5 d6 zo,QdL zo (fun t ht=>by have:=an t ht;omega) zo];rfl
end Go.Proofs
namespace Go.Proofs.YtkhhdppjbakngaaGreatDoor
open Go Go.Abs Go.Proofs
theorem topTariffsApart_holds:Rows.TopTariffsApartCardSaid :=
 Tp (fun s h=>⟨_,nQ (by decide) QdK⟩)
end Go.Proofs.YtkhhdppjbakngaaGreatDoor
