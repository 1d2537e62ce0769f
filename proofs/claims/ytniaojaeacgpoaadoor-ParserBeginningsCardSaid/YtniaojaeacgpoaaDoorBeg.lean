/-
  A part of the proof of a statement of the seat YtniaojaeacgpoaaDoor.
-/
import Derived.Test.YtniaojaeacgpoaaDoorBeg04
namespace Go.Proofs
open Go Go.Abs
set_option maxRecDepth 100000
set_option linter.unusedVariables false
def GClaim.cs (x:GClaim):List PV:=[VS x.Tariff.Name, .sl 7 (List.map GAr.cs x.Tariff.Articles),VI x.Calendar.Offset, .sl 2 (List.map GCh.cs x.Calendar.Changes), .sl 1 (List.map ci x.Calendar.Holidays), .sl 5 (List.map GReading.cs x.Readings),VU x.Seed,VI x.Session.From,VI x.Session.To,VI x.Session.End, .sl 2 (List.map GSl.cs x.Session.Slices), .sl 2 (List.map GLine.cs x.Bill.Lines),VI x.Bill.Net,VI x.Bill.Tax,VI x.Bill.Total]
structure GAE where
 Claim:GClaim
 follows:GSs
 bill:GBill
 rate:Int
deriving DecidableEq
def GAE.cs (x:GAE):List PV:=[VS x.Claim.Tariff.Name, .sl 7 (List.map GAr.cs x.Claim.Tariff.Articles),VI x.Claim.Calendar.Offset, .sl 2 (List.map GCh.cs x.Claim.Calendar.Changes), .sl 1 (List.map ci x.Claim.Calendar.Holidays), .sl 5 (List.map GReading.cs x.Claim.Readings),VU x.Claim.Seed,VI x.Claim.Session.From,VI x.Claim.Session.To,VI x.Claim.Session.End, .sl 2 (List.map GSl.cs x.Claim.Session.Slices), .sl 2 (List.map GLine.cs x.Claim.Bill.Lines),VI x.Claim.Bill.Net,VI x.Claim.Bill.Tax,VI x.Claim.Bill.Total,VI x.follows.From,VI x.follows.To,VI x.follows.End, .sl 2 (List.map GSl.cs x.follows.Slices), .sl 2 (List.map GLine.cs x.bill.Lines),VI x.bill.Net,VI x.bill.Tax,VI x.bill.Total,VI x.rate]
def g_a_isKey (n:Nat) (a0w:List UInt8):Option Bool :=
 (cond (eqS a0w [102,101,101,100,101,114])
  (some (eqS a0w [102,101,101,100,101,114]))
  (cond (eqS a0w [99,97,98,108,101])
   (some (eqS a0w [99,97,98,108,101]))
   (cond (eqS a0w [111,119,110,101,114])
    (some (eqS a0w [111,119,110,101,114]))
    (cond (eqS a0w [99,111,110,116,114,97,99,116])
     (some (eqS a0w [99,111,110,116,114,97,99,116]))
     (cond (eqS a0w [99,104,97,114,103,101,114])
      (some (eqS a0w [99,104,97,114,103,101,114]))
      (cond (eqS a0w [98,97,121])
       (some (eqS a0w [98,97,121]))
       (some (eqS a0w [116,97,114,105,102,102])))))))).bind fun j1 =>
 cond j1
  (some true)
  ((cond (eqS a0w [108,105,109,105,116])
   (some (eqS a0w [108,105,109,105,116]))
   (cond (eqS a0w [110,101,117,116,114,97,108])
    (some (eqS a0w [110,101,117,116,114,97,108]))
    (cond (eqS a0w [102,117,115,101])
     (some (eqS a0w [102,117,115,101]))
     (cond (eqS a0w [116,104,101,114,109,97,108])
      (some (eqS a0w [116,104,101,114,109,97,108]))
      (cond (eqS a0w [102,114,111,109])
       (some (eqS a0w [102,114,111,109]))
       (cond (eqS a0w [97,116])
        (some (eqS a0w [97,116]))
        (cond (eqS a0w [112,104,97,115,101,115])
         (some (eqS a0w [112,104,97,115,101,115]))
         (cond (eqS a0w [97,109,112,115])
          (some (eqS a0w [97,109,112,115]))
          (cond (eqS a0w [102,97,108,108,98,97,99,107])
           (some (eqS a0w [102,97,108,108,98,97,99,107]))
           (cond (eqS a0w [99,97,114,100])
            (some (eqS a0w [99,97,114,100]))
            (some (eqS a0w [114,97,110,107])))))))))))).bind fun j2 =>
  cond j2
   (some true)
   ((cond (eqS a0w [115,116,97,114,116])
    (some (eqS a0w [115,116,97,114,116]))
    (cond (eqS a0w [101,110,101,114,103,121])
     (some (eqS a0w [101,110,101,114,103,121]))
     (cond (eqS a0w [116,105,109,101])
      (some (eqS a0w [116,105,109,101]))
      (cond (eqS a0w [105,100,108,101])
       (some (eqS a0w [105,100,108,101]))
       (cond (eqS a0w [99,97,112])
        (some (eqS a0w [99,97,112]))
        (some (eqS a0w [116,97,120]))))))).bind fun j3 =>
   cond j3
    (some true)
    ((cond (eqS a0w [111,110])
     (some (eqS a0w [111,110]))
     (cond (eqS a0w [119,111,114,107])
      (some (eqS a0w [119,111,114,107]))
      (cond (eqS a0w [115,97,116,117,114,100,97,121])
       (some (eqS a0w [115,97,116,117,114,100,97,121]))
       (cond (eqS a0w [115,117,110,100,97,121])
        (some (eqS a0w [115,117,110,100,97,121]))
        (cond (eqS a0w [98,101,116,119,101,101,110])
         (some (eqS a0w [98,101,116,119,101,101,110]))
         (cond (eqS a0w [112,101,114])
          (some (eqS a0w [112,101,114]))
          (some (eqS a0w [102,114,101,101])))))))).bind fun j4 =>
    cond j4
     (some true)
     (some false))))
structure GLs where
 from_:Int
 to_:Int
deriving DecidableEq
def GLs.cs (x:GLs):List PV:=[VI x.from_,VI x.to_]
end Go.Proofs
namespace Go.Proofs
open Go Go.Abs Go.ChangeShapes Go.WideShapes Go.ChangeAt Go.RowKit Go.Proofs.YtniaojaeacgpoaaDoor
set_option maxRecDepth 100000
set_option linter.unusedVariables false
def ParserBeginningsPlain:Prop:=∀ (a0:List UInt8) (a1:Int),strb a0→u16b a1→∃ n,g_law02_ParserBeginnings n a0 a1=some true
theorem parserBeginnings_call (h:ParserBeginningsPlain):∀ xs,ArgsSh Tryd.prog 9 Tryd.f6.params.toList xs→PCall Tryd.prog 6 xs (.ret (.p (.val (.bool true)))):=by
 intro xs ha
 rw [Tryd.params6] at ha
 obtain ⟨_,_,rfl,h0,_,_,rfl,h1,rfl⟩:=ha
 obtain ⟨a0,rfl,w0⟩:=sh_str Tryd.underlying9 h0
 obtain ⟨a1,rfl,w1⟩:=sh_u16 Tryd.underlying49 h1
 obtain ⟨n,hn⟩:=h a0 a1 w0 w1
 simp only [avOf_str Tryd.underlying9,avOf_int Tryd.underlying49]
 exact g_law02_ParserBeginnings_ok n a0 a1 true hn
theorem gm_laid {W:World} (h:laidMetH Tryd.prog Rows.parserBeginningsRow.laid W):gmW W:=by
 have h2:=MakeChecks.laidMetH_plain Tryd.prog Rows.parserBeginningsRow.laid W krf
 have h3:laidMet Tryd.prog Rows.parserBeginningsRow.laid W:=h2 ▸ h
 obtain ⟨ps,⟨_,_,_,_,_,_,_,_,_,_,⟨_,_,_,_,_,_,_,_,_,_,⟨g,t,cs,fuel,p,q,hg,ht,hv,hd,_,_⟩,_⟩,_⟩,_,_⟩:=h3
 obtain rfl:=Option.some.inj ((show Tryd.prog.globalNamed "internal/strconv.uint64pow10"=some 0 by kernel_rfl).symm.trans hg)
 refine gm_tab ?_
 unfold Lib.TabIs
 have e:(Rows.laid_internal_strconv_uint64pow10:DataW Unit)=Lib.tabData .u64 Lib.pow10Tab:=by kernel_rfl
 rw [e] at hd
 obtain rfl:=Option.some.inj ((show (Tryd.prog.globals[0]?).map (·.type)=some 108 by kernel_rfl).symm.trans ht)
 rw [hv,← Lib.cells_of_tab Tryd.underlying108 Tryd.underlying101 krf krf hd]
set_option maxRecDepth 100000 in
theorem parserBeginnings_lifted (h:ParserBeginningsPlain) (os:Os) (started:os.Started) (H:Type) (enc:TypeId × Value→H) :
  ReturnsInHanded {} Tryd.checked os 6 .any (fun w args=>(Rows.parserBeginningsSpec.pre enc Tryd.prog Tryd.f6 Rows.parserBeginningsRow.domain false w args∧laidMetH Tryd.prog Rows.parserBeginningsRow.laid w)∧sizedMet enc Tryd.prog Tryd.f6 (OpenSpec.ofChange Rows.parserBeginningsSpec) false w args) (Rows.parserBeginningsSpec.post enc Tryd.prog Tryd.f6 false true false false):=by
 refine returnsInHanded_of_change_and (C:=Tryd.checked) (X:=fun w _=>laidMetH Tryd.prog Rows.parserBeginningsRow.laid w) (fun _ _ _ hh h=>h.of_heap hh) krf started krf Tryd.func6
  (ChangeSpec.witness_shaped (enc:=enc) (C:=Tryd.checked) (os:=os) (X:=fun w _=>laidMetH Tryd.prog Rows.parserBeginningsRow.laid w) false (World.laidAll Tryd.prog os Rows.parserBeginningsRow.laid) #[.string ⟨#[]⟩, .int .u16 0] 8 (World.laidAll_os _ _ _)
   (World.shaped_of_ZipB krf krf) krf krf krf
   (by rw [MakeChecks.laidMetH_plain _ _ _ krf]; exact laidMet_laidAll _ krf krf)) ?_
 intro W base args ds gs before hval hW _ _ hL _
 exact law_contract (P:=Tryd.prog) (f:=6) (fn:=Tryd.f6) (s:=Rows.parserBeginningsSpec) (tb:=4) (d:=9) krf krf krf krf Tryd.underlying4 rfl
  (fun ds hd=>by
   have hd:ds.length=2:=by rw [hd,show Tryd.f6.params.size=2 from by kernel_rfl]
   match ds,hd with
   | [d0,d1],_=>rfl)
  (parserBeginnings_call h) hval hW (gm_laid hL)
theorem parserBeginnings_said (h:ParserBeginningsPlain):Rows.ParserBeginningsSaid :=
 OpenClaim.holds_of_wide 6 Tryd.f6 rfl rfl rfl rfl rfl rfl rfl ⟨rfl,rfl,rfl,rfl,rfl⟩ rfl rfl rfl rfl rfl krf Tryd.func6 krf
  (of_decide_eq_true krf) (by unfold Func.isWrapper; first | (rw [if_pos (by decide +kernel)]; kernel_rfl) | (rw [if_neg (by decide +kernel)]; exact ⟨rfl,rfl⟩))
  (fun os started H enc _=>parserBeginnings_lifted h os started H enc)
theorem parserBeginnings_card (h:ParserBeginningsPlain):Rows.ParserBeginningsCardSaid :=
 Claim7.holds_tied_plain_at .later [] [.data, .data, .data] true (true,"ff2cb692223487a39003cc858dff74ab49d6771f2ed06d23d89a44b0ab4dff66") true
  (parserBeginnings_said h) (fun _ h=>by cases h) krf (fun _ h=>by cases h) parserBeginnings_row_tie rfl ⟨rfl,rfl⟩ krf rfl
  (fun f fn hf hfn=>by
   obtain rfl:f=6:=Option.some.inj ((show Tryd.prog.funcNamed Rows.parserBeginningsRow.func=some 6 by kernel_rfl).symm.trans hf) |>.symm
   obtain rfl:fn=Tryd.f6:=(Option.some.inj (Tryd.func6.symm.trans hfn)).symm
   exact ⟨by kernel_rfl,fun j t ht=>by
    rw [Tryd.params6] at ht
    have h3:t=9∨t=49:=by
     rcases j with _ | _ | j
     ·left; simpa using ht.symm
     ·right; simpa using ht.symm
     ·simp at ht
    rcases h3 with rfl | rfl
    ·exact (show Tryd.prog.wantsStandIn 9=false by kernel_rfl)
    ·exact (show Tryd.prog.wantsStandIn 49=false by kernel_rfl)⟩)
  krf
end Go.Proofs
namespace Go.Proofs
open Go Go.Abs
set_option maxRecDepth 100000
set_option linter.unusedVariables false
def Does {α:Type} (m:Option α) (Q:α→Prop):Prop:=∃ r,m=some r∧Q r
section
variable {α β V R E:Type}
theorem does_some {x:α} {Q:α→Prop} (h:Q x):Does (some x) Q:=⟨x,rfl,h⟩
theorem does_mono {m:Option α} {Q Q':α→Prop} (h:Does m Q) (hq:∀ x,Q x→Q' x):Does m Q':=by obtain ⟨x,e,h⟩:=h; exact ⟨x,e,hq x h⟩
theorem does_bind {m:Option α} {k:α→Option β} {Q:α→Prop} {Q':β→Prop} (h:Does m Q) (hk:∀ x,Q x→Does (k x) Q'):Does (m.bind k) Q':=by
 obtain ⟨x,rfl,h⟩:=h
 exact hk x h
theorem does_loop {B:(V→Option R)→V→Option R} {Q:V→R→Prop} (μ:V→Nat) (Inv:V→Prop)
  (hB:∀ rec v,Inv v→(∀ v',Inv v'→μ v' < μ v→Does (rec v') (Q v'))→Does (B rec v) (Q v)):∀ {n:Nat} {v:V},Inv v→μ v < n→Does (loopN B n v) (Q v)
 | 0,_,_,h=>absurd h (Nat.not_lt_zero _)
 | n+1,v,hv,h=>hB _ v hv (fun v' h1 h2=>does_loop μ Inv hB h1 (by omega))
end
theorem getI_nat {α:Type} {l:List α} {i:Nat}:getI l (i:Int)=l[i]?:=by
 unfold getI; rw [if_neg (by omega)]; simp
theorem wi_id {x:Int} (h1:-9223372036854775808≤x) (h2:x≤9223372036854775807):wi x=x:=by
 simp [wi,IntKind.wrap,IntKind.signed,IntKind.bits]; omega
def folB (a r:GReading):Bool:=if r.Serial=a.Serial then decide (a.Minute≤r.Minute∧a.Register≤r.Register) else decide (r.Minute=a.Minute)
def mixB (s x k:Int):Int:=wu ((bXor .u64 s (bAnd .u64 (shrI .u64 (wu x) k) 255)) * 1099511628211)
def mixW (s x:Int):Int:=[56,48,40,32,24,16,8,0].foldl (fun s k=>mixB s x k) s
def linkF (s:Int) (r:GReading):Int:=[r.Serial,r.Number,r.Minute,r.Register].foldl mixW s
def prevLink (seed:Int) (l:List GReading) (i:Nat):Int:=if i=0 then seed else ((l[i - 1]?).map (·.Link)).getD 0
def chainAt (seed:Int) (l:List GReading) (i:Nat):Prop:=∀ r ∈ l[i]?,(1≤r.Serial∧r.Serial≤1000000)∧r.Number=i+1∧(0≤r.Minute∧r.Minute≤52560000)∧(0≤r.Register∧r.Register≤1000000000) ∧
 (i ≠ 0→∀ a ∈ l[i - 1]?,folB a r=true)∧r.Link=linkF (prevLink seed l i) r
def chainOk (seed:Int) (l:List GReading):Prop:=(1≤l.length∧l.length≤64)∧∀ i,i < l.length→chainAt seed l i
end Go.Proofs
namespace Go.Proofs
open Go Go.Abs
set_option maxRecDepth 100000
set_option linter.unusedVariables false
theorem eqI_d (x y:Int):eqI x y=decide (x=y):=by unfold eqI; by_cases h:x=y <;> simp [h]
theorem cond_some {α:Type} {b:Bool} {x y:α}:cond b (some x) (some y)=some (cond b x y):=by cases b <;> rfl
def keyB (w:List UInt8):Bool:=(g_a_isKey 0 w).getD false
theorem loop_list {α R:Type} {l:List α} {B:(Int→Option R)→Int→Option R} {F:List α→R} (hlen:l.length≤4611686018427387904)
  (hend:∀ rec,B rec (l.length:Int)=some (F []))
  (hstep:∀ (rec:Int→Option R) (i:Nat) (x:α) (r:List α),l.drop i=x :: r→l[i]?=some x→i < l.length→wi ((i:Int)+1)=((i+1:Nat):Int)→(rec ((i+1:Nat):Int)=some (F r))→B rec (i:Int)=some (F (x :: r))) :
  ∀ {n:Nat} (i:Nat),i≤l.length→l.length - i < n→loopN B n (i:Int)=some (F (l.drop i))
 | 0,_,_,h=>absurd h (Nat.not_lt_zero _)
 | n+1,i,hi,h=>by
  unfold loopN
  by_cases he:i=l.length
  ·subst he; rw [hend]; simp
  ·have hlt:i < l.length:=by omega
   have hd:l.drop i=l[i] :: l.drop (i+1):=by rw [List.drop_eq_getElem_cons hlt]
   rw [hd]
   exact hstep _ i _ _ hd (by simp [hlt]) hlt (by rw [wi_id] <;> omega) (loop_list hlen hend hstep (i+1) (by omega) (by omega))
theorem loop_gen {α R A V:Type} {l:List α} (S:A→Int→V) {B:(V→Option R)→V→Option R} {F:A→List α→R} (Inv:Nat→A→Prop) (hlen:l.length≤4611686018427387904)
  (hend:∀ rec a,Inv l.length a→B rec (S a (l.length:Int))=some (F a []))
  (hstep:∀ (rec:V→Option R) (a:A) (i:Nat) (x:α) (r:List α),Inv i a→l.drop i=x :: r→l[i]?=some x→i < l.length→wi ((i:Int)+1)=((i+1:Nat):Int)→(∀ a,Inv (i+1) a→rec (S a ((i+1:Nat):Int))=some (F a r))→B rec (S a (i:Int))=some (F a (x :: r))) :
  ∀ {n:Nat} (i:Nat) (a:A),Inv i a→i≤l.length→l.length - i < n→loopN B n (S a (i:Int))=some (F a (l.drop i))
 | 0,_,_,_,_,h=>absurd h (Nat.not_lt_zero _)
 | n+1,i,a,ha,hi,h=>by
  unfold loopN
  by_cases he:i=l.length
  ·subst he; rw [hend _ _ ha]; simp
  ·have hlt:i < l.length:=by omega
   have hd:l.drop i=l[i] :: l.drop (i+1):=by rw [List.drop_eq_getElem_cons hlt]
   rw [hd]
   exact hstep _ a i _ _ ha hd (by simp [hlt]) hlt (by rw [wi_id] <;> omega) (fun a ha=>loop_gen S Inv hlen hend hstep (i+1) a ha (by omega) (by omega))
end Go.Proofs
namespace Go.Proofs
open Go Go.Abs
set_option maxRecDepth 100000
set_option linter.unusedVariables false
theorem loop_does {α R A V:Type} {l:List α} (S:A→Int→V) {B:(V→Option R)→V→Option R} {Q:A→List α→R→Prop} (Inv:Nat→A→Prop) (hlen:l.length≤4611686018427387904)
  (hend:∀ rec a,Inv l.length a→Does (B rec (S a (l.length:Int))) (Q a []))
  (hstep:∀ (rec:V→Option R) (a:A) (i:Nat) (x:α) (r:List α),Inv i a→l.drop i=x :: r→l[i]?=some x→i < l.length→wi ((i:Int)+1)=((i+1:Nat):Int)→(∀ a,Inv (i+1) a→Does (rec (S a ((i+1:Nat):Int))) (Q a r))→Does (B rec (S a (i:Int))) (Q a (x :: r))) :
  ∀ {n:Nat} (i:Nat) (a:A),Inv i a→i≤l.length→l.length - i < n→Does (loopN B n (S a (i:Int))) (Q a (l.drop i))
 | 0,_,_,_,_,h=>absurd h (Nat.not_lt_zero _)
 | n+1,i,a,ha,hi,h=>by
  unfold loopN
  by_cases he:i=l.length
  ·subst he; simpa using hend _ _ ha
  ·have hlt:i < l.length:=by omega
   have hd:l.drop i=l[i] :: l.drop (i+1):=by rw [List.drop_eq_getElem_cons hlt]
   rw [hd]
   exact hstep _ a i _ _ ha hd (by simp [hlt]) hlt (by rw [wi_id] <;> omega) (fun a ha=>loop_does S Inv hlen hend hstep (i+1) a ha (by omega) (by omega))
end Go.Proofs
namespace Go.Proofs
open Go Go.Abs
set_option maxRecDepth 100000
set_option linter.unusedVariables false
def ks:List Nat:=[56,48,40,32,24,16,8,0]
end Go.Proofs
namespace Go.Proofs
open Go Go.Abs
set_option maxRecDepth 100000
set_option linter.unusedVariables false
def keyL:List (List UInt8):=((g_ref02_Kinds 0).getD [])++(((g_ref02_Attrs 0).getD [])++(((g_ref02_Articles 0).getD [])++((g_ref02_Words 0).getD [])))
theorem cse (b c:Bool):(bif b then b else c)=(b||c):=by cases b <;> rfl
theorem cst (b c:Bool):(bif b then true else c)=(b||c):=by cases b <;> rfl
def keyA:List (List UInt8):=[[102,101,101,100,101,114],[99,97,98,108,101],[111,119,110,101,114],[99,111,110,116,114,97,99,116],[99,104,97,114,103,101,114],[98,97,121],[116,97,114,105,102,102],[108,105,109,105,116],[110,101,117,116,114,97,108],[102,117,115,101],[116,104,101,114,109,97,108],[102,114,111,109],[97,116],[112,104,97,115,101,115],[97,109,112,115],[102,97,108,108,98,97,99,107],[99,97,114,100],[114,97,110,107],[115,116,97,114,116],[101,110,101,114,103,121],[116,105,109,101],[105,100,108,101],[99,97,112],[116,97,120],[111,110],[119,111,114,107],[115,97,116,117,114,100,97,121],[115,117,110,100,97,121],[98,101,116,119,101,101,110],[112,101,114],[102,114,101,101]]
theorem keyB_any (s:List UInt8):keyB s=keyA.contains s:=by
 unfold keyB g_a_isKey keyA
 simp only [cond_some,obs,Option.getD_some,cse,cst,eqS,List.contains_cons,List.contains_nil,Bool.or_assoc,Bool.or_false]
theorem keyB_mem (s:List UInt8):keyB s=keyL.contains s:=by
 rw [keyB_any,Bool.eq_iff_iff,List.contains_iff_mem,List.contains_iff_mem]
 have h1:∀ x ∈ keyA,x ∈ keyL:=by decide
 have h2:∀ x ∈ keyL,x ∈ keyA:=by decide
 exact ⟨h1 s,h2 s⟩
end Go.Proofs
namespace Go.Proofs
open Go Go.Abs
set_option maxRecDepth 100000
set_option linter.unusedVariables false
theorem cnz (b:Bool) (k r:Int) (hk:k ≠ 0):(!eqI (bif b then k else r) 0)=(b||!eqI r 0):=by
 cases b
 ·rfl
 ·simp [eqI,hk]
theorem b_isKey (n:Nat) (s:List UInt8):g_p_isKey n s=some (keyB s):=by
 unfold g_p_isKey g_p_kindOf g_p_isAttr g_p_isArticle g_p_isWord
 rw [keyB_mem]
 simp only [cond_some,obs,cse,cst,keyL,g_ref02_Kinds,g_ref02_Attrs,g_ref02_Articles,g_ref02_Words,Option.getD_some,List.cons_append,List.nil_append,List.contains_cons,List.contains_nil,Bool.or_false,eqS]
 rw [cnz _ 1 _ (by decide),cnz _ 2 _ (by decide),cnz _ 3 _ (by decide),cnz _ 4 _ (by decide),cnz _ 5 _ (by decide),cnz _ 6 _ (by decide),cnz _ 7 _ (by decide),show (!eqI 0 0)=false from rfl]
 simp only [Bool.or_assoc,Bool.or_false]
theorem of_cs' (k:Int) (s:List UInt8) (m t:Int) (l:List (List PV)):GNode.of (GNode.cs ⟨k,s,m,t,l⟩)=some ⟨k,s,m,t,l⟩:=by
 unfold GNode.cs GNode.of
 simp only [map_idc,byt_mkS,if_true]
end Go.Proofs
namespace Go.Proofs
open Go Go.Abs
set_option maxRecDepth 100000
set_option linter.unusedVariables false
def isG (c:UInt8):Bool:=decide (b2i c=32∨b2i c=9∨b2i c=10)
def isL (c:UInt8):Bool:=decide (97≤b2i c∧b2i c≤122)
def isD (c:UInt8):Bool:=decide (48≤b2i c∧b2i c≤57)
def isN (c:UInt8):Bool:=isL c||isD c||decide (b2i c=95)
def isP (c:UInt8):Bool:=decide (b2i c=59∨b2i c=123∨b2i c=125)
theorem l_gap (n:Nat) (c:UInt8):g_x_isGap n (b2i c)=some (isG c):=by
 unfold g_x_isGap isG
 simp only [eqI_d,cond_some,sie]
 by_cases h1:b2i c=32 <;> by_cases h2:b2i c=9 <;> by_cases h3:b2i c=10 <;> simp [h1,h2,h3]
theorem l_lower (n:Nat) (c:UInt8):g_x_isLower n (b2i c)=some (isL c):=by
 unfold g_x_isLower isL
 simp only [leI,cond_some,sie]
 by_cases h1:97≤b2i c <;> simp [h1]
theorem l_digit (n:Nat) (c:UInt8):g_x_isDigit n (b2i c)=some (isD c):=by
 unfold g_x_isDigit isD
 simp only [leI,cond_some,sie]
 by_cases h1:48≤b2i c <;> simp [h1]
theorem l_punct (n:Nat) (c:UInt8):g_x_isPunct n (b2i c)=some (isP c):=by
 unfold g_x_isPunct isP
 simp only [eqI_d,cond_some,sie]
 by_cases h1:b2i c=59 <;> by_cases h2:b2i c=123 <;> by_cases h3:b2i c=125 <;> simp [h1,h2,h3]
theorem l_name (n:Nat) (c:UInt8):g_x_isNamePart n (b2i c)=some (isN c):=by
 unfold g_x_isNamePart isN
 rw [l_lower,l_digit]
 simp only [obs,eqI_d,cond_some,sie]
 cases isL c <;> cases isD c <;> simp
theorem l_line (n:Nat) (c:UInt8):g_x_Lex_1 n (b2i c)=some (!decide (b2i c=10)):=by
 unfold g_x_Lex_1
 rw [eqI_d]
def kdF (c:UInt8):Int:=if isG c then 1 else if b2i c=35 then 2 else if isL c then 3 else if isD c then 4 else if isP c then 5 else 0
theorem l_kind (n:Nat) (c:UInt8):g_x_kindOf n (b2i c)=some (kdF c):=by
 unfold g_x_kindOf kdF
 rw [l_gap,l_lower,l_digit,l_punct]
 simp only [obs,eqI_d,cond_some,sie]
 cases isG c <;> by_cases h:b2i c=35 <;> cases isL c <;> cases isD c <;> cases isP c <;> simp [h]
theorem span_gen {s:List UInt8} {p:UInt8→Bool} {B:(Int→Option Int)→Int→Option Int} (hs:s.length≤4611686018427387904)
  (hB:∀ rec (i:Nat),B rec (i:Int)=(cond (ltI (i:Int) (lenI s)) ((getI s (i:Int)).bind fun x=>some (p x)) (some false)).bind fun j=>cond j (rec (wi ((i:Int)+1))) (some (i:Int))) {n:Nat} (i:Nat) (hi:i≤s.length) (hn:s.length - i < n) :
  loopN B n (i:Int)=some ((i+((s.drop i).takeWhile p).length:Nat):Int):=by
 have:=loop_list (l:=s) (B:=B) (F:=fun r=>((s.length - r.length+(r.takeWhile p).length:Nat):Int)) hs ?_ ?_ (n:=n) i hi hn
 ·rw [this,List.length_drop]
  congr 3
  omega
 ·intro rec
  rw [hB]
  simp [ltI,lenI]
 ·intro rec i x r hd hx hi hw hr
  have hl:r.length=s.length - (i+1):=by
   have:=congrArg List.length hd
   simp only [List.length_drop,List.length_cons] at this
   omega
  rw [hB,getI_nat,hx,hw,hr]
  simp only [ltI,lenI,obs,List.length_cons]
  rw [dzT (by omega),cond_true,obs,hl]
  cases hp:p x
  ·simp only [cond_false,List.takeWhile_cons,hp,Bool.false_eq_true,if_false,List.length_nil,sie]
   omega
  ·simp only [cond_true,List.takeWhile_cons,hp,if_true,List.length_cons,sie]
   omega
section
variable {n:Nat} {s:List UInt8} {i:Nat}
theorem l_span1 (hs:s.length≤8100) (hi:i≤s.length) (hn:10000≤n):g_x_span n s (i:Int)=some ((i+((s.drop i).takeWhile isG).length:Nat):Int) :=
 span_gen (by omega) (fun rec i=>by unfold g_x_span_l1; simp only [l_gap,obs]) i hi (by omega)
theorem l_span2 (hs:s.length≤8100) (hi:i≤s.length) (hn:10000≤n):g_x_span_2 n s (i:Int)=some ((i+((s.drop i).takeWhile (fun c=>!decide (b2i c=10))).length:Nat):Int) :=
 span_gen (by omega) (fun rec i=>by unfold g_x_span_2_l1; simp only [l_line,obs]) i hi (by omega)
theorem l_span3 (hs:s.length≤8100) (hi:i≤s.length) (hn:10000≤n):g_x_span_3 n s (i:Int)=some ((i+((s.drop i).takeWhile isN).length:Nat):Int) :=
 span_gen (by omega) (fun rec i=>by unfold g_x_span_3_l1; simp only [l_name,obs]) i hi (by omega)
theorem l_span4 (hs:s.length≤8100) (hi:i≤s.length) (hn:10000≤n):g_x_span_4 n s (i:Int)=some ((i+((s.drop i).takeWhile isD).length:Nat):Int) :=
 span_gen (by omega) (fun rec i=>by unfold g_x_span_4_l1; simp only [l_digit,obs]) i hi (by omega)
end
def valL:Int→List UInt8→Option Int
 | a,[]=>some a
 | a,c :: r=>if 1000000 < 10 * a+(b2i c - 48) then none else valL (10 * a+(b2i c - 48)) r
theorem w8_digit {c:UInt8} (h:isD c=true):wi (w8 (b2i c - 48))=b2i c - 48∧0≤b2i c - 48∧b2i c - 48≤9:=by
 have h:=of_decide_eq_true h
 refine ⟨?_,by omega,by omega⟩
 simp only [w8,wi,IntKind.wrap,IntKind.signed,IntKind.bits]
 simp
 omega
def tkOf:List UInt8→Except Int (Int × List UInt8 × Int)
 | []=>.error 7
 | c :: r=>if isL c then (if 12 < (c :: r).length then .error 3 else .ok (1,c :: r,0))
  else if isD c then (if 1 < (c :: r).length∧b2i c=48 then .error 7 else match valL 0 (c :: r) with | some v=>.ok (2,[],v) | none=>.error 3)
  else if isP c then .ok (3,c :: r,0) else .error 7
def tkT:List UInt8→List UInt8
 | []=>[]
 | c :: r=>if isL c then (c :: r).takeWhile isN else if isD c then (c :: r).takeWhile isD else if isP c then [c] else []
theorem l_value (n:Nat) (t:List UInt8) (hn:10000≤n) (ht:t.length≤8100) (hd:t.all isD=true) (h0:t ≠ []) :
  g_x_value n t=some (if 1 < t.length∧(∀ c ∈ t.head?,b2i c=48) then ((0:Int),(7:Int)) else match valL 0 t with | some v=>(v,0) | none=>(0,3)):=by
 unfold g_x_value
 obtain ⟨c,r,rfl⟩:=List.exists_cons_of_ne_nil h0
 have hg:getI (c :: r) 0=some c:=rfl
 simp only [ltI,lenI,hg,obs,cond_some,eqI_d,List.head?_cons,Option.mem_def,sie,forall_eq']
 by_cases c1:1 < (c :: r).length∧b2i c=48
 ·rw [if_pos c1,dzT (by omega),dzT c1.2]; rfl
 rw [if_neg c1]
 have hb:(bif decide (1 < ((c :: r).length:Int)) then decide (b2i c=48) else false)=false:=by
  by_cases a:1 < (c :: r).length
  ·have b:¬ b2i c=48:=fun h=>c1 ⟨a,h⟩
   rw [dzF b]; simp
  ·rw [dzF (by omega)]; rfl
 rw [hb,cond_false]
 have key:∀ (a:Int) (i:Nat),0≤a→a≤1000000→i≤(c :: r).length→∀ m,(c :: r).length - i < m→loopN (fun recl4 (v:Int × Int)=>g_x_value_l4 (c :: r) recl4 v.1 v.2) m (a,(i:Int))=some (match valL a ((c :: r).drop i) with | some v=>(v,(0:Int)) | none=>((0:Int),(3:Int))):=by
  intro a i
  generalize hk:(c :: r).length - i=k
  induction k generalizing a i with
  | zero =>
   intro h1 h2 h3 m hm
   obtain ⟨m,rfl⟩:∃ m',m=m'+1:=⟨m - 1,by omega⟩
   unfold loopN
   simp only [g_x_value_l4,ltI,lenI]
   rw [dzF (by omega),cond_false,List.drop_eq_nil_of_le (by omega)]
   rfl
  | succ k ih =>
   intro h1 h2 h3 m hm
   obtain ⟨m,rfl⟩:∃ m',m=m'+1:=⟨m - 1,by omega⟩
   have hlt:i < (c :: r).length:=by omega
   have hdr:=List.drop_eq_getElem_cons hlt
   have hx:(c :: r)[i]?=some (c :: r)[i]:=List.getElem?_eq_getElem hlt
   have hxd:isD (c :: r)[i]=true:=List.all_eq_true.1 hd _ (List.getElem_mem hlt)
   generalize (c :: r)[i]=x at hdr hx hxd
   obtain ⟨w1,w2,w3⟩:=w8_digit hxd
   have e1:wi (10 * a)=10 * a:=wi_id (by omega) (by omega)
   have e2:wi (10 * a+(b2i x - 48))=10 * a+(b2i x - 48):=wi_id (by omega) (by omega)
   have ih':=fun (h:10 * a+(b2i x - 48)≤1000000)=>ih (10 * a+(b2i x - 48)) (i+1) (by omega) (by omega) h (by omega) m (by omega)
   unfold loopN
   generalize loopN (fun recl4 (v:Int × Int)=>g_x_value_l4 (c :: r) recl4 v.1 v.2) m=L at ih' ⊢
   show g_x_value_l4 (c :: r) L a (i:Int)=_
   unfold g_x_value_l4
   simp only [ltI,lenI]
   rw [dzT (by omega),cond_true,getI_nat,hx,obs,w1,e1,e2,hdr,wi_id (x:=(i:Int)+1) (by omega) (by omega)]
   unfold valL
   by_cases c2:1000000 < 10 * a+(b2i x - 48)
   ·rw [dzT c2,cond_true,if_pos c2]
   ·rw [dzF c2,cond_false,if_neg c2]
    exact ih' (by omega)
 exact key 0 0 (by omega) (by omega) (by omega) n (by omega)
theorem take_drop_while (s:List UInt8) (i:Nat) (p:UInt8→Bool) (hi:i≤s.length):List.drop i (List.take (i+((s.drop i).takeWhile p).length) s)=(s.drop i).takeWhile p:=by
 have h1:List.drop i (List.take (i+((s.drop i).takeWhile p).length) s)=(s.drop i).take ((s.drop i).takeWhile p).length:=by
  rw [List.drop_take]
  congr 1
  omega
 rw [h1]
 generalize s.drop i=l
 induction l with
 | nil=>rfl
 | cons c l ih =>
  by_cases h:p c=true
  ·simp [h,ih]
  ·simp [h]
theorem while_len (l:List UInt8) (p:UInt8→Bool):(l.takeWhile p).length≤l.length:=(List.takeWhile_prefix p).length_le
theorem all_while (l:List UInt8) (p:UInt8→Bool):(l.takeWhile p).all p=true:=by
 induction l with
 | nil=>rfl
 | cons c l ih =>
  by_cases h:p c=true
  ·simp [h,ih]
  ·simp [h]
theorem l_token (n:Nat) (s:List UInt8) (i:Nat) (c:UInt8) (r:List UInt8) (hs:s.length≤8100) (hn:10000≤n) (hd:s.drop i=c :: r) (hg:isG c=false) (hc:¬ b2i c=35) :
  ∃ x:GTk × Int × Int,g_x_token n s (i:Int) (kdF c)=some x∧match tkOf (tkT (c :: r)) with | .ok (k,t,v)=>x=(⟨k,t,v,i⟩,((i+(tkT (c :: r)).length:Nat):Int),0) | .error e=>x.2.2=e∧e ≠ 0:=by
 have hi:i < s.length:=by
  have:=congrArg List.length hd
  simp only [List.length_drop,List.length_cons] at this
  omega
 have h3:=l_span3 (n:=n) (s:=s) (i:=i) hs (by omega) hn
 have h4:=l_span4 (n:=n) (s:=s) (i:=i) hs (by omega) hn
 have t3:=take_drop_while s i isN (by omega)
 have t4:=take_drop_while s i isD (by omega)
 have hr:(c :: r).length=s.length - i:=by rw [← hd]; simp
 have len3:=while_len (c :: r) isN
 have len4:=while_len (c :: r) isD
 rw [hd] at h3 h4 t3 t4
 unfold g_x_token kdF
 rw [hg]
 simp only [eqI_d,Bool.false_eq_true,if_false,if_neg hc,h3,h4,obs,Int.toNat_natCast,t3,t4]
 cases c1:isL c
 ·cases c2:isD c
  ·cases c3:isP c
   ·refine ⟨_,rfl,?_⟩
    simp [tkT,c1,c2,c3,tkOf]
   ·simp only [Bool.false_eq_true,if_false,if_true]
    rw [wi_id (x:=(i:Int)+1) (by omega) (by omega)]
    have hsl:sliceB (i:Int) ((i:Int)+1) s.length=true:=by simp only [sliceB]; rw [dzT]; omega
    rw [hsl]
    refine ⟨_,rfl,?_⟩
    have ht:List.drop i (List.take (i+1) s)=[c]:=by
     rw [List.drop_take,hd,show i+1 - i=1 from by omega]
     rfl
    simp [tkT,c1,c2,c3,tkOf,ht]
  ·have hall:=all_while (c :: r) isD
   have hne:(c :: r).takeWhile isD ≠ []:=by simp [c2]
   have hhead:((c :: r).takeWhile isD).head?=some c:=by simp [c2]
   have hsl:sliceB (i:Int) ((i+((c :: r).takeWhile isD).length:Nat):Int) s.length=true:=by simp only [sliceB]; rw [dzT]; omega
   rw [l_value n _ hn (by omega) hall hne,hsl]
   simp only [Bool.false_eq_true,if_false,if_true,hhead,Option.mem_def,sie,forall_eq']
   have htk:tkT (c :: r)=(c :: r).takeWhile isD:=by simp [tkT,c1,c2]
   have hof:tkOf ((c :: r).takeWhile isD)=if 1 < ((c :: r).takeWhile isD).length∧b2i c=48 then .error 7 else match valL 0 ((c :: r).takeWhile isD) with | some v=>.ok (2,[],v) | none=>.error 3:=by
    have:(c :: r).takeWhile isD=c :: r.takeWhile isD:=by simp [c2]
    rw [this]
    simp [tkOf,c1,c2]
   rw [htk,hof]
   by_cases c4:1 < ((c :: r).takeWhile isD).length∧b2i c=48
   ·rw [if_pos c4,if_pos c4]
    exact ⟨_,rfl,rfl,by decide⟩
   ·rw [if_neg c4,if_neg c4]
    cases hv:valL 0 ((c :: r).takeWhile isD) with
    | none=>exact ⟨_,rfl,rfl,by decide⟩
    | some v=>exact ⟨_,rfl,rfl⟩
 ·have htk:tkT (c :: r)=(c :: r).takeWhile isN:=by simp [tkT,c1]
  have hof:tkOf ((c :: r).takeWhile isN)=if 12 < ((c :: r).takeWhile isN).length then .error 3 else .ok (1,(c :: r).takeWhile isN,0):=by
   have:(c :: r).takeWhile isN=c :: r.takeWhile isN:=by simp [isN,c1]
   rw [this]
   simp [tkOf,c1]
  have hsl:sliceB (i:Int) ((i+((c :: r).takeWhile isN).length:Nat):Int) s.length=true:=by simp only [sliceB]; rw [dzT]; omega
  rw [htk,hof,hsl,wi_id (x:=((i+((c :: r).takeWhile isN).length:Nat):Int) - i) (by omega) (by omega)]
  simp only [if_true,ltI]
  by_cases c4:12 < ((c :: r).takeWhile isN).length
  ·rw [if_pos c4,dzT (show (12:Int) < ((i+((c :: r).takeWhile isN).length:Nat):Int) - i by omega)]
   exact ⟨_,rfl,rfl,by decide⟩
  ·rw [if_neg c4,dzF (show ¬ (12:Int) < ((i+((c :: r).takeWhile isN).length:Nat):Int) - i by omega)]
   exact ⟨_,rfl,rfl⟩
end Go.Proofs
namespace Go.Proofs
open Go Go.Abs
set_option maxRecDepth 100000
set_option linter.unusedVariables false
def gapN:Bool→List UInt8→Nat
 | _,[]=>0
 | true,c :: r=>if b2i c=10 then 1+gapN false r else 1+gapN true r
 | false,c :: r=>if b2i c=35 then 1+gapN true r else if isG c then 1+gapN false r else 0
def lexF:Nat→Nat→List UInt8→Nat→Except (Int × Nat) (List GTk)
 | 0,p,_,_=>.error (0,p)
 | f+1,p,s,k=>match s.drop (gapN false s) with
  | []=>.ok []
  | c :: r=>if k=2000 then .error (2,p+gapN false s) else match tkOf (tkT (c :: r)) with
   | .error e=>.error (e,p+gapN false s)
   | .ok (kk,x,v)=>match lexF f (p+gapN false s+(tkT (c :: r)).length) ((c :: r).drop (tkT (c :: r)).length) (k+1) with
    | .ok l=>.ok (⟨kk,x,v,(p+gapN false s:Nat)⟩ :: l)
    | .error e=>.error e
def resL (acc:List GTk):Except (Int × Nat) (List GTk)→List GTk × Int × Int
 | .ok l=>(acc++l,0,0)
 | .error (e,p)=>([],e,p)
theorem gap_le:∀ (l:List UInt8) (b:Bool),gapN b l≤l.length
 | [],b=>by cases b <;> simp [gapN]
 | c :: r,true=>by
  have h1:=gap_le r false
  have h2:=gap_le r true
  unfold gapN
  simp only [List.length_cons]
  split <;> omega
 | c :: r,false=>by
  have h1:=gap_le r false
  have h2:=gap_le r true
  unfold gapN
  simp only [List.length_cons]
  split
  ·omega
  ·split <;> omega
theorem tkT_le (s:List UInt8):(tkT s).length≤s.length:=by
 cases s with
 | nil=>simp [tkT]
 | cons c r =>
  show (if isL c=true then (c :: r).takeWhile isN else if isD c=true then (c :: r).takeWhile isD else if isP c=true then [c] else []).length≤_
  split
  ·exact while_len _ _
  ·split
   ·exact while_len _ _
   ·split
    ·simp
    ·simp
theorem tkT_pos {s:List UInt8} {k v:Int} {x:List UInt8} (h:tkOf (tkT s)=.ok (k,x,v)):0 < (tkT s).length:=by
 cases ht:tkT s with
 | nil=>rw [ht] at h; cases h
 | cons c r=>simp
theorem lex_gap (f p k:Nat) (g r:List UInt8) (h:gapN false (g++r)=g.length+gapN false r):lexF (f+1) p (g++r) k=lexF (f+1) (p+g.length) r k:=by
 have hd:(g++r).drop (gapN false (g++r))=r.drop (gapN false r):=by
  rw [h,← List.drop_drop,List.drop_left]
 unfold lexF
 rw [hd,h,show p+(g.length+gapN false r)=p+g.length+gapN false r from by omega]
theorem gap_plain (g r:List UInt8) (h:g.all isG=true):gapN false (g++r)=g.length+gapN false r:=by
 induction g with
 | nil=>simp
 | cons c g ih =>
  simp only [List.all_cons,bae] at h
  have hc:=of_decide_eq_true (show decide (b2i c=32∨b2i c=9∨b2i c=10)=true from h.1)
  simp only [List.cons_append,gapN,List.length_cons]
  rw [if_neg (by omega),if_pos h.1,ih h.2]
  omega
theorem gap_line (g r:List UInt8) (h:g.all (fun c=>!decide (b2i c=10))=true) (hr:∀ c ∈ r.head?,b2i c=10):gapN true (g++r)=g.length+gapN false r:=by
 induction g with
 | nil =>
  cases r with
  | nil=>simp [gapN]
  | cons c r =>
   have hc:b2i c=10:=hr c rfl
   simp only [List.nil_append,gapN,List.length_nil,Nat.zero_add]
   rw [if_pos hc,if_neg (by omega),if_pos (by simp [isG,hc])]
 | cons c g ih =>
  simp only [List.all_cons,bae,Bool.not_eq_true',decide_eq_false_iff_not] at h
  simp only [List.cons_append,gapN,List.length_cons]
  rw [if_neg h.1,ih (by simpa using h.2)]
  omega
theorem while_split (l:List UInt8) (p:UInt8→Bool):l=l.takeWhile p++l.dropWhile p:=(List.takeWhile_append_dropWhile).symm
theorem drop_while_head (l:List UInt8) (p:UInt8→Bool):∀ c ∈ (l.dropWhile p).head?,p c=false:=by
 induction l with
 | nil=>intro c h; cases h
 | cons a l ih =>
  intro c h
  by_cases ha:p a=true
  ·rw [List.dropWhile_cons,if_pos ha] at h
   exact ih c h
  ·rw [List.dropWhile_cons,if_neg ha] at h
   simp at h
   subst h
   simpa using ha
theorem drop_while_drop (s:List UInt8) (i:Nat) (p:UInt8→Bool):s.drop (i+((s.drop i).takeWhile p).length)=(s.drop i).dropWhile p:=by
 rw [← List.drop_drop]
 generalize s.drop i=l
 induction l with
 | nil=>rfl
 | cons c l ih =>
  by_cases h:p c=true
  ·simp [h,ih]
  ·simp [h]
theorem lex_fuel:∀ (f f' p k:Nat) (s:List UInt8),s.length < f→s.length < f'→lexF f p s k=lexF f' p s k
 | 0,_,_,_,_,h,_=>absurd h (Nat.not_lt_zero _)
 | _,0,_,_,_,_,h=>absurd h (Nat.not_lt_zero _)
 | f+1,f'+1,p,k,s,h,h'=>by
  unfold lexF
  cases hd:s.drop (gapN false s) with
  | nil=>rfl
  | cons c r =>
   simp only
   cases ht:tkOf (tkT (c :: r)) with
   | error e=>rfl
   | ok x =>
    obtain ⟨kk,x,v⟩:=x
    have hp:=tkT_pos ht
    have hl:(c :: r).length≤s.length:=by rw [← hd]; simp
    have hl2:((c :: r).drop (tkT (c :: r)).length).length < s.length:=by
     rw [List.length_drop]
     have:=tkT_le (c :: r)
     omega
    simp only
    rw [lex_fuel f f' _ _ _ (by omega) (by omega)]
theorem l_loop (n:Nat) (s:List UInt8) (hs:s.length≤8100) (hn:10000≤n):∀ (m j i:Nat) (acc:List GTk),s.length - i≤m→m < j→i≤s.length→acc.length≤2000 →
  loopN (fun recl1 (v:List GTk × Int)=>g_x_Lex_l1 n s recl1 v.1 v.2) j (acc,(i:Int))=some (resL acc (lexF (s.length+1) i (s.drop i) acc.length)):=by
 intro m
 induction m with
 | zero =>
  intro j i acc h1 h2 h3 h4
  obtain ⟨j,rfl⟩:∃ j',j=j'+1:=⟨j - 1,by omega⟩
  unfold loopN
  show g_x_Lex_l1 n s _ acc (i:Int)=_
  unfold g_x_Lex_l1
  simp only [ltI,lenI]
  rw [dzF (by omega),cond_false,List.drop_eq_nil_of_le (by omega)]
  simp [lexF,gapN,resL]
 | succ m ih =>
  intro j i acc h1 h2 h3 h4
  obtain ⟨j,rfl⟩:∃ j',j=j'+1:=⟨j - 1,by omega⟩
  have ih':=fun i acc a b c=>ih j i acc a (by omega) b c
  unfold loopN
  generalize loopN (fun recl1 (v:List GTk × Int)=>g_x_Lex_l1 n s recl1 v.1 v.2) j=L at ih' ⊢
  show g_x_Lex_l1 n s L acc (i:Int)=_
  unfold g_x_Lex_l1
  simp only [ltI,lenI]
  by_cases hi:i=s.length
  ·rw [dzF (by omega),cond_false,List.drop_eq_nil_of_le (by omega)]
   simp [lexF,gapN,resL]
  rw [dzT (by omega),cond_true]
  have hdr:=List.drop_eq_getElem_cons (show i < s.length by omega)
  have hx:s[i]?=some s[i]:=List.getElem?_eq_getElem (by omega)
  generalize hc:s[i]=c at hdr hx
  generalize hr:s.drop (i+1)=r at hdr
  rw [getI_nat,hx,obs,l_kind,obs,eqI_d,eqI_d]
  by_cases k1:isG c=true
  ·have hk:kdF c=1:=by unfold kdF; rw [if_pos k1]
   rw [hk,dzT rfl,cond_true,l_span1 hs h3 hn,obs]
   have hpos:0 < ((s.drop i).takeWhile isG).length:=by rw [hdr]; simp [k1]
   have hle:=while_len (s.drop i) isG
   rw [List.length_drop] at hle
   rw [ih' _ acc (by omega) (by omega) h4,drop_while_drop]
   congr 2
   have hsp:=while_split (s.drop i) isG
   rw [hsp]
   rw [← hsp]
   have:=lex_gap s.length i acc.length ((s.drop i).takeWhile isG) ((s.drop i).dropWhile isG) (gap_plain _ _ (all_while _ _))
   rw [← hsp] at this
   exact this.symm
  have hk1:kdF c ≠ 1:=by
   unfold kdF
   rw [if_neg k1]
   split
   ·decide
   ·split
    ·decide
    ·split
     ·decide
     ·split <;> decide
  rw [dzF hk1,cond_false]
  by_cases k2:b2i c=35
  ·have hk:kdF c=2:=by unfold kdF; rw [if_neg k1,if_pos k2]
   rw [hk,dzT rfl,cond_true,l_span2 hs h3 hn,obs]
   have hc10:(!decide (b2i c=10))=true:=by rw [k2]; rfl
   have hpos:0 < ((s.drop i).takeWhile (fun c=>!decide (b2i c=10))).length:=by rw [hdr,List.takeWhile_cons,if_pos hc10]; simp
   have hle:=while_len (s.drop i) (fun c=>!decide (b2i c=10))
   rw [List.length_drop] at hle
   rw [ih' _ acc (by omega) (by omega) h4,drop_while_drop]
   congr 2
   have hsp:=while_split (s.drop i) (fun c=>!decide (b2i c=10))
   have hg:gapN false ((s.drop i).takeWhile (fun c=>!decide (b2i c=10))++(s.drop i).dropWhile (fun c=>!decide (b2i c=10)))=((s.drop i).takeWhile (fun c=>!decide (b2i c=10))).length+gapN false ((s.drop i).dropWhile (fun c=>!decide (b2i c=10))):=by
    have hhd:=drop_while_head (s.drop i) (fun c=>!decide (b2i c=10))
    have hal:=all_while (s.drop i) (fun c=>!decide (b2i c=10))
    generalize (s.drop i).dropWhile (fun c=>!decide (b2i c=10))=q at hhd ⊢
    rw [hdr,List.takeWhile_cons,if_pos hc10] at hal ⊢
    simp only [List.all_cons,bae] at hal
    have:=gap_line _ q hal.2 (fun c hc=>by simpa using hhd c hc)
    simp only [List.cons_append,gapN,List.length_cons]
    rw [if_pos k2,this]
    omega
   have:=lex_gap s.length i acc.length _ _ hg
   rw [← hsp] at this
   exact this.symm
  have hk2:kdF c ≠ 2:=by
   unfold kdF
   rw [if_neg k1,if_neg k2]
   split
   ·decide
   ·split
    ·decide
    ·split <;> decide
  rw [dzF hk2,cond_false,eqI_d,List.length_map]
  have hg0:gapN false (c :: r)=0:=by unfold gapN; rw [if_neg k2,if_neg k1]
  have hlx:∀ f,lexF (f+1) i (c :: r) acc.length=if acc.length=2000 then .error (2,i) else match tkOf (tkT (c :: r)) with
   | .error e=>.error (e,i)
   | .ok (kk,x,v)=>match lexF f (i+(tkT (c :: r)).length) ((c :: r).drop (tkT (c :: r)).length) (acc.length+1) with
    | .ok l=>.ok (⟨kk,x,v,(i:Nat)⟩ :: l)
    | .error e=>.error e:=by
   intro f
   conv=>lhs; unfold lexF
   rw [hg0]
   rfl
  rw [hdr,hlx]
  by_cases k3:acc.length=2000
  ·rw [dzT (by omega),cond_true,if_pos k3]
   rfl
  rw [dzF (by omega),cond_false,if_neg k3]
  obtain ⟨x,e1,e2⟩:=l_token n s i c r hs hn hdr (by simpa using k1) k2
  rw [e1,obs,eqI_d]
  cases ht:tkOf (tkT (c :: r)) with
  | error e =>
   rw [ht] at e2
   simp only at e2
   rw [dzF (show ¬ x.2.2=0 from by rw [e2.1]; exact e2.2),Bool.not_false,cond_true,e2.1]
   rfl
  | ok y =>
   obtain ⟨kk,t,v⟩:=y
   rw [ht] at e2
   simp only at e2
   subst e2
   have hp:=tkT_pos ht
   have hle:=tkT_le (c :: r)
   have hlen:(c :: r).length=s.length - i:=by rw [← hdr]; simp
   rw [dzT rfl,Bool.not_true,cond_false]
   have hroom:roomB (List.length (acc++[(⟨kk,t,v,i⟩:GTk)])) 40=true:=by simp [roomB]; omega
   simp only [hroom,cond_true]
   rw [ih' _ _ (by omega) (by omega) (by simp; omega)]
   have hd2:s.drop (i+(tkT (c :: r)).length)=(c :: r).drop (tkT (c :: r)).length:=by rw [← List.drop_drop,hdr]
   rw [hd2,lex_fuel (s.length+1) s.length _ _ _ (by rw [List.length_drop]; omega) (by rw [List.length_drop]; omega)]
   simp only [List.length_append,List.length_cons,List.length_nil]
   cases lexF s.length (i+(tkT (c :: r)).length) ((c :: r).drop (tkT (c :: r)).length) (acc.length+(0+1)) with
   | error e=>rfl
   | ok l=>simp [resL]
def lexS (s:List UInt8):Except (Int × Nat) (List GTk):=if 8000 < s.length then .error (2,0) else lexF (s.length+1) 0 s 0
theorem l_Lex (n:Nat) (s:List UInt8) (hn:10000≤n):g_x_Lex n s=some (resL [] (lexS s)):=by
 unfold g_x_Lex lexS
 simp only [ltI,lenI]
 by_cases h:8000 < s.length
 ·rw [dzT (by omega),cond_true,if_pos h]; rfl
 ·rw [dzF (by omega),cond_false,if_neg h]
  exact l_loop n s (by omega) hn s.length n 0 [] (by omega) (by omega) (by omega) (by simp)
end Go.Proofs
namespace Go.Proofs
open Go Go.Abs
set_option maxRecDepth 100000
set_option linter.unusedVariables false
theorem rl_letter (n:Nat) (c:UInt8):g_ref01_Letter n (b2i c)=some (isL c):=by
 unfold g_ref01_Letter isL
 simp only [leI,cond_some,sie]
 by_cases h1:97≤b2i c <;> simp [h1]
theorem rl_digit (n:Nat) (c:UInt8):g_ref01_Digit n (b2i c)=some (isD c):=by
 unfold g_ref01_Digit isD
 simp only [leI,cond_some,sie]
 by_cases h1:48≤b2i c <;> simp [h1]
theorem rl_gap (n:Nat) (s:List UInt8) (hs:s.length≤8100):∀ (m j i:Nat) (b:Bool),s.length - i≤m→m < j→i≤s.length →
  loopN (fun recl1 (v:Int × Bool)=>g_ref01_Gap_l1 s recl1 v.1 v.2) j ((i:Int),b)=some ((i+gapN b (s.drop i):Nat):Int):=by
 intro m
 induction m with
 | zero =>
  intro j i b h1 h2 h3
  obtain ⟨j,rfl⟩:∃ j',j=j'+1:=⟨j - 1,by omega⟩
  unfold loopN
  show g_ref01_Gap_l1 s _ (i:Int) b=_
  unfold g_ref01_Gap_l1
  simp only [ltI,lenI]
  rw [dzF (by omega),cond_false,List.drop_eq_nil_of_le (by omega)]
  cases b <;> simp [gapN]
 | succ m ih =>
  intro j i b h1 h2 h3
  obtain ⟨j,rfl⟩:∃ j',j=j'+1:=⟨j - 1,by omega⟩
  by_cases hi:i=s.length
  ·exact ih (j+1) i b (by omega) (by omega) h3
  have ih':=fun b=>ih j (i+1) b (by omega) (by omega) (by omega)
  unfold loopN
  generalize loopN (fun recl1 (v:Int × Bool)=>g_ref01_Gap_l1 s recl1 v.1 v.2) j=L at ih' ⊢
  show g_ref01_Gap_l1 s L (i:Int) b=_
  unfold g_ref01_Gap_l1
  simp only [ltI,lenI,cond_some,obs]
  have hdr:=List.drop_eq_getElem_cons (show i < s.length by omega)
  have hx:s[i]?=some s[i]:=List.getElem?_eq_getElem (by omega)
  generalize hc:s[i]=c at hdr hx
  generalize hr:s.drop (i+1)=r at hdr ih'
  rw [dzT (by omega),cond_true,getI_nat,hx,obs,hdr,wi_id (x:=(i:Int)+1) (by omega) (by omega)]
  simp only [eqI_d]
  have ht:=ih' true
  have hf:=ih' false
  rw [show ((i+1:Nat):Int)=(i:Int)+1 from by omega] at ht hf
  cases b
  ·by_cases k1:b2i c=35
   ·simp only [gapN,if_pos k1]
    rw [dzT k1,dzF (show ¬ b2i c=10 by omega)]
    simp only [cond_true,cond_false,Bool.not_true]
    rw [ht]
    congr 1
    omega
   ·by_cases k2:b2i c=10
    ·have hg:isG c=true:=by simp [isG,k2]
     simp only [gapN,if_neg k1,if_pos hg]
     rw [dzF k1,dzT k2]
     simp only [cond_true,cond_false,Bool.not_true,Bool.not_false]
     have:(bif !decide (b2i c=32) then bif !decide (b2i c=9) then false else false else false)=false:=by
      cases decide (b2i c=32) <;> cases decide (b2i c=9) <;> rfl
     rw [this,cond_false,hf]
     congr 1
     omega
    ·rw [dzF k1,dzF k2]
     simp only [cond_true,cond_false,Bool.not_false]
     by_cases k3:isG c=true
     ·have hk:=of_decide_eq_true (show decide (b2i c=32∨b2i c=9∨b2i c=10)=true from k3)
      simp only [gapN,if_neg k1,if_pos k3]
      have:(bif !decide (b2i c=32) then bif !decide (b2i c=9) then true else false else false)=false:=by
       rcases hk with h | h | h
       ·simp [h]
       ·simp [h]
       ·exact absurd h k2
      rw [this,cond_false,hf]
      congr 1
      omega
     ·have hk:¬ (b2i c=32∨b2i c=9∨b2i c=10):=fun h=>k3 (dzT h)
      simp only [gapN,if_neg k1,if_neg k3]
      have:(bif !decide (b2i c=32) then bif !decide (b2i c=9) then true else false else false)=true:=by
       rw [dzF (fun h=>hk (Or.inl h)),dzF (fun h=>hk (Or.inr (Or.inl h)))]; rfl
      rw [this,cond_true]
      simp
  ·by_cases k2:b2i c=10
   ·simp only [gapN,if_pos k2]
    rw [dzT k2]
    have hb:(bif decide (b2i c=35) then true else true)=true:=by cases decide (b2i c=35) <;> rfl
    rw [hb]
    simp only [cond_true,Bool.not_true,Bool.not_false]
    have:(bif !decide (b2i c=32) then bif !decide (b2i c=9) then false else false else false)=false:=by
     cases decide (b2i c=32) <;> cases decide (b2i c=9) <;> rfl
    rw [this,cond_false,hf]
    congr 1
    omega
   ·simp only [gapN,if_neg k2]
    rw [dzF k2]
    have hb:(bif decide (b2i c=35) then true else true)=true:=by cases decide (b2i c=35) <;> rfl
    rw [hb]
    simp only [cond_false,Bool.not_true]
    rw [ht]
    congr 1
    omega
theorem rl_Gap (n:Nat) (s:List UInt8) (i:Nat) (hs:s.length≤8100) (hn:10000≤n) (hi:i≤s.length):g_ref01_Gap n s (i:Int)=some ((i+gapN false (s.drop i):Nat):Int) :=
 rl_gap n s hs s.length n i false (by omega) (by omega) hi
theorem rl_End (n:Nat) (s:List UInt8) (i:Nat) (c:UInt8) (r:List UInt8) (hs:s.length≤8100) (hn:10000≤n) (hd:s.drop i=c :: r):g_ref01_End n s (i:Int)=some ((i+(tkT (c :: r)).length:Nat):Int):=by
 have hi:i < s.length:=by
  have:=congrArg List.length hd
  simp only [List.length_drop,List.length_cons] at this
  omega
 have hx:s[i]?=some c:=by
  have:=congrArg List.head? hd
  rw [List.head?_drop] at this
  exact this
 unfold g_ref01_End
 simp only [leI,lenI]
 rw [dzF (by omega),cond_false,getI_nat,hx,obs,rl_letter,rl_digit,wi_id (x:=(i:Int)+1) (by omega) (by omega)]
 have hp:(cond (eqI (b2i c) 59) (some true) (cond (eqI (b2i c) 123) (some true) (some (eqI (b2i c) 125))))=some (isP c):=by
  unfold isP
  simp only [eqI_d,cond_some,sie]
  by_cases h1:b2i c=59 <;> by_cases h2:b2i c=123 <;> by_cases h3:b2i c=125 <;> simp [h1,h2,h3]
 rw [hp,obs,obs,obs]
 have hPL:isP c=true→isL c=false∧isD c=false:=by
  intro h
  have h:=of_decide_eq_true (show decide (b2i c=59∨b2i c=123∨b2i c=125)=true from h)
  refine ⟨dzF ?_,dzF ?_⟩ <;> omega
 cases hP:isP c
 ·rw [cond_false]
  cases hL:isL c
  ·rw [cond_false]
   cases hD:isD c
   ·rw [cond_false]
    simp [tkT,hL,hD,hP]
   ·rw [cond_true]
    have:=span_gen (s:=s) (p:=isD) (B:=fun recl17 l17=>g_ref01_End_l17 n s recl17 l17) (by omega) (fun rec i=>by unfold g_ref01_End_l17; simp only [rl_digit,obs]) (n:=n) i (by omega) (by omega)
    rw [this,hd]
    simp [tkT,hL,hD]
  ·rw [cond_true]
   have:=span_gen (s:=s) (p:=isN) (B:=fun recl6 l6=>g_ref01_End_l6 n s recl6 l6) (by omega) (fun rec i=>by
    unfold g_ref01_End_l6
    cases hq:getI s (i:Int) with
    | none=>rfl
    | some x =>
     simp only [rl_letter,rl_digit,obs,eqI_d,cond_some]
     unfold isN
     cases isL x <;> cases isD x <;> simp) (n:=n) i (by omega) (by omega)
   rw [this,hd]
   simp [tkT,hL]
 ·rw [cond_true]
  obtain ⟨h1,h2⟩:=hPL hP
  simp [tkT,h1,h2,hP]
theorem rl_Token (n:Nat) (c:UInt8) (r:List UInt8) (hs:(c :: r).length≤8100) (hn:10000≤n) (h0:tkT (c :: r) ≠ []) :
  ∃ x:GTk × Int,g_ref01_Token n (tkT (c :: r))=some x∧match tkOf (tkT (c :: r)) with | .ok (k,t,v)=>x=(⟨k,t,v,0⟩,0) | .error e=>x.2=e∧e ≠ 0:=by
 have hle:=tkT_le (c :: r)
 have htk:tkT (c :: r)=if isL c=true then (c :: r).takeWhile isN else if isD c=true then (c :: r).takeWhile isD else if isP c=true then [c] else []:=rfl
 obtain ⟨q,hq⟩:∃ q,tkT (c :: r)=c :: q:=by
  rw [htk] at h0 ⊢
  cases hL:isL c
  ·rw [hL] at h0
   cases hD:isD c
   ·rw [hD] at h0
    cases hP:isP c
    ·rw [hP] at h0; simp at h0
    ·exact ⟨[],rfl⟩
   ·exact ⟨r.takeWhile isD,by simp [hD]⟩
  ·exact ⟨r.takeWhile isN,by simp [isN,hL]⟩
 have hdig:isL c=false→isD c=true→(c :: q).all isD=true:=by
  intro h1 h2
  rw [← hq,htk,h1,h2]
  exact all_while _ _
 have hpun:isL c=false→isD c=false→isP c=true:=by
  intro h1 h2
  cases hP:isP c
  ·rw [htk,h1,h2,hP] at h0; simp at h0
  ·rfl
 rw [hq]
 rw [hq] at hle
 unfold g_ref01_Token
 have hg:getI (c :: q) 0=some c:=rfl
 rw [hg,obs,rl_letter,rl_digit,obs,obs]
 simp only [ltI,lenI]
 cases hL:isL c
 ·rw [cond_false]
  cases hD:isD c
  ·simp only [Bool.not_false,cond_true]
   have hP:=hpun hL hD
   exact ⟨_,rfl,by simp [tkOf,hL,hD,hP]⟩
  ·simp only [Bool.not_true,cond_false]
   have hall:=hdig hL hD
   have hof:tkOf (c :: q)=if 1 < (c :: q).length∧b2i c=48 then .error 7 else match valL 0 (c :: q) with | some v=>.ok (2,[],v) | none=>.error 3:=by
    simp [tkOf,hL,hD]
    all_goals rfl
   rw [hof]
   simp only [eqI_d,cond_some,obs]
   by_cases c1:1 < (c :: q).length∧b2i c=48
   ·rw [if_pos c1,dzT (show (1:Int) < ((c :: q).length:Int) by omega),dzT c1.2]
    exact ⟨_,rfl,rfl,by decide⟩
   rw [if_neg c1]
   have hb:(bif decide (1 < ((c :: q).length:Int)) then decide (b2i c=48) else false)=false:=by
    by_cases a:1 < (c :: q).length
    ·have b:¬ b2i c=48:=fun h=>c1 ⟨a,h⟩
     rw [dzF b]; simp
    ·rw [dzF (by omega)]; rfl
   rw [hb,cond_false]
   have key:∀ (k:Nat) (a:Int) (i:Nat),(c :: q).length - i=k→0≤a→a≤1000000→i≤(c :: q).length→∀ m,(c :: q).length - i < m→loopN (fun recl6 (v:Int × Int)=>g_ref01_Token_l6 (c :: q) recl6 v.1 v.2) m (a,(i:Int))=some (match valL a ((c :: q).drop i) with | some v=>((⟨2,[],v,0⟩:GTk),(0:Int)) | none=>((⟨0,[],0,0⟩:GTk),(3:Int))):=by
    intro k
    induction k with
    | zero =>
     intro a i hk h1 h2 h3 m hm
     obtain ⟨m,rfl⟩:∃ m',m=m'+1:=⟨m - 1,by omega⟩
     unfold loopN
     simp only [g_ref01_Token_l6,ltI,lenI]
     rw [dzF (by omega),cond_false,List.drop_eq_nil_of_le (by omega)]
     rfl
    | succ k ih =>
     intro a i hk h1 h2 h3 m hm
     obtain ⟨m,rfl⟩:∃ m',m=m'+1:=⟨m - 1,by omega⟩
     have hlt:i < (c :: q).length:=by omega
     have hdr:=List.drop_eq_getElem_cons hlt
     have hx:(c :: q)[i]?=some (c :: q)[i]:=List.getElem?_eq_getElem hlt
     have hxd:isD (c :: q)[i]=true:=List.all_eq_true.1 hall _ (List.getElem_mem hlt)
     generalize (c :: q)[i]=x at hdr hx hxd
     obtain ⟨w1,w2,w3⟩:=w8_digit hxd
     have e1:wi (10 * a)=10 * a:=wi_id (by omega) (by omega)
     have e2:wi (10 * a+(b2i x - 48))=10 * a+(b2i x - 48):=wi_id (by omega) (by omega)
     have ih':=fun (h:10 * a+(b2i x - 48)≤1000000)=>ih (10 * a+(b2i x - 48)) (i+1) (by omega) (by omega) h (by omega) m (by omega)
     unfold loopN
     generalize loopN (fun recl6 (v:Int × Int)=>g_ref01_Token_l6 (c :: q) recl6 v.1 v.2) m=L at ih' ⊢
     show g_ref01_Token_l6 (c :: q) L a (i:Int)=_
     unfold g_ref01_Token_l6
     simp only [ltI,lenI]
     rw [dzT (by omega),cond_true,getI_nat,hx,obs,w1,e1,e2,hdr,wi_id (x:=(i:Int)+1) (by omega) (by omega)]
     unfold valL
     by_cases c2:1000000 < 10 * a+(b2i x - 48)
     ·rw [dzT c2,cond_true,if_pos c2]
     ·rw [dzF c2,cond_false,if_neg c2]
      exact ih' (by omega)
   have:=key _ 0 0 rfl (by omega) (by omega) (by omega) n (by omega)
   refine ⟨_,this,?_⟩
   rw [List.drop_zero]
   cases valL 0 (c :: q) with
   | none=>exact ⟨rfl,by decide⟩
   | some v=>rfl
 ·rw [cond_true]
  have hof:tkOf (c :: q)=if 12 < (c :: q).length then .error 3 else .ok (1,c :: q,0):=by simp [tkOf,hL]
  rw [hof]
  by_cases c4:12 < (c :: q).length
  ·rw [if_pos c4,dzT (show (12:Int) < ((c :: q).length:Int) by omega)]
   exact ⟨_,rfl,rfl,by decide⟩
  ·rw [if_neg c4,dzF (show ¬ (12:Int) < ((c :: q).length:Int) by omega)]
   exact ⟨_,rfl,rfl⟩
theorem tkOf_nil:tkOf []=.error 7:=rfl
theorem lex_step (f p k:Nat) (s:List UInt8) (c:UInt8) (r:List UInt8) (hd:s.drop (gapN false s)=c :: r):lexF (f+1) p s k=if k=2000 then .error (2,p+gapN false s) else match tkOf (tkT (c :: r)) with
      | .error e=>.error (e,p+gapN false s)
      | .ok (kk,x,v)=>match lexF f (p+gapN false s+(tkT (c :: r)).length) ((c :: r).drop (tkT (c :: r)).length) (k+1) with
        | .ok l=>.ok (⟨kk,x,v,(p+gapN false s:Nat)⟩ :: l)
        | .error e=>.error e:=by
  conv=>lhs; unfold lexF
  rw [hd]
  all_goals rfl
theorem lex_end (f p k:Nat) (s:List UInt8) (hd:s.drop (gapN false s)=[]):lexF (f+1) p s k=.ok []:=by
 unfold lexF
 rw [hd]
theorem rl_loop (n:Nat) (s:List UInt8) (hs:s.length≤8100) (hn:10000≤n):∀ (m j i:Nat) (acc:List GTk),s.length - i≤m→m < j→i≤s.length→acc.length≤2000 →
  loopN (fun recl2 (v:List GTk × Int)=>g_ref01_Lex_l2 n s recl2 v.1 v.2) j (acc,((i+gapN false (s.drop i):Nat):Int))=some (resL acc (lexF (s.length+1) i (s.drop i) acc.length)):=by
 intro m
 induction m with
 | zero =>
  intro j i acc h1 h2 h3 h4
  obtain ⟨j,rfl⟩:∃ j',j=j'+1:=⟨j - 1,by omega⟩
  rw [List.drop_eq_nil_of_le (by omega)]
  unfold loopN
  show g_ref01_Lex_l2 n s _ acc ((i+gapN false []:Nat):Int)=_
  unfold g_ref01_Lex_l2
  have hlt:ltI ((i+gapN false []:Nat):Int) (lenI s)=false:=by
   simp only [ltI,lenI,gapN]
   exact dzF (by omega)
  rw [hlt,cond_false]
  simp [lexF,gapN,resL]
 | succ m ih =>
  intro j i acc h1 h2 h3 h4
  obtain ⟨j,rfl⟩:∃ j',j=j'+1:=⟨j - 1,by omega⟩
  have ih':=fun i acc a b c=>ih j i acc a (by omega) b c
  have hgl:=gap_le (s.drop i) false
  rw [List.length_drop] at hgl
  unfold loopN
  generalize loopN (fun recl2 (v:List GTk × Int)=>g_ref01_Lex_l2 n s recl2 v.1 v.2) j=L at ih' ⊢
  show g_ref01_Lex_l2 n s L acc ((i+gapN false (s.drop i):Nat):Int)=_
  unfold g_ref01_Lex_l2
  simp only [ltI,lenI]
  cases hd:(s.drop i).drop (gapN false (s.drop i)) with
  | nil =>
   have:s.length≤i+gapN false (s.drop i):=by
    have:=congrArg List.length hd
    simp only [List.length_drop,List.length_nil] at this
    omega
   rw [dzF (by omega),cond_false,lex_end _ _ _ _ hd]
   simp [resL]
  | cons c r =>
   have hlt:i+gapN false (s.drop i) < s.length:=by
    have:=congrArg List.length hd
    simp only [List.length_drop,List.length_cons] at this
    omega
   rw [lex_step _ _ _ _ c r hd]
   have hd':s.drop (i+gapN false (s.drop i))=c :: r:=by rw [← List.drop_drop]; exact hd
   generalize hqi:i+gapN false (s.drop i)=q at hd' hlt ⊢
   rw [dzT (by omega),cond_true,eqI_d,List.length_map]
   by_cases k3:acc.length=2000
   ·rw [dzT (by omega),cond_true,if_pos k3]
    rfl
   rw [dzF (by omega),cond_false,if_neg k3,rl_End n s q c r hs hn hd',obs,eqI_d]
   have hlen:(c :: r).length=s.length - q:=by rw [← hd']; simp
   have hle:=tkT_le (c :: r)
   by_cases h0:tkT (c :: r)=[]
   ·rw [h0,dzT (by simp),cond_true,tkOf_nil]
    rfl
   have hpos:=List.length_pos_iff.2 h0
   rw [dzF (by omega),cond_false]
   have hsl:sliceB (q:Int) ((q+(tkT (c :: r)).length:Nat):Int) s.length=true:=by simp only [sliceB]; rw [dzT]; omega
   have hsub:List.drop (Int.toNat (q:Int)) (List.take (Int.toNat ((q+(tkT (c :: r)).length:Nat):Int)) s)=tkT (c :: r):=by
    rw [Int.toNat_natCast,Int.toNat_natCast,List.drop_take,hd',show q+(tkT (c :: r)).length - q=(tkT (c :: r)).length from by omega]
    have hpre:tkT (c :: r) <+: c :: r:=by
     show (if isL c=true then (c :: r).takeWhile isN else if isD c=true then (c :: r).takeWhile isD else if isP c=true then [c] else []) <+: c :: r
     split
     ·exact List.takeWhile_prefix _
     ·split
      ·exact List.takeWhile_prefix _
      ·split
       ·exact ⟨r,rfl⟩
       ·exact List.nil_prefix
    exact (List.prefix_iff_eq_take.1 hpre).symm
   rw [hsl,cond_true,hsub]
   obtain ⟨x,e1,e2⟩:=rl_Token n c r (by omega) hn h0
   rw [e1,obs,eqI_d]
   cases ht:tkOf (tkT (c :: r)) with
   | error e =>
    rw [ht] at e2
    simp only at e2
    rw [dzF (show ¬ x.2=0 from by rw [e2.1]; exact e2.2),Bool.not_false,cond_true,e2.1]
    rfl
   | ok y =>
    obtain ⟨kk,t,v⟩:=y
    rw [ht] at e2
    simp only at e2
    subst e2
    rw [dzT rfl,Bool.not_true,cond_false]
    have hroom:roomB (List.length (acc++[(⟨kk,t,v,q⟩:GTk)])) 40=true:=by simp [roomB]; omega
    simp only [hroom,cond_true]
    rw [rl_Gap n s _ hs hn (by omega),obs,ih' _ _ (by omega) (by omega) (by simp; omega)]
    have hd2:s.drop (q+(tkT (c :: r)).length)=(c :: r).drop (tkT (c :: r)).length:=by rw [← List.drop_drop,hd']
    rw [hd2,lex_fuel (s.length+1) s.length _ _ _ (by rw [List.length_drop]; omega) (by rw [List.length_drop]; omega)]
    simp only [List.length_append,List.length_cons,List.length_nil]
    cases lexF s.length (q+(tkT (c :: r)).length) ((c :: r).drop (tkT (c :: r)).length) (acc.length+(0+1)) with
    | error e=>rfl
    | ok l=>simp [resL]
theorem rl_Lex (n:Nat) (s:List UInt8) (hn:10000≤n):g_ref01_Lex n s=some (resL [] (lexS s)):=by
 unfold g_ref01_Lex lexS
 simp only [ltI,lenI]
 by_cases h:8000 < s.length
 ·rw [dzT (by omega),cond_true,if_pos h]; rfl
 ·rw [dzF (by omega),cond_false,if_neg h]
  have hg:=rl_Gap n s 0 (by omega) hn (by omega)
  rw [show ((0:Nat):Int)=0 from rfl] at hg
  rw [hg,obs]
  exact rl_loop n s (by omega) hn s.length n 0 [] (by omega) (by omega) (by omega) (by simp)
end Go.Proofs
namespace Go.Proofs
open Go Go.Abs
set_option maxRecDepth 100000
set_option linter.unusedVariables false
def gapE:Bool→List UInt8→Option Bool
 | b,[]=>some b
 | true,c :: r=>if b2i c=10 then gapE false r else gapE true r
 | false,c :: r=>if b2i c=35 then gapE true r else if isG c then gapE false r else none
def stopT (t r:List UInt8):Bool:=match t,r with
 | c :: _,d :: _=>if isL c then !isN d else if isD c then !isD d else true
 | _,_=>true
def wholeT (t:List UInt8):Bool:=match t with
 | []=>false
 | c :: r=>if isL c then (c :: r).all isN else if isD c then (c :: r).all isD else isP c&&r.isEmpty
inductive Lx:Nat→List UInt8→List GTk→Prop
 | nil {p:Nat} {g:List UInt8} {b:Bool}:gapE false g=some b→Lx p g []
 | cons {p:Nat} {g t r:List UInt8} {l:List GTk} {k v:Int} {x:List UInt8}:gapE false g=some false→wholeT t=true→tkOf t=.ok (k,x,v)→stopT t r=true→Lx (p+g.length+t.length) r l →
   Lx p (g++(t++r)) (⟨k,x,v,(p+g.length:Nat)⟩ :: l)
theorem gapE_N:∀ (g:List UInt8) (b b':Bool),gapE b g=some b'→gapN b g=g.length
 | [],b,b',h=>by cases b <;> simp [gapN]
 | c :: r,true,b',h=>by
  unfold gapE at h
  unfold gapN
  split at h
  ·rename_i hc; rw [if_pos hc,gapE_N r false b' h]; simp; omega
  ·rename_i hc; rw [if_neg hc,gapE_N r true b' h]; simp; omega
 | c :: r,false,b',h=>by
  unfold gapE at h
  unfold gapN
  split at h
  ·rename_i hc; rw [if_pos hc,gapE_N r true b' h]; simp; omega
  ·rename_i hc
   split at h
   ·rename_i hg; rw [if_neg hc,if_pos hg,gapE_N r false b' h]; simp; omega
   ·cases h
theorem gapN_app:∀ (g r:List UInt8) (b b':Bool),gapE b g=some b'→gapN b (g++r)=g.length+gapN b' r
 | [],r,b,b',h=>by simp [gapE] at h; subst h; simp
 | c :: g,r,true,b',h=>by
  simp only [List.cons_append,List.length_cons]
  unfold gapE at h
  conv=>lhs; unfold gapN
  split at h
  ·rename_i hc; rw [if_pos hc,gapN_app g r false b' h]; omega
  ·rename_i hc; rw [if_neg hc,gapN_app g r true b' h]; omega
 | c :: g,r,false,b',h=>by
  simp only [List.cons_append,List.length_cons]
  unfold gapE at h
  conv=>lhs; unfold gapN
  split at h
  ·rename_i hc; rw [if_pos hc,gapN_app g r true b' h]; omega
  ·rename_i hc
   rw [if_neg hc]
   split at h
   ·rename_i hg; rw [if_pos hg,gapN_app g r false b' h]; omega
   ·cases h
theorem gapN_split:∀ (s:List UInt8) (b:Bool),∃ b',gapE b (s.take (gapN b s))=some b'∧(s.drop (gapN b s) ≠ []→b'=false)
 | [],b=>⟨b,by cases b <;> simp [gapN,gapE],fun h=>absurd (by simp) h⟩
 | c :: r,true=>by
  unfold gapN
  by_cases hc:b2i c=10
  ·obtain ⟨b',h1,h2⟩:=gapN_split r false
   rw [if_pos hc]
   refine ⟨b',?_,?_⟩
   ·rw [Nat.add_comm,List.take_succ_cons]
    unfold gapE
    rw [if_pos hc]; exact h1
   ·rw [Nat.add_comm,List.drop_succ_cons]; exact h2
  ·obtain ⟨b',h1,h2⟩:=gapN_split r true
   rw [if_neg hc]
   refine ⟨b',?_,?_⟩
   ·rw [Nat.add_comm,List.take_succ_cons]
    unfold gapE
    rw [if_neg hc]; exact h1
   ·rw [Nat.add_comm,List.drop_succ_cons]; exact h2
 | c :: r,false=>by
  unfold gapN
  by_cases hc:b2i c=35
  ·obtain ⟨b',h1,h2⟩:=gapN_split r true
   rw [if_pos hc]
   refine ⟨b',?_,?_⟩
   ·rw [Nat.add_comm,List.take_succ_cons]
    unfold gapE
    rw [if_pos hc]; exact h1
   ·rw [Nat.add_comm,List.drop_succ_cons]; exact h2
  ·rw [if_neg hc]
   by_cases hg:isG c=true
   ·obtain ⟨b',h1,h2⟩:=gapN_split r false
    rw [if_pos hg]
    refine ⟨b',?_,?_⟩
    ·rw [Nat.add_comm,List.take_succ_cons]
     unfold gapE
     rw [if_neg hc,if_pos hg]; exact h1
    ·rw [Nat.add_comm,List.drop_succ_cons]; exact h2
   ·rw [if_neg hg]
    exact ⟨false,rfl,fun _=>rfl⟩
theorem isL_ne {c:UInt8} (h:isL c=true):b2i c ≠ 35∧isG c=false∧isD c=false∧isP c=false:=by
 have h:=of_decide_eq_true (show decide (97≤b2i c∧b2i c≤122)=true from h)
 exact ⟨by omega,dzF (by omega),dzF (by omega),dzF (by omega)⟩
theorem isD_ne {c:UInt8} (h:isD c=true):b2i c ≠ 35∧isG c=false∧isL c=false∧isP c=false:=by
 have h:=of_decide_eq_true (show decide (48≤b2i c∧b2i c≤57)=true from h)
 exact ⟨by omega,dzF (by omega),dzF (by omega),dzF (by omega)⟩
theorem isP_ne {c:UInt8} (h:isP c=true):b2i c ≠ 35∧isG c=false∧isL c=false∧isD c=false:=by
 have h:=of_decide_eq_true (show decide (b2i c=59∨b2i c=123∨b2i c=125)=true from h)
 exact ⟨by omega,dzF (by omega),dzF (by omega),dzF (by omega)⟩
theorem whole_head {t:List UInt8} (h:wholeT t=true):∃ c q,t=c :: q∧b2i c ≠ 35∧isG c=false:=by
 cases t with
 | nil=>cases h
 | cons c q =>
  refine ⟨c,q,rfl,?_⟩
  unfold wholeT at h
  simp only at h
  split at h
  ·rename_i hL; exact ⟨(isL_ne hL).1,(isL_ne hL).2.1⟩
  ·split at h
   ·rename_i hD; exact ⟨(isD_ne hD).1,(isD_ne hD).2.1⟩
   ·simp only [bae] at h
    exact ⟨(isP_ne h.1).1,(isP_ne h.1).2.1⟩
theorem whole_gap {t:List UInt8} (h:wholeT t=true) (r:List UInt8):gapN false (t++r)=0:=by
 obtain ⟨c,q,rfl,h1,h2⟩:=whole_head h
 simp only [List.cons_append,gapN]
 rw [if_neg h1,if_neg (by rw [h2]; decide)]
theorem while_app {p:UInt8→Bool}:∀ (a r:List UInt8),a.all p=true→(∀ d ∈ r.head?,p d=false)→(a++r).takeWhile p=a
 | [],r,_,hr=>by
  cases r with
  | nil=>rfl
  | cons d r=>simp [hr d rfl]
 | c :: a,r,h,hr=>by
  simp only [List.all_cons,bae] at h
  simp [h.1,while_app a r h.2 hr]
theorem whole_tk {t r:List UInt8} (h:wholeT t=true) (hs:stopT t r=true):tkT (t++r)=t:=by
 cases t with
 | nil=>cases h
 | cons c q =>
  unfold wholeT at h
  simp only at h
  have e:tkT (c :: q++r)=if isL c=true then (c :: q++r).takeWhile isN else if isD c=true then (c :: q++r).takeWhile isD else if isP c=true then [c] else []:=rfl
  rw [e]
  split at h
  ·rename_i hL
   rw [if_pos hL]
   refine while_app _ _ h fun d hd=>?_
   cases r with
   | nil=>cases hd
   | cons d' r =>
    simp only [List.head?_cons,Option.mem_def,sie] at hd
    subst hd
    simpa [stopT,hL] using hs
  ·rename_i hL
   rw [if_neg hL]
   split at h
   ·rename_i hD
    rw [if_pos hD]
    refine while_app _ _ h fun d hd=>?_
    cases r with
    | nil=>cases hd
    | cons d' r =>
     simp only [List.head?_cons,Option.mem_def,sie] at hd
     subst hd
     simpa [stopT,hL,hD] using hs
   ·rename_i hD
    simp only [bae,List.isEmpty_iff] at h
    rw [if_neg hD,if_pos h.1,h.2]
theorem tk_whole {s:List UInt8} (h:tkT s ≠ []):wholeT (tkT s)=true∧stopT (tkT s) (s.drop (tkT s).length)=true∧s=tkT s++s.drop (tkT s).length:=by
 cases s with
 | nil=>exact absurd rfl h
 | cons c r =>
  have e:tkT (c :: r)=if isL c=true then (c :: r).takeWhile isN else if isD c=true then (c :: r).takeWhile isD else if isP c=true then [c] else []:=rfl
  rw [e] at h ⊢
  have hw:∀ (p:UInt8→Bool) (l:List UInt8),l.drop (l.takeWhile p).length=l.dropWhile p:=by
   intro p l
   have:=drop_while_drop l 0 p
   simpa using this
  by_cases hL:isL c=true
  ·have hN:isN c=true:=by simp [isN,hL]
   have hc:(c :: r).takeWhile isN=c :: r.takeWhile isN:=by simp [hN]
   rw [if_pos hL] at h ⊢
   rw [hw]
   have h1:=all_while (c :: r) isN
   have h2:=drop_while_head (c :: r) isN
   refine ⟨?_,?_,while_split _ _⟩
   ·rw [hc] at h1 ⊢
    unfold wholeT
    simp only [hL,if_true]
    exact h1
   ·rw [hc]
    cases hq:(c :: r).dropWhile isN with
    | nil=>rfl
    | cons d q =>
     rw [hq] at h2
     have:=h2 d rfl
     simp [stopT,hL,this]
  ·rw [if_neg hL] at h ⊢
   by_cases hD:isD c=true
   ·have hc:(c :: r).takeWhile isD=c :: r.takeWhile isD:=by simp [hD]
    rw [if_pos hD] at h ⊢
    rw [hw]
    have h1:=all_while (c :: r) isD
    have h2:=drop_while_head (c :: r) isD
    refine ⟨?_,?_,while_split _ _⟩
    ·rw [hc] at h1 ⊢
     unfold wholeT
     simp only [hL,hD,if_true,Bool.false_eq_true,if_false]
     exact h1
    ·rw [hc]
     cases hq:(c :: r).dropWhile isD with
     | nil=>rfl
     | cons d q =>
      rw [hq] at h2
      have:=h2 d rfl
      simp [stopT,hL,hD,this]
   ·rw [if_neg hD] at h ⊢
    by_cases hP:isP c=true
    ·rw [if_pos hP]
     refine ⟨by simp [wholeT,hL,hD,hP],?_,rfl⟩
     cases r with
     | nil=>rfl
     | cons d q=>simp [stopT,hL,hD]
    ·rw [if_neg hP] at h
     exact absurd rfl h
theorem lexF_ok:∀ (f p k:Nat) (s:List UInt8) (l:List GTk),lexF f p s k=.ok l→k≤2000→Lx p s l∧k+l.length≤2000
 | 0,_,_,_,_,h,_=>by cases h
 | f+1,p,k,s,l,h,hk=>by
  obtain ⟨b,g1,g2⟩:=gapN_split s false
  cases hd:s.drop (gapN false s) with
  | nil =>
   rw [lex_end _ _ _ _ hd] at h
   cases h
   have:s.take (gapN false s)=s:=by
    have:=List.take_append_drop (gapN false s) s
    rw [hd,List.append_nil] at this
    exact this
   rw [this] at g1
   exact ⟨.nil g1,by simp; exact hk⟩
  | cons c r =>
   have hb:=g2 (by rw [hd]; simp)
   subst hb
   rw [lex_step _ _ _ _ c r hd] at h
   split at h
   ·cases h
   rename_i hk2
   cases ht:tkOf (tkT (c :: r)) with
   | error e=>rw [ht] at h; cases h
   | ok y =>
    obtain ⟨kk,x,v⟩:=y
    rw [ht] at h
    simp only at h
    cases hl:lexF f (p+gapN false s+(tkT (c :: r)).length) ((c :: r).drop (tkT (c :: r)).length) (k+1) with
    | error e=>rw [hl] at h; cases h
    | ok l' =>
     rw [hl] at h
     simp only [Except.ok.injEq] at h
     subst h
     obtain ⟨h1,h2⟩:=lexF_ok f _ _ _ _ hl (by omega)
     have hne:tkT (c :: r) ≠ []:=fun e=>by rw [e] at ht; cases ht
     obtain ⟨w1,w2,w3⟩:=tk_whole hne
     have hlen:(s.take (gapN false s)).length=gapN false s:=by
      rw [List.length_take]
      have:=gap_le s false
      omega
     have hs:s=s.take (gapN false s)++(tkT (c :: r)++(c :: r).drop (tkT (c :: r)).length):=by
      rw [← w3,← hd,List.take_append_drop]
     refine ⟨?_,by simp only [List.length_cons]; omega⟩
     have:=Lx.cons (p:=p) (g:=s.take (gapN false s)) (l:=l') g1 w1 ht w2 (by rw [hlen]; exact h1)
     rw [← hs,hlen] at this
     exact this
theorem Lx_lexF:∀ {p:Nat} {s:List UInt8} {l:List GTk},Lx p s l→∀ (f k:Nat),(k+l.length≤2000∨2000 < k)→s.length < f→lexF f p s k=.ok l:=by
 intro p s l h
 induction h with
 | nil hg =>
  intro f k _ hf
  obtain ⟨f,rfl⟩:∃ f',f=f'+1:=⟨f - 1,by omega⟩
  refine lex_end _ _ _ _ ?_
  rw [gapE_N _ _ _ hg,List.drop_length]
 | @cons p g t r l k v x hg hw ht hst hl ih =>
  intro f k' hk hf
  obtain ⟨f,rfl⟩:∃ f',f=f'+1:=⟨f - 1,by omega⟩
  have hN:gapN false (g++(t++r))=g.length:=by rw [gapN_app g _ _ _ hg,whole_gap hw]; rfl
  obtain ⟨c,q,rfl,_⟩:=whole_head hw
  have hd:(g++(c :: q++r)).drop (gapN false (g++(c :: q++r)))=c :: (q++r):=by rw [hN,List.drop_left]; rfl
  have htk:tkT (c :: (q++r))=c :: q:=whole_tk hw hst
  rw [lex_step _ _ _ _ _ _ hd,hN,htk,ht]
  have hdr:(c :: (q++r)).drop (c :: q).length=r:=List.drop_left (l₁:=c :: q)
  simp only [List.length_append,List.length_cons] at hf hk
  rw [hdr,if_neg (by omega),ih f (k'+1) (by omega) (by omega)]
theorem lexS_iff (s:List UInt8) (l:List GTk):lexS s=.ok l↔s.length≤8000∧Lx 0 s l∧l.length≤2000:=by
 unfold lexS
 constructor
 ·intro h
  split at h
  ·cases h
  ·rename_i hl
   obtain ⟨h1,h2⟩:=lexF_ok _ _ _ _ _ h (by omega)
   exact ⟨by omega,h1,by omega⟩
 ·rintro ⟨h1,h2,h3⟩
  rw [if_neg (by omega)]
  exact Lx_lexF h2 _ _ (.inl (by omega)) (by omega)
theorem Lx_at {p:Nat} {s:List UInt8} {l:List GTk} (h:Lx p s l):(∀ t ∈ l,(p:Int)≤t.At∧t.At < ((p+s.length:Nat):Int))∧l.Pairwise (fun a b=>a.At < b.At):=by
 induction h with
 | nil hg=>exact ⟨fun t ht=>(by cases ht),List.Pairwise.nil⟩
 | @cons p g t r l k v y hg hw ht hst hl ih =>
  obtain ⟨c,q,hc,_⟩:=whole_head hw
  have hpos:0 < t.length:=by rw [hc]; simp
  simp only [List.length_append]
  refine ⟨fun x hx=>?_,List.Pairwise.cons (fun x hx=>?_) ih.2⟩
  ·rcases List.mem_cons.1 hx with rfl | hx
   ·simp only; omega
   ·have:=ih.1 x hx; omega
  ·have:=ih.1 x hx
   simp only; omega
end Go.Proofs
namespace Go.Proofs
open Go Go.Abs
set_option maxRecDepth 100000
set_option linter.unusedVariables false
def attB (w:List UInt8):Bool:=(g_p_isAttr 0 w).getD false
def arkB (w:List UInt8):Bool:=(g_p_isArticle 0 w).getD false
def wrdB (w:List UInt8):Bool:=(g_p_isWord 0 w).getD false
def kinB (w:List UInt8):Int:=(g_p_kindOf 0 w).getD 0
theorem p_isAttr (n:Nat) (w:List UInt8):g_p_isAttr n w=some (attB w):=by
 unfold attB g_p_isAttr
 simp only [cond_some,obs,Option.getD_some]
theorem p_isArticle (n:Nat) (w:List UInt8):g_p_isArticle n w=some (arkB w):=by
 unfold arkB g_p_isArticle
 simp only [cond_some,obs,Option.getD_some]
theorem p_isWord (n:Nat) (w:List UInt8):g_p_isWord n w=some (wrdB w):=by
 unfold wrdB g_p_isWord
 simp only [cond_some,obs,Option.getD_some]
theorem p_kindOf (n:Nat) (w:List UInt8):g_p_kindOf n w=some (kinB w):=by
 unfold kinB g_p_kindOf
 simp only [cond_some,Option.getD_some]
theorem p_notKey (n:Nat) (w:List UInt8):g_p_notKey n w=some (!keyB w):=by
 unfold g_p_notKey
 rw [b_isKey,obs]
theorem key_split (w:List UInt8):keyB w=(!decide (kinB w=0)||attB w||arkB w||wrdB w):=by
 have h:=b_isKey 0 w
 unfold g_p_isKey at h
 rw [p_kindOf,p_isAttr,p_isArticle,p_isWord] at h
 simp only [obs,eqI_d,cond_some,sie] at h
 rw [← h]
 by_cases h1:kinB w=0 <;> cases attB w <;> cases arkB w <;> cases wrdB w <;> simp [h1]
def zTok (len:Int):GTk:=⟨0,[],0,len⟩
def pk (len:Int) (r:List GTk):GTk:=r.head?.getD (zTok len)
theorem pk_eq {T:List GTk} {i:Nat} (len:Int):pk len (T.drop i)=(T[i]?).getD (zTok len):=by
 unfold pk
 rw [List.head?_drop]
theorem p_peek (n:Nat) (T:List GTk) (i:Nat) (len:Int) (d:List GDg):g_p_reader_peek n (⟨T,(i:Int),len,d⟩:GPr)=some (pk len (T.drop i)):=by
 unfold g_p_reader_peek
 rw [pk_eq]
 simp only [ltI,lenI,List.length_map]
 by_cases h:i < T.length
 ·rw [dzT (by omega),cond_true,getI_nat,List.getElem?_eq_getElem h]; rfl
 ·rw [dzF (by omega),cond_false,List.getElem?_eq_none (by omega)]; rfl
theorem p_peek2 (n:Nat) (T:List GTk) (i:Nat) (len:Int) (d:List GDg):g_p_reader_peek_2 n (⟨T,(i:Int),len,d⟩:GPr)=some (pk len (T.drop i)):=by
 unfold g_p_reader_peek_2
 rw [pk_eq]
 simp only [ltI,lenI,List.length_map]
 by_cases h:i < T.length
 ·rw [dzT (by omega),cond_true,getI_nat,List.getElem?_eq_getElem h]; rfl
 ·rw [dzF (by omega),cond_false,List.getElem?_eq_none (by omega)]; rfl
theorem p_fail (n:Nat) (T:List GTk) (i:Nat) (len:Int) (d:List GDg):g_p_reader_fail n (⟨T,(i:Int),len,d⟩:GPr)=some (.error (pk len (T.drop i)).At):=by
 unfold g_p_reader_fail
 rw [p_peek,obs]
theorem p_fail2 (n:Nat) (T:List GTk) (i:Nat) (len:Int) (d:List GDg):g_p_reader_fail_2 n (⟨T,(i:Int),len,d⟩:GPr)=some (.error (pk len (T.drop i)).At):=by
 unfold g_p_reader_fail_2
 rw [p_peek2,obs]
def okV (w:Bool) (t:GTk):Bool:=decide (t.Kind=2)||(decide (t.Kind=1)&&(!keyB t.Text||w&&wrdB t.Text))
def vnode (t:GTk):GNode:=if t.Kind=2 then ⟨6,[],t.N,t.At,[]⟩ else ⟨5,t.Text,0,t.At,[]⟩
def vcs (t:GTk):List PV:=GNode.cs (vnode t)
theorem okV_z (w:Bool) (len:Int):okV w (zTok len)=false:=by simp [okV,zTok]
theorem values_gen (w:Bool) (T:List GTk) (len:Int) (B:(List (List PV) × Int→Option (List (List PV) × GPr))→List (List PV) × Int→Option (List (List PV) × GPr)) (hT:T.length≤2100)
  (hB:∀ rec acc (i:Nat),acc.length≤2100→B rec (acc,(i:Int))=if okV w (pk len (T.drop i)) then rec (acc++[vcs (pk len (T.drop i))],wi ((i:Int)+1)) else some (acc,(⟨T,(i:Int),len,[]⟩:GPr))) :
  ∀ (m j i:Nat) (acc:List (List PV)),T.length - i≤m→m < j→i≤T.length→acc.length≤i →
   loopN B j (acc,(i:Int))=some (acc++((T.drop i).takeWhile (okV w)).map vcs,(⟨T,((i+((T.drop i).takeWhile (okV w)).length:Nat):Int),len,[]⟩:GPr)):=by
 intro m
 induction m with
 | zero =>
  intro j i acc h1 h2 h3 h4
  obtain ⟨j,rfl⟩:∃ j',j=j'+1:=⟨j - 1,by omega⟩
  unfold loopN
  have hd:T.drop i=[]:=List.drop_eq_nil_of_le (by omega)
  rw [hB _ _ _ (by omega),hd]
  have:okV w (pk len [])=false:=okV_z w len
  rw [this]
  simp
 | succ m ih =>
  intro j i acc h1 h2 h3 h4
  obtain ⟨j,rfl⟩:∃ j',j=j'+1:=⟨j - 1,by omega⟩
  by_cases hi:i=T.length
  ·exact ih (j+1) i acc (by omega) (by omega) h3 h4
  unfold loopN
  have hdr:=List.drop_eq_getElem_cons (show i < T.length by omega)
  generalize T[i]'(by omega)=t at hdr
  generalize hr:T.drop (i+1)=r at hdr
  rw [hB _ _ _ (by omega),hdr]
  have hpk:pk len (t :: r)=t:=rfl
  rw [hpk]
  by_cases ho:okV w t=true
  ·rw [if_pos ho,wi_id (x:=(i:Int)+1) (by omega) (by omega),show ((i:Int)+1)=((i+1:Nat):Int) from by omega,ih j (i+1) _ (by omega) (by omega) (by omega) (by simp; omega),hr]
   simp only [List.takeWhile_cons,ho,if_true,List.map_cons,List.length_cons,List.append_assoc,List.singleton_append]
   rw [show i+1+(r.takeWhile (okV w)).length=i+((r.takeWhile (okV w)).length+1) from by omega]
  ·rw [if_neg ho]
   simp [ho]
theorem p_values (n:Nat) (T:List GTk) (i:Nat) (len:Int) (d:List GDg) (hT:T.length≤2100) (hi:i≤T.length) (hn:10000≤n) :
  g_p_reader_values n (⟨T,(i:Int),len,d⟩:GPr)=some (((T.drop i).takeWhile (okV false)).map vcs,(⟨T,((i+((T.drop i).takeWhile (okV false)).length:Nat):Int),len,[]⟩:GPr)):=by
 unfold g_p_reader_values
 have:=values_gen false T len (fun recl1 (v:List (List PV) × Int)=>g_p_reader_values_l1 n (⟨T,(i:Int),len,d⟩:GPr) recl1 v.1 v.2) hT (fun rec acc i ha=>by
  show g_p_reader_values_l1 n _ rec acc (i:Int)=_
  unfold g_p_reader_values_l1
  simp only [p_peek,obs,eqI_d,p_notKey,cond_some]
  generalize pk len (T.drop i)=t
  have hroom:∀ x:List PV,roomB (List.length (acc++[x])) 64=true:=by intro x; simp [roomB]; omega
  simp only [hroom,cond_true]
  unfold okV vcs vnode
  by_cases h2:t.Kind=2
  ·simp [h2]
  ·by_cases h1:t.Kind=1
   ·cases keyB t.Text <;> simp [h1]
   ·simp [h1,h2]) T.length n i [] (by omega) (by omega) hi (by simp)
 exact this
theorem p_values2 (n:Nat) (T:List GTk) (i:Nat) (len:Int) (d:List GDg) (hT:T.length≤2100) (hi:i≤T.length) (hn:10000≤n) :
  g_p_reader_values_2 n (⟨T,(i:Int),len,d⟩:GPr)=some (((T.drop i).takeWhile (okV true)).map vcs,(⟨T,((i+((T.drop i).takeWhile (okV true)).length:Nat):Int),len,[]⟩:GPr)):=by
 unfold g_p_reader_values_2
 have:=values_gen true T len (fun recl1 (v:List (List PV) × Int)=>g_p_reader_values_2_l1 n (⟨T,(i:Int),len,d⟩:GPr) recl1 v.1 v.2) hT (fun rec acc i ha=>by
  show g_p_reader_values_2_l1 n _ rec acc (i:Int)=_
  unfold g_p_reader_values_2_l1 g_p_reader_article_1_1
  simp only [p_peek,obs,eqI_d,p_notKey,p_isWord,cond_some]
  generalize pk len (T.drop i)=t
  have hroom:∀ x:List PV,roomB (List.length (acc++[x])) 64=true:=by intro x; simp [roomB]; omega
  simp only [hroom,cond_true]
  unfold okV vcs vnode
  by_cases h2:t.Kind=2
  ·simp [h2]
  ·by_cases h1:t.Kind=1
   ·cases keyB t.Text <;> cases wrdB t.Text <;> simp [h1]
   ·simp [h1,h2]) T.length n i [] (by omega) (by omega) hi (by simp)
 exact this
def skipF:List GTk→List UInt8 × Nat
 | []=>([],0)
 | t :: r=>if t.Kind=3∧t.Text ≠ [123] then (t.Text,1) else ((skipF r).1,(skipF r).2+1)
theorem skip_cons (t:GTk) (r:List GTk):skipF (t :: r)=if t.Kind=3∧t.Text ≠ [123] then (t.Text,1) else ((skipF r).1,(skipF r).2+1):=rfl
theorem skip_le:∀ l:List GTk,(skipF l).2≤l.length
 | []=>by simp [skipF]
 | t :: r=>by
  have:=skip_le r
  unfold skipF
  split <;> simp only [List.length_cons] <;> omega
theorem p_skip (n:Nat) (T:List GTk) (i:Nat) (len:Int) (d:List GDg) (hT:T.length≤2100) (hi:i≤T.length) (hn:10000≤n) :
  g_p_reader_skip n (⟨T,(i:Int),len,d⟩:GPr)=some ((skipF (T.drop i)).1,(⟨T,((i+(skipF (T.drop i)).2:Nat):Int),len,[]⟩:GPr)):=by
 unfold g_p_reader_skip
 have key:∀ (m j i':Nat),T.length - i'≤m→m < j→i'≤T.length→loopN (fun recl1 l1=>g_p_reader_skip_l1 (⟨T,(i:Int),len,d⟩:GPr) recl1 l1) j (i':Int)=some ((skipF (T.drop i')).1,(⟨T,((i'+(skipF (T.drop i')).2:Nat):Int),len,[]⟩:GPr)):=by
  intro m
  induction m with
  | zero =>
   intro j i' h1 h2 h3
   obtain ⟨j,rfl⟩:∃ j',j=j'+1:=⟨j - 1,by omega⟩
   unfold loopN
   unfold g_p_reader_skip_l1
   simp only [ltI,lenI,List.length_map]
   rw [dzF (by omega),cond_false,List.drop_eq_nil_of_le (by omega)]
   rfl
  | succ m ih =>
   intro j i' h1 h2 h3
   obtain ⟨j,rfl⟩:∃ j',j=j'+1:=⟨j - 1,by omega⟩
   by_cases hi:i'=T.length
   ·exact ih (j+1) i' (by omega) (by omega) h3
   have ih':=ih j (i'+1) (by omega) (by omega) (by omega)
   unfold loopN
   generalize loopN (fun recl1 l1=>g_p_reader_skip_l1 (⟨T,(i:Int),len,d⟩:GPr) recl1 l1) j=L at ih' ⊢
   show g_p_reader_skip_l1 _ L (i':Int)=_
   unfold g_p_reader_skip_l1
   simp only [ltI,lenI,List.length_map]
   have hdr:=List.drop_eq_getElem_cons (show i' < T.length by omega)
   have hx:T[i']?=some T[i']:=List.getElem?_eq_getElem (by omega)
   generalize T[i']=t at hdr hx
   rw [dzT (by omega),cond_true,getI_nat,hx,obs,hdr,eqI_d,cond_some,obs,wi_id (x:=(i':Int)+1) (by omega) (by omega),show ((i':Int)+1)=((i'+1:Nat):Int) from by omega,ih']
   rw [skip_cons]
   by_cases h:t.Kind=3∧t.Text ≠ [123]
   ·have:(bif decide (t.Kind=3) then !eqS t.Text [123] else false)=true:=by
     rw [dzT h.1]
     simp [eqS,h.2]
    rw [this,cond_true,if_pos h]
   ·have:(bif decide (t.Kind=3) then !eqS t.Text [123] else false)=false:=by
     by_cases h3:t.Kind=3
     ·have h4:t.Text=[123]:=Classical.byContradiction fun h4=>h ⟨h3,h4⟩
      rw [h4,dzT h3]; rfl
     ·rw [dzF h3]; rfl
    rw [this,cond_false,if_neg h]
    simp only
    rw [show i'+1+(skipF (T.drop (i'+1))).2=i'+((skipF (T.drop (i'+1))).2+1) from by omega]
 exact key T.length n i (by omega) (by omega) hi
end Go.Proofs
namespace Go.Proofs
open Go Go.Abs
set_option maxRecDepth 100000
set_option linter.unusedVariables false
def isPu (c:UInt8) (t:GTk):Bool:=decide (t.Kind=3∧t.Text=[c])
def vals (w:Bool) (r:List GTk):List GTk:=r.takeWhile (okV w)
def artF (len:Int) (r:List GTk):Except (Int × Nat) (GNode × Nat) :=
 if (pk len r).Kind=1∧arkB (pk len r).Text=true then
  if isPu 59 (pk len (r.drop (1+(vals true (r.drop 1)).length))) then .ok (⟨4,(pk len r).Text,0,(pk len r).At,(vals true (r.drop 1)).map vcs⟩,2+(vals true (r.drop 1)).length)
  else .error ((pk len (r.drop (1+(vals true (r.drop 1)).length))).At,1+(vals true (r.drop 1)).length)
 else .error ((pk len r).At,0)
def attF:Nat→List GTk→List (List PV) × Nat
 | 0,_=>([],0)
 | _+1,[]=>([],0)
 | f+1,t :: q=>if t.Kind=1∧attB t.Text=true then
   (GNode.cs ⟨3,t.Text,0,t.At,(vals false q).map vcs⟩ :: (attF f (q.drop (vals false q).length)).1,1+(vals false q).length+(attF f (q.drop (vals false q).length)).2)
  else ([],0)
def artsF:Nat→Int→List GDg→List GTk→List (List PV) × Nat × List GDg
 | 0,_,ds,_=>([],0,ds)
 | f+1,len,ds,r=>if 20≤ds.length then ([],0,ds) else if isPu 125 (pk len r) then ([],1,ds) else match artF len r with
  | .ok (x,k)=>let z:=artsF f len ds (r.drop k); (GNode.cs x :: z.1,k+z.2.1,z.2.2)
  | .error (e,k)=>let m:=skipF (r.drop k)
   if m.1 ≠ [59] then ([],k+m.2,ds++[⟨7,e⟩]) else
    let z:=artsF f len (ds++[⟨7,e⟩]) (r.drop (k+m.2)); (z.1,k+m.2+z.2.1,z.2.2)
def itemF (len:Int) (ds:List GDg) (r:List GTk):Except (Int × Nat) (GNode × Nat × List GDg) :=
 if (pk len r).Kind=1∧kinB (pk len r).Text ≠ 0 then
  if (pk len (r.drop 1)).Kind=1∧keyB (pk len (r.drop 1)).Text=false then
   let a:=attF (r.length+1) (r.drop 2)
   let t:=pk len (r.drop (2+a.2))
   if kinB (pk len r).Text=7 then
    if isPu 123 t then
     let z:=artsF (r.length+1) len ds (r.drop (3+a.2)); .ok (⟨2,(pk len (r.drop 1)).Text,7,(pk len r).At,a.1++z.1⟩,3+a.2+z.2.1,z.2.2)
    else .error (t.At,2+a.2)
   else if isPu 59 t then .ok (⟨2,(pk len (r.drop 1)).Text,kinB (pk len r).Text,(pk len r).At,a.1⟩,3+a.2,ds)
    else .error (t.At,2+a.2)
  else .error ((pk len (r.drop 1)).At,1)
 else .error ((pk len r).At,0)
def itemsF:Nat→Int→List GDg→List GTk→List (List PV) × List GDg
 | 0,_,ds,_=>([],ds)
 | f+1,len,ds,r=>if r=[]∨20≤ds.length then ([],ds) else match itemF len ds r with
  | .ok (x,k,ds')=>let z:=itemsF f len ds' (r.drop k); (GNode.cs x :: z.1,z.2)
  | .error (e,k)=>itemsF f len (ds++[⟨7,e⟩]) (r.drop (k+(skipF (r.drop k)).2))
theorem pu_b (c:UInt8) (t:GTk):(bif decide (t.Kind=3) then eqS t.Text [c] else false)=isPu c t:=by
 unfold isPu eqS
 by_cases h:t.Kind=3
 ·by_cases h2:t.Text=[c] <;> simp [h,h2]
 ·simp [h]
theorem pu_not (c:UInt8) (t:GTk):(bif decide (t.Kind=0) then true else !isPu c t)=!isPu c t:=by
 by_cases h:t.Kind=0
 ·have:isPu c t=false:=by unfold isPu; rw [dzF]; rintro ⟨h1,_⟩; omega
  rw [this,dzT h]; rfl
 ·rw [dzF h]; rfl
theorem while_bound (r:List GTk) (w:Bool):(vals w r).length≤r.length:=(List.takeWhile_prefix (okV w)).length_le
theorem drop_drop' (T:List GTk) (i k:Nat):T.drop (i+k)=(T.drop i).drop k:=(List.drop_drop ..).symm
theorem p_article (n:Nat) (T:List GTk) (i:Nat) (len:Int) (hT:T.length≤2100) (hi:i≤T.length) (hn:10000≤n) :
  g_p_reader_article n (⟨T,(i:Int),len,[]⟩:GPr)=some (match artF len (T.drop i) with
   | .ok (x,k)=>.ok (x,(⟨T,((i+k:Nat):Int),len,[]⟩:GPr))
   | .error (e,k)=>.error (e,(⟨T,((i+k:Nat):Int),len,[]⟩:GPr))):=by
 unfold g_p_reader_article
 simp only [p_peek,obs,eqI_d,p_isArticle,cond_some,p_fail,exc]
 unfold artF
 generalize ht:pk len (T.drop i)=t
 by_cases h1:t.Kind=1∧arkB t.Text=true
 rotate_left
 ·rw [if_neg h1]
  have:(bif decide (t.Kind=0) then true else !bif decide (t.Kind=1) then arkB t.Text else false)=true:=by
   by_cases a:t.Kind=1
   ·have b:arkB t.Text=false:=by
     cases hb:arkB t.Text
     ·rfl
     ·exact absurd ⟨a,hb⟩ h1
    rw [b,dzT a,dzF (by omega)]; rfl
   ·rw [dzF a]
    cases decide (t.Kind=0) <;> rfl
  rw [this,cond_true]
  simp
 rw [if_pos h1]
 have hlt:i < T.length:=by
  apply Classical.byContradiction
  intro h
  rw [List.drop_eq_nil_of_le (by omega)] at ht
  rw [← ht] at h1
  exact absurd h1.1 (by simp [pk,zTok])
 have hb:(bif decide (t.Kind=0) then true else !bif decide (t.Kind=1) then arkB t.Text else false)=false:=by
  rw [dzF (by omega),dzT h1.1,h1.2]; rfl
 rw [hb,cond_false]
 unfold g_p_reader_article_j2
 simp only [wi_id (x:=(i:Int)+1) (by omega) (by omega)]
 rw [show ((i:Int)+1)=((i+1:Nat):Int) from by omega,p_values2 n T (i+1) len [] hT (by omega) hn,obs]
 have hvl:=while_bound (T.drop (i+1)) true
 rw [List.length_drop] at hvl
 have hv:(T.drop (i+1)).takeWhile (okV true)=vals true ((T.drop i).drop 1):=by rw [drop_drop']; rfl
 rw [hv]
 rw [drop_drop' T i 1] at hvl
 generalize vals true ((T.drop i).drop 1)=v at hvl ⊢
 have hroom:roomB (List.length (v.map vcs)) 64=true:=by simp [roomB]; omega
 simp only [hroom,cond_true,obs,List.nil_append]
 rw [p_peek,obs]
 have hdd:T.drop (i+1+v.length)=(T.drop i).drop (1+v.length):=by rw [Nat.add_assoc,drop_drop']
 rw [hdd]
 simp only [eqI_d,cond_some,obs,pu_b,pu_not,p_fail,hdd]
 unfold g_p_reader_article_j6
 cases hp:isPu 59 (pk len ((T.drop i).drop (1+v.length)))
 ·simp only [Bool.not_false,cond_true,exc]
  rw [show i+1+v.length=i+(1+v.length) from by omega]
  simp
 ·simp only [Bool.not_true,cond_false,if_true]
  rw [wi_id (x:=((i+1+v.length:Nat):Int)+1) (by omega) (by omega),show (((i+1+v.length:Nat):Int)+1)=((i+(2+v.length):Nat):Int) from by omega]
theorem att_gen (T:List GTk) (len:Int) (hT:T.length≤2100)
  (B:(List (List PV) × List GTk × Int × Int × Int × List UInt8 × Int × Int→Option (List (List PV) × List GTk × Int × Int))→List (List PV) × List GTk × Int × Int × Int × List UInt8 × Int × Int→Option (List (List PV) × List GTk × Int × Int))
  (hB:∀ rec acc (i:Nat) (t:GTk),acc.length≤2100→i≤T.length→B rec (acc,T,(i:Int),len,t.Kind,t.Text,t.N,t.At)=if t.Kind=1∧attB t.Text=true then
    (if i < T.length then rec (acc++[GNode.cs (⟨3,t.Text,0,t.At,(vals false (T.drop (i+1))).map vcs⟩:GNode)],T,((i+1+(vals false (T.drop (i+1))).length:Nat):Int),len,(pk len (T.drop (i+1+(vals false (T.drop (i+1))).length))).Kind,(pk len (T.drop (i+1+(vals false (T.drop (i+1))).length))).Text,(pk len (T.drop (i+1+(vals false (T.drop (i+1))).length))).N,(pk len (T.drop (i+1+(vals false (T.drop (i+1))).length))).At) else B rec (acc,T,(i:Int),len,t.Kind,t.Text,t.N,t.At)) else some (acc,T,(i:Int),len)) :
  ∀ (m j i f:Nat) (acc:List (List PV)),T.length - i≤m→m < j→i≤T.length→acc.length≤i→T.length - i < f →
   loopN B j (acc,T,(i:Int),len,(pk len (T.drop i)).Kind,(pk len (T.drop i)).Text,(pk len (T.drop i)).N,(pk len (T.drop i)).At)=some (acc++(attF f (T.drop i)).1,T,((i+(attF f (T.drop i)).2:Nat):Int),len):=by
 intro m
 induction m with
 | zero =>
  intro j i f acc h1 h2 h3 h4 h5
  obtain ⟨j,rfl⟩:∃ j',j=j'+1:=⟨j - 1,by omega⟩
  obtain ⟨f,rfl⟩:∃ f',f=f'+1:=⟨f - 1,by omega⟩
  unfold loopN
  rw [hB _ _ _ _ (by omega) h3,List.drop_eq_nil_of_le (by omega)]
  rw [if_neg (by simp [pk,zTok])]
  simp [attF]
 | succ m ih =>
  intro j i f acc h1 h2 h3 h4 h5
  by_cases hi:i=T.length
  ·exact ih j i f acc (by omega) (by omega) h3 h4 h5
  obtain ⟨j,rfl⟩:∃ j',j=j'+1:=⟨j - 1,by omega⟩
  obtain ⟨f,rfl⟩:∃ f',f=f'+1:=⟨f - 1,by omega⟩
  unfold loopN
  rw [hB _ _ _ _ (by omega) h3]
  have hdr:=List.drop_eq_getElem_cons (show i < T.length by omega)
  generalize T[i]'(by omega)=t at hdr
  have hpk:pk len (T.drop i)=t:=by rw [hdr]; rfl
  rw [hpk]
  have hvl:=while_bound (T.drop (i+1)) false
  rw [List.length_drop] at hvl
  by_cases h:t.Kind=1∧attB t.Text=true
  ·rw [if_pos h,if_pos (by omega),ih j _ f _ (by omega) (by omega) (by omega) (by simp; omega) (by omega),hdr]
   have e:attF (f+1) (t :: T.drop (i+1))=(GNode.cs ⟨3,t.Text,0,t.At,(vals false (T.drop (i+1))).map vcs⟩ :: (attF f ((T.drop (i+1)).drop (vals false (T.drop (i+1))).length)).1,1+(vals false (T.drop (i+1))).length+(attF f ((T.drop (i+1)).drop (vals false (T.drop (i+1))).length)).2):=by
    conv=>lhs; unfold attF
    rw [if_pos h]
   rw [e,← drop_drop' T (i+1)]
   simp only [List.append_assoc,List.singleton_append]
   rw [show i+1+(vals false (T.drop (i+1))).length+(attF f (T.drop (i+1+(vals false (T.drop (i+1))).length))).2=i+(1+(vals false (T.drop (i+1))).length+(attF f (T.drop (i+1+(vals false (T.drop (i+1))).length))).2) from by omega]
  ·rw [if_neg h,hdr]
   have e:attF (f+1) (t :: T.drop (i+1))=([],0):=by
    conv=>lhs; unfold attF
    rw [if_neg h]
   rw [e]
   simp
theorem attF_fuel:∀ (f f':Nat) (r:List GTk),r.length < f→r.length < f'→attF f r=attF f' r
 | 0,_,_,h,_=>absurd h (Nat.not_lt_zero _)
 | _,0,_,_,h=>absurd h (Nat.not_lt_zero _)
 | f+1,f'+1,[],_,_=>rfl
 | f+1,f'+1,t :: q,h,h'=>by
  unfold attF
  have:(q.drop (vals false q).length).length≤q.length:=by rw [List.length_drop]; omega
  simp only [List.length_cons] at h h'
  rw [attF_fuel f f' _ (by omega) (by omega)]
theorem attF_le:∀ (f:Nat) (r:List GTk),(attF f r).2≤r.length
 | 0,_=>by simp [attF]
 | f+1,[]=>by simp [attF]
 | f+1,t :: q=>by
  have h1:=attF_le f (q.drop (vals false q).length)
  have h2:=while_bound q false
  rw [List.length_drop] at h1
  unfold attF
  split
  ·simp only [List.length_cons]; omega
  ·simp
theorem attF_len:∀ (f:Nat) (r:List GTk),(attF f r).1.length≤(attF f r).2
 | 0,_=>by simp [attF]
 | f+1,[]=>by simp [attF]
 | f+1,t :: q=>by
  have h1:=attF_len f (q.drop (vals false q).length)
  unfold attF
  split
  ·simp only [List.length_cons]; omega
  ·simp
theorem p_attrs (n:Nat) (T:List GTk) (i:Nat) (len:Int) (a0:GPr) (hT:T.length≤2100) (hi:i≤T.length) (hn:10000≤n) :
  loopN (fun recl38 (v:List (List PV) × List GTk × Int × Int × Int × List UInt8 × Int × Int)=>g_p_reader_item_l38 n a0 recl38 v.1 v.2.1 v.2.2.1 v.2.2.2.1 v.2.2.2.2.1 v.2.2.2.2.2.1 v.2.2.2.2.2.2.1 v.2.2.2.2.2.2.2) n ([],T,(i:Int),len,(pk len (T.drop i)).Kind,(pk len (T.drop i)).Text,(pk len (T.drop i)).N,(pk len (T.drop i)).At)=some ((attF (T.length - i+1) (T.drop i)).1,T,((i+(attF (T.length - i+1) (T.drop i)).2:Nat):Int),len):=by
 refine att_gen T len hT _ ?_ T.length n i _ [] (by omega) (by omega) hi (by simp) (by omega)
 intro rec acc i t ha hi
 show g_p_reader_item_l38 n a0 rec acc T (i:Int) len t.Kind t.Text t.N t.At=_
 by_cases hc:t.Kind=1∧attB t.Text=true
 rotate_left
 ·rw [if_neg hc]
  unfold g_p_reader_item_l38
  simp only [eqI_d,p_isAttr,obs,cond_some]
  have:(bif decide (t.Kind=1) then attB t.Text else false)=false:=by
   by_cases a:t.Kind=1
   ·cases hb:attB t.Text
    ·simp
    ·exact absurd ⟨a,hb⟩ hc
   ·rw [dzF a]; rfl
  rw [this,cond_false]
 rw [if_pos hc]
 by_cases hlt:i < T.length
 rotate_left
 ·rw [if_neg hlt]
 rw [if_pos hlt]
 unfold g_p_reader_item_l38
 simp only [eqI_d,p_isAttr,obs,cond_some]
 rw [dzT hc.1,hc.2,cond_true,cond_true,wi_id (x:=(i:Int)+1) (by omega) (by omega),show ((i:Int)+1)=((i+1:Nat):Int) from by omega,p_values n T (i+1) len [] hT (by omega) hn,obs]
 have hvl:=while_bound (T.drop (i+1)) false
 rw [List.length_drop] at hvl
 have hv:(T.drop (i+1)).takeWhile (okV false)=vals false (T.drop (i+1)):=rfl
 rw [hv]
 generalize vals false (T.drop (i+1))=v at hvl ⊢
 have hroom:roomB (List.length (v.map vcs)) 64=true:=by simp [roomB]; omega
 have hroom2:∀ x:List PV,roomB (List.length (acc++[x])) 64=true:=by intro x; simp [roomB]; omega
 simp only [hroom,hroom2,cond_true,obs,List.nil_append,p_peek2]
theorem p_attrs9 (n:Nat) (T:List GTk) (i:Nat) (len:Int) (a0:GPr) (hT:T.length≤2100) (hi:i≤T.length) (hn:10000≤n) :
  loopN (fun recl9 (v:List (List PV) × List GTk × Int × Int × Int × List UInt8 × Int × Int)=>g_p_reader_item_l9 n a0 recl9 v.1 v.2.1 v.2.2.1 v.2.2.2.1 v.2.2.2.2.1 v.2.2.2.2.2.1 v.2.2.2.2.2.2.1 v.2.2.2.2.2.2.2) n ([],T,(i:Int),len,(pk len (T.drop i)).Kind,(pk len (T.drop i)).Text,(pk len (T.drop i)).N,(pk len (T.drop i)).At)=some ((attF (T.length - i+1) (T.drop i)).1,T,((i+(attF (T.length - i+1) (T.drop i)).2:Nat):Int),len):=by
 have e:∀ recl v1 v2 v3 v4 v5 v6 v7 v8,g_p_reader_item_l9 n a0 recl v1 v2 v3 v4 v5 v6 v7 v8=g_p_reader_item_l38 n a0 recl v1 v2 v3 v4 v5 v6 v7 v8:=fun _ _ _ _ _ _ _ _ _=>rfl
 simp only [e]
 exact p_attrs n T i len a0 hT hi hn
end Go.Proofs
namespace Go.Proofs
open Go Go.Abs
set_option maxRecDepth 100000
set_option linter.unusedVariables false
theorem bind_of {α β:Type} {o:Option α} {f:α→Option β} {x:α} {b:Option β} (h:o=some x) (h2:f x=b):o.bind f=b:=by
 rw [h]; exact h2
theorem p_full (n:Nat) (r:GPr):g_p_reader_full n r=some (decide (20≤r.diags.length)):=by
 unfold g_p_reader_full
 simp only [leI,lenI,List.length_map]
 rw [show decide ((20:Int)≤(r.diags.length:Int))=decide (20≤r.diags.length) from decide_eq_decide.2 (by omega)]
theorem p_item1 (n:Nat) (w:List UInt8):g_p_reader_item_1 n w=some (!decide (kinB w=0)):=by
 unfold g_p_reader_item_1
 simp only [p_kindOf,obs,eqI_d]
theorem take_b (t:GTk) (b:Bool):(bif decide (t.Kind=0) then true else !bif decide (t.Kind=1) then b else false)=!(decide (t.Kind=1)&&b):=by
 by_cases h:t.Kind=0
 ·rw [dzT h,dzF (show ¬ t.Kind=1 by omega)]; rfl
 ·rw [dzF h]
  cases decide (t.Kind=1) <;> rfl
theorem pu_lt {c:UInt8} {len:Int} {r:List GTk} {j:Nat} (h:isPu c (pk len (r.drop j))=true):j < r.length:=by
 apply Classical.byContradiction
 intro hn
 rw [List.drop_eq_nil_of_le (by omega)] at h
 exact absurd (of_decide_eq_true h).1 (by simp [pk,zTok])
theorem k1_lt {len:Int} {r:List GTk} {j:Nat} (h:(pk len (r.drop j)).Kind=1):j < r.length:=by
 apply Classical.byContradiction
 intro hn
 rw [List.drop_eq_nil_of_le (by omega)] at h
 exact absurd h (by simp [pk,zTok])
theorem artF_ok {len:Int} {r:List GTk} {x:GNode} {k:Nat} (h:artF len r=.ok (x,k)):2≤k∧k≤r.length:=by
 unfold artF at h
 split at h
 ·split at h
  ·rename_i h2
   simp only [Except.ok.injEq,Prod.mk.injEq] at h
   have:=pu_lt h2
   omega
  ·cases h
 ·cases h
theorem artF_err {len e:Int} {r:List GTk} {k:Nat} (h:artF len r=.error (e,k)):k≤r.length:=by
 unfold artF at h
 split at h
 ·rename_i h1
  have h0:0 < r.length:=k1_lt (j:=0) (len:=len) h1.1
  split at h
  ·cases h
  ·simp only [Except.error.injEq,Prod.mk.injEq] at h
   have:=while_bound (r.drop 1) true
   rw [List.length_drop] at this
   omega
 ·simp only [Except.error.injEq,Prod.mk.injEq] at h
  omega
theorem skip_pos {l:List GTk} (h:l ≠ []):1≤(skipF l).2:=by
 cases l with
 | nil=>exact absurd rfl h
 | cons t r=>rw [skip_cons]; split <;> simp
theorem skip_ne {l:List GTk} (h:(skipF l).1 ≠ []):l ≠ []:=by rintro rfl; exact h rfl
theorem arts_step (n:Nat) (T:List GTk) (len:Int) (pre:List (List PV)) (hT:T.length≤2100) (hp:pre.length≤2100) (hn:10000≤n)
  (rec:(List (List PV) × List GTk × Int × Int × List GDg)→Option (List (List PV) × List GTk × Int × Int × List GDg)) (acc:List (List PV)) (i:Nat) (ds:List GDg) (hi:i≤T.length) (ha:acc.length≤i) (hds:ds.length≤20) :
  g_p_reader_item_l20 n pre rec acc T (i:Int) len ds=if 20≤ds.length then some (pre++acc,T,(i:Int),len,ds) else if isPu 125 (pk len (T.drop i)) then some (pre++acc,T,((i+1:Nat):Int),len,ds) else match artF len (T.drop i) with
   | .ok (x,k)=>rec (acc++[GNode.cs x],T,((i+k:Nat):Int),len,ds)
   | .error (e,k)=>if (skipF ((T.drop i).drop k)).1 ≠ [59] then some (pre++acc,T,((i+(k+(skipF ((T.drop i).drop k)).2):Nat):Int),len,ds++[⟨7,e⟩]) else rec (acc,T,((i+(k+(skipF ((T.drop i).drop k)).2):Nat):Int),len,ds++[⟨7,e⟩]):=by
 have hroom:roomB (pre.length+acc.length) 64=true:=by simp [roomB]; omega
 have hroom1:roomB (acc.length+1) 64=true:=by simp [roomB]; omega
 have hroom2:roomB (ds.length+1) 16=true:=by simp [roomB]; omega
 unfold g_p_reader_item_l20 g_p_reader_item_j19
 simp only [p_full,obs,p_peek2,eqI_d,cond_some,pu_b,List.nil_append,List.append_nil,List.length_append,hroom,cond_true,List.length_singleton,hroom1,hroom2]
 by_cases hf:20≤ds.length
 ·rw [dzT hf,if_pos hf]; rfl
 rw [dzF hf,if_neg hf]
 simp only [Bool.not_false,cond_true]
 cases hb:isPu 125 (pk len (T.drop i))
 rotate_left
 ·simp only [cond_true,if_true]
  have:=pu_lt hb
  rw [wi_id (x:=(i:Int)+1) (by omega) (by omega)]
  rfl
 simp only [cond_false,Bool.false_eq_true,if_false]
 rw [p_article n T i len hT hi hn]
 cases hA:artF len (T.drop i) with
 | ok y =>
  obtain ⟨x,k⟩:=y
  simp only [obs,exc,cond_true]
 | error y =>
  obtain ⟨e,k⟩:=y
  have hk:=artF_err hA
  rw [List.length_drop] at hk
  simp only [obs,exc]
  rw [p_skip n T (i+k) len [] hT (by omega) hn]
  simp only [obs,cond_false]
  rw [drop_drop']
  generalize skipF ((T.drop i).drop k)=m
  rw [show i+k+m.2=i+(k+m.2) from by omega]
  by_cases h59:m.1=[59]
  ·rw [if_neg (by simpa using h59),show eqS m.1 [59]=true from by simp [eqS,h59]]; rfl
  ·rw [if_pos h59,show eqS m.1 [59]=false from by simp [eqS,h59]]; rfl
theorem arts_gen (n:Nat) (T:List GTk) (len:Int) (pre:List (List PV)) (hT:T.length≤2100) (hp:pre.length≤2100) (hn:10000≤n) :
  ∀ (j i f:Nat) (acc:List (List PV)) (ds:List GDg),T.length - i < j→i≤T.length→acc.length≤i→ds.length≤20→T.length - i < f →
   loopN (fun recl20 (v:List (List PV) × List GTk × Int × Int × List GDg)=>g_p_reader_item_l20 n pre recl20 v.1 v.2.1 v.2.2.1 v.2.2.2.1 v.2.2.2.2) j (acc,T,(i:Int),len,ds)=some (pre++(acc++(artsF f len ds (T.drop i)).1),T,((i+(artsF f len ds (T.drop i)).2.1:Nat):Int),len,(artsF f len ds (T.drop i)).2.2):=by
 intro j
 induction j with
 | zero=>intro i f acc ds h; omega
 | succ j ih =>
  intro i f acc ds h1 h2 h3 h4 h5
  obtain ⟨f,rfl⟩:∃ f',f=f'+1:=⟨f - 1,by omega⟩
  have e:artsF (f+1) len ds (T.drop i)=if 20≤ds.length then ([],0,ds) else if isPu 125 (pk len (T.drop i)) then ([],1,ds) else match artF len (T.drop i) with
   | .ok (x,k)=>let z:=artsF f len ds ((T.drop i).drop k); (GNode.cs x :: z.1,k+z.2.1,z.2.2)
   | .error (e,k)=>let m:=skipF ((T.drop i).drop k)
    if m.1 ≠ [59] then ([],k+m.2,ds++[⟨7,e⟩]) else
     let z:=artsF f len (ds++[⟨7,e⟩]) ((T.drop i).drop (k+m.2)); (z.1,k+m.2+z.2.1,z.2.2):=rfl
  unfold loopN
  generalize loopN (fun recl20 (v:List (List PV) × List GTk × Int × Int × List GDg)=>g_p_reader_item_l20 n pre recl20 v.1 v.2.1 v.2.2.1 v.2.2.2.1 v.2.2.2.2) j=L at ih ⊢
  show g_p_reader_item_l20 n pre L acc T (i:Int) len ds=_
  rw [arts_step n T len pre hT hp hn L acc i ds h2 h3 h4,e]
  by_cases hf:20≤ds.length
  ·simp [if_pos hf]
  rw [if_neg hf,if_neg hf]
  by_cases hb:isPu 125 (pk len (T.drop i))=true
  ·simp [if_pos hb]
  rw [if_neg hb,if_neg hb]
  cases hA:artF len (T.drop i) with
  | ok y =>
   obtain ⟨x,k⟩:=y
   have hk:=artF_ok hA
   rw [List.length_drop] at hk
   simp only
   rw [ih (i+k) f _ _ (by omega) (by omega) (by simp; omega) h4 (by omega),drop_drop']
   simp only [List.append_assoc,List.singleton_append]
   rw [show i+k+(artsF f len ds ((T.drop i).drop k)).2.1=i+(k+(artsF f len ds ((T.drop i).drop k)).2.1) from by omega]
  | error y =>
   obtain ⟨e,k⟩:=y
   have hk:=artF_err hA
   rw [List.length_drop] at hk
   simp only
   have hs:=skip_le ((T.drop i).drop k)
   rw [List.length_drop,List.length_drop] at hs
   by_cases h59:(skipF ((T.drop i).drop k)).1 ≠ [59]
   ·rw [if_pos h59,if_pos h59]; simp
   ·rw [if_neg h59,if_neg h59]
    have hne:=skip_pos (skip_ne (l:=(T.drop i).drop k) (by rw [Classical.not_not.1 h59]; simp))
    generalize skipF ((T.drop i).drop k)=m at hs hne
    rw [ih (i+(k+m.2)) f _ _ (by omega) (by omega) (by omega) (by simp; omega) (by omega),drop_drop']
    simp only
    rw [show i+(k+m.2)+(artsF f len (ds++[⟨7,e⟩]) ((T.drop i).drop (k+m.2))).2.1=i+(k+m.2+(artsF f len (ds++[⟨7,e⟩]) ((T.drop i).drop (k+m.2))).2.1) from by omega]
theorem artsF_le:∀ (f:Nat) (len:Int) (ds:List GDg) (r:List GTk),(artsF f len ds r).2.1≤r.length∧(artsF f len ds r).1.length≤(artsF f len ds r).2.1∧(ds.length≤20→(artsF f len ds r).2.2.length≤20)
 | 0,_,_,r=>by simp [artsF]
 | f+1,len,ds,r=>by
  have e:artsF (f+1) len ds r=if 20≤ds.length then ([],0,ds) else if isPu 125 (pk len r) then ([],1,ds) else match artF len r with
   | .ok (x,k)=>let z:=artsF f len ds (r.drop k); (GNode.cs x :: z.1,k+z.2.1,z.2.2)
   | .error (e,k)=>let m:=skipF (r.drop k)
    if m.1 ≠ [59] then ([],k+m.2,ds++[⟨7,e⟩]) else
     let z:=artsF f len (ds++[⟨7,e⟩]) (r.drop (k+m.2)); (z.1,k+m.2+z.2.1,z.2.2):=rfl
  rw [e]
  by_cases hf:20≤ds.length
  ·simp [if_pos hf]
  rw [if_neg hf]
  by_cases hb:isPu 125 (pk len r)=true
  ·have:0 < r.length:=pu_lt (j:=0) hb
   rw [if_pos hb]
   exact ⟨this,by simp,fun h=>h⟩
  rw [if_neg hb]
  cases hA:artF len r with
  | ok y =>
   obtain ⟨x,k⟩:=y
   have hk:=artF_ok hA
   have:=artsF_le f len ds (r.drop k)
   rw [List.length_drop] at this
   simp only [List.length_cons]
   omega
  | error y =>
   obtain ⟨e,k⟩:=y
   have hk:=artF_err hA
   simp only
   have hs:=skip_le (r.drop k)
   rw [List.length_drop] at hs
   generalize skipF (r.drop k)=m at hs
   by_cases h59:m.1 ≠ [59]
   ·rw [if_pos h59]; simp; omega
   ·rw [if_neg h59]
    have:=artsF_le f len (ds++[⟨7,e⟩]) (r.drop (k+m.2))
    rw [List.length_drop] at this
    simp only [List.length_append,List.length_singleton] at this ⊢
    omega
theorem p_item (n:Nat) (T:List GTk) (i:Nat) (len:Int) (ds:List GDg) (hT:T.length≤2100) (hi:i≤T.length) (hds:ds.length≤20) (hn:10000≤n) :
  g_p_reader_item n (⟨T,(i:Int),len,ds⟩:GPr)=some (match itemF len ds (T.drop i) with
   | .ok (x,k,ds')=>.ok (x,(⟨T,((i+k:Nat):Int),len,ds'⟩:GPr))
   | .error (e,k)=>.error (e,(⟨T,((i+k:Nat):Int),len,ds⟩:GPr))):=by
 unfold g_p_reader_item
 simp only [p_peek2,obs,eqI_d,p_item1,cond_some,take_b,p_fail2,exc]
 unfold itemF
 have e0:pk len (T.drop i)=pk len ((T.drop i).drop 0):=rfl
 by_cases h1:(pk len (T.drop i)).Kind=1∧kinB (pk len (T.drop i)).Text ≠ 0
 rotate_left
 ·rw [if_neg h1]
  have:(decide ((pk len (T.drop i)).Kind=1)&&!decide (kinB (pk len (T.drop i)).Text=0))=false:=by
   rw [Bool.eq_false_iff]
   intro h
   simp only [bae,decide_eq_true_eq,Bool.not_eq_true',decide_eq_false_iff_not] at h
   exact h1 h
  rw [this]
  rfl
 rw [if_pos h1]
 have hl1:i < T.length:=by
  have:=k1_lt (len:=len) (r:=T) (j:=i) h1.1
  exact this
 have:(decide ((pk len (T.drop i)).Kind=1)&&!decide (kinB (pk len (T.drop i)).Text=0))=true:=by
  rw [dzT h1.1,dzF h1.2]; rfl
 rw [this]
 simp only [Bool.not_true,cond_false]
 unfold g_p_reader_item_j2
 simp only
 rw [wi_id (x:=(i:Int)+1) (by omega) (by omega),show ((i:Int)+1)=((i+1:Nat):Int) from by omega]
 simp only [p_peek2,obs,eqI_d,p_notKey,cond_some,take_b,p_fail2,exc]
 rw [show T.drop (i+1)=(T.drop i).drop 1 from drop_drop' ..]
 by_cases h2:(pk len ((T.drop i).drop 1)).Kind=1∧keyB (pk len ((T.drop i).drop 1)).Text=false
 rotate_left
 ·rw [if_neg h2]
  have:(decide ((pk len ((T.drop i).drop 1)).Kind=1)&&!keyB (pk len ((T.drop i).drop 1)).Text)=false:=by
   rw [Bool.eq_false_iff]
   intro h
   simp only [bae,decide_eq_true_eq,Bool.not_eq_true'] at h
   exact h2 h
  rw [this]
  rfl
 rw [if_pos h2]
 have hl2:i+1 < T.length:=by
  have:=h2.1
  rw [← drop_drop'] at this
  exact k1_lt (len:=len) (r:=T) (j:=i+1) this
 have:(decide ((pk len ((T.drop i).drop 1)).Kind=1)&&!keyB (pk len ((T.drop i).drop 1)).Text)=true:=by
  rw [dzT h2.1,h2.2]; rfl
 rw [this]
 simp only [Bool.not_true,cond_false]
 unfold g_p_reader_item_j4
 simp only [p_kindOf,obs,eqI_d]
 rw [wi_id (x:=(i:Int)+1) (by omega) (by omega),show ((i:Int)+1)=((i+1:Nat):Int) from by omega,wi_id (x:=((i+1:Nat):Int)+1) (by omega) (by omega),show (((i+1:Nat):Int)+1)=((i+2:Nat):Int) from by omega]
 have hat:=p_attrs n T (i+2) len ⟨T,(i:Int),len,ds⟩ hT (by omega) hn
 have hat9:=p_attrs9 n T (i+2) len ⟨T,(i:Int),len,ds⟩ hT (by omega) hn
 have hl:(T.drop i).length=T.length - i:=List.length_drop
 have hF:attF (T.length - (i+2)+1) (T.drop (i+2))=attF ((T.drop i).length+1) ((T.drop i).drop 2):=by
  rw [← drop_drop',attF_fuel _ ((T.drop i).length+1) _ (by rw [List.length_drop]; omega) (by rw [List.length_drop]; omega)]
 rw [hF] at hat hat9
 have hal:(attF ((T.drop i).length+1) ((T.drop i).drop 2)).2≤T.length - i - 2:=Nat.le_trans (attF_le ..) (by rw [List.length_drop,hl]; omega)
 have hal2:=attF_len ((T.drop i).length+1) ((T.drop i).drop 2)
 generalize attF ((T.drop i).length+1) ((T.drop i).drop 2)=a at hat hat9 hal hal2 ⊢
 have hroom:roomB (List.length a.1) 64=true:=by simp [roomB]; omega
 by_cases h7:kinB (pk len (T.drop i)).Text=7
 ·rw [dzT h7,cond_true]
  simp only [p_peek2,obs]
  refine bind_of hat9 ?_
  show cond (roomB (List.length ([]++a.1)) 64) _ _=_
  rw [List.nil_append,hroom,cond_true]
  simp only [p_peek2,obs,cond_some,pu_b,pu_not,p_fail2,exc]
  rw [show T.drop (i+2+a.2)=(T.drop i).drop (2+a.2) from by rw [Nat.add_assoc,drop_drop']]
  rw [if_pos h7]
  cases hp:isPu 123 (pk len ((T.drop i).drop (2+a.2)))
  ·simp only [Bool.not_false,cond_true]
   rw [show i+2+a.2=i+(2+a.2) from by omega]
   simp
  ·have hlt:=pu_lt hp
   simp only [Bool.not_true,cond_false,if_true]
   unfold g_p_reader_item_j17
   simp only [List.nil_append,List.append_nil,hroom,cond_true]
   rw [wi_id (x:=((i+2+a.2:Nat):Int)+1) (by omega) (by omega),show (((i+2+a.2:Nat):Int)+1)=((i+(3+a.2):Nat):Int) from by omega]
   have hg:=arts_gen n T len a.1 hT (by omega) hn n (i+(3+a.2)) ((T.drop i).length+1) [] ds (by omega) (by omega) (by simp) hds (by omega)
   refine bind_of hg ?_
   show g_p_reader_item_j6 _ _ _ _ _ _ _ _=_
   unfold g_p_reader_item_j6
   rw [List.nil_append,drop_drop',h7]
   generalize artsF ((T.drop i).length+1) len ds ((T.drop i).drop (3+a.2))=z
   rw [show i+(3+a.2)+z.2.1=i+(3+a.2+z.2.1) from by omega]
 ·rw [dzF h7,cond_false]
  simp only [p_peek2,obs]
  refine bind_of hat ?_
  show cond (roomB (List.length ([]++a.1)) 64) _ _=_
  rw [List.nil_append,hroom,cond_true]
  simp only [p_peek2,obs,cond_some,pu_b,pu_not,p_fail2,exc]
  rw [show T.drop (i+2+a.2)=(T.drop i).drop (2+a.2) from by rw [Nat.add_assoc,drop_drop']]
  rw [if_neg h7]
  cases hp:isPu 59 (pk len ((T.drop i).drop (2+a.2)))
  ·simp only [Bool.not_false,cond_true]
   rw [show i+2+a.2=i+(2+a.2) from by omega]
   simp
  ·have hlt:=pu_lt hp
   simp only [Bool.not_true,cond_false,if_true]
   unfold g_p_reader_item_j46 g_p_reader_item_j35
   simp only [List.nil_append,List.append_nil,hroom,cond_true]
   rw [wi_id (x:=((i+2+a.2:Nat):Int)+1) (by omega) (by omega),show (((i+2+a.2:Nat):Int)+1)=((i+(3+a.2):Nat):Int) from by omega]
end Go.Proofs
namespace Go.Proofs
open Go Go.Abs
set_option maxRecDepth 100000
set_option linter.unusedVariables false
theorem whl_app {α:Type} {p:α→Bool}:∀ (a r:List α),(∀ x ∈ a,p x=true)→(∀ d ∈ r.head?,p d=false)→(a++r).takeWhile p=a
 | [],r,_,hr=>by
  cases r with
  | nil=>rfl
  | cons d r=>simp [hr d rfl]
 | c :: a,r,h,hr=>by
  have h1:=h c (by simp)
  simp [h1,whl_app a r (fun x hx=>h x (by simp [hx])) hr]
theorem whl_all {α:Type} {p:α→Bool} (l:List α):∀ x ∈ l.takeWhile p,p x=true:=by
 induction l with
 | nil=>intro x hx; cases hx
 | cons c r ih =>
  intro x hx
  rw [List.takeWhile_cons] at hx
  split at hx
  ·rename_i h
   rcases List.mem_cons.1 hx with rfl | hx
   ·exact h
   ·exact ih x hx
  ·cases hx
theorem whl_split {α:Type} {p:α→Bool} (l:List α):l=l.takeWhile p++l.drop (l.takeWhile p).length:=by
 induction l with
 | nil=>rfl
 | cons c r ih =>
  rw [List.takeWhile_cons]
  split
  ·simp only [List.cons_append,List.length_cons,List.drop_succ_cons,List.cons.injEq,true_and]; exact ih
  ·rfl
inductive ArtT:List GTk→GNode→Prop
 | mk {t e:GTk} {v:List GTk}:t.Kind=1→arkB t.Text=true→(∀ x ∈ v,okV true x=true)→isPu 59 e=true→ArtT (t :: (v++[e])) ⟨4,t.Text,0,t.At,v.map vcs⟩
inductive Atts:List GTk→List (List PV)→Prop
 | nil:Atts [] []
 | cons {t:GTk} {v r:List GTk} {xs:List (List PV)}:t.Kind=1→attB t.Text=true→(∀ x ∈ v,okV false x=true)→Atts r xs→Atts (t :: (v++r)) (GNode.cs ⟨3,t.Text,0,t.At,v.map vcs⟩ :: xs)
inductive Arts:List GTk→List (List PV)→Prop
 | nil {e:GTk}:isPu 125 e=true→Arts [e] []
 | cons {a r:List GTk} {x:GNode} {xs:List (List PV)}:ArtT a x→Arts r xs→Arts (a++r) (GNode.cs x :: xs)
inductive ItemT:List GTk→GNode→Prop
 | plain {t m e:GTk} {a:List GTk} {xs:List (List PV)}:t.Kind=1→kinB t.Text ≠ 0→kinB t.Text ≠ 7→m.Kind=1→keyB m.Text=false→Atts a xs→isPu 59 e=true→ItemT (t :: m :: (a++[e])) ⟨2,m.Text,kinB t.Text,t.At,xs⟩
 | tariff {t m e:GTk} {a b:List GTk} {xs ys:List (List PV)}:t.Kind=1→kinB t.Text=7→m.Kind=1→keyB m.Text=false→Atts a xs→isPu 123 e=true→Arts b ys→ItemT (t :: m :: (a++e :: b)) ⟨2,m.Text,7,t.At,xs++ys⟩
inductive Items:List GTk→List (List PV)→Prop
 | nil:Items [] []
 | cons {a r:List GTk} {x:GNode} {xs:List (List PV)}:ItemT a x→Items r xs→Items (a++r) (GNode.cs x :: xs)
theorem pu_kind {c:UInt8} {t:GTk} (h:isPu c t=true):t.Kind=3∧t.Text=[c]:=of_decide_eq_true h
theorem pu_ok {c:UInt8} {t:GTk} (h:isPu c t=true) (w:Bool):okV w t=false:=by
 have:=(pu_kind h).1
 simp [okV,this]
theorem att_key {t:GTk} (h:attB t.Text=true):keyB t.Text=true:=by rw [key_split,h]; simp
theorem att_ok {t:GTk} (h1:t.Kind=1) (h:attB t.Text=true):okV false t=false:=by
 simp [okV,h1,att_key h]
theorem pk_cons (len:Int) (t:GTk) (r:List GTk):pk len (t :: r)=t:=rfl
theorem drop_len {α:Type} (a b:List α) (k:Nat) (h:k=a.length):(a++b).drop k=b:=by subst h; exact List.drop_left
theorem artF_A {a:List GTk} {x:GNode} (h:ArtT a x) (len:Int) (q:List GTk):artF len (a++q)=.ok (x,a.length):=by
 cases h with
 | @mk t e v h1 h2 h3 h4 =>
  have hv:vals true (v++(e :: q))=v:=whl_app _ _ h3 fun d hd=>by
   simp only [List.head?_cons,Option.mem_def,sie] at hd
   subst hd; exact pu_ok h4 true
  unfold artF
  simp only [List.cons_append,List.append_assoc,List.nil_append,pk_cons,List.drop_succ_cons,List.drop_zero]
  rw [if_pos ⟨h1,h2⟩,hv,Nat.add_comm 1,List.drop_succ_cons,drop_len v _ _ rfl,pk_cons,if_pos h4]
  simp only [List.length_cons,List.length_append,List.length_nil]
  rw [show 2+v.length=v.length+(0+1)+1 from by omega]
theorem artF_B {len:Int} {r:List GTk} {x:GNode} {k:Nat} (h:artF len r=.ok (x,k)):∃ a q,r=a++q∧a.length=k∧ArtT a x:=by
 unfold artF at h
 split at h
 ·rename_i h1
  split at h
  ·rename_i h2
   simp only [Except.ok.injEq,Prod.mk.injEq] at h
   obtain ⟨rfl,rfl⟩:=h
   have h0:0 < r.length:=k1_lt (j:=0) (len:=len) h1.1
   cases r with
   | nil=>exact absurd h0 (by simp)
   | cons t r =>
    simp only [pk_cons,List.drop_succ_cons,List.drop_zero] at h1 h2 ⊢
    rw [Nat.add_comm 1,List.drop_succ_cons] at h2
    have hs:=whl_split (p:=okV true) r
    have ha:=whl_all (p:=okV true) r
    unfold vals at h2 ⊢
    generalize r.takeWhile (okV true)=v at hs ha h2 ⊢
    cases hq:r.drop v.length with
    | nil=>rw [hq] at h2; exact absurd (pu_kind h2).1 (by simp [pk,zTok])
    | cons e q =>
     rw [hq,pk_cons] at h2
     rw [hq] at hs
     refine ⟨t :: (v++[e]),q,by rw [hs]; simp,by simp; omega, .mk h1.1 h1.2 ha h2⟩
  ·cases h
 ·cases h
theorem atts_head {l:List GTk} {xs:List (List PV)} (h:Atts l xs) (q:List GTk) (hq:∀ d ∈ q.head?,okV false d=false):∀ d ∈ (l++q).head?,okV false d=false:=by
 cases h with
 | nil=>exact hq
 | cons h1 h2 _ _ =>
  intro d hd
  simp only [List.cons_append,List.head?_cons,Option.mem_def,sie] at hd
  subst hd; exact att_ok h1 h2
theorem attF_A {l:List GTk} {xs:List (List PV)} (h:Atts l xs):∀ (f:Nat) (q:List GTk),(l++q).length < f→(∀ d ∈ q.head?,okV false d=false∧¬ (d.Kind=1∧attB d.Text=true))→attF f (l++q)=(xs,l.length):=by
 induction h with
 | nil =>
  intro f q hf hq
  obtain ⟨f,rfl⟩:∃ f',f=f'+1:=⟨f - 1,by omega⟩
  cases q with
  | nil=>rfl
  | cons d q =>
   have:=(hq d rfl).2
   rw [List.nil_append]
   unfold attF
   rw [if_neg this]
   rfl
 | @cons t v r xs h1 h2 h3 h4 ih =>
  intro f q hf hq
  obtain ⟨f,rfl⟩:∃ f',f=f'+1:=⟨f - 1,by omega⟩
  have hv:vals false (v++(r++q))=v:=whl_app _ _ h3 (atts_head h4 q fun d hd=>(hq d hd).1)
  simp only [List.cons_append,List.append_assoc,List.length_cons,List.length_append] at hf ⊢
  have e:∀ f t q,attF (f+1) (t :: q)=if t.Kind=1∧attB t.Text=true then
   (GNode.cs ⟨3,t.Text,0,t.At,(vals false q).map vcs⟩ :: (attF f (q.drop (vals false q).length)).1,1+(vals false q).length+(attF f (q.drop (vals false q).length)).2)
   else ([],0):=fun _ _ _=>rfl
  rw [e,if_pos ⟨h1,h2⟩,hv,drop_len v _ _ rfl,ih f q (by simp only [List.length_append]; omega) hq]
  simp only
  rw [show 1+v.length+r.length=v.length+r.length+1 from by omega]
theorem attF_B:∀ (f:Nat) (r:List GTk),r.length < f→∃ a q,r=a++q∧a.length=(attF f r).2∧Atts a (attF f r).1∧∀ d ∈ q.head?,¬ (d.Kind=1∧attB d.Text=true)
 | 0,_,h=>absurd h (Nat.not_lt_zero _)
 | f+1,[],_=>⟨[],[],rfl,rfl, .nil,fun d hd=>by cases hd⟩
 | f+1,t :: r,hf=>by
  have e:attF (f+1) (t :: r)=if t.Kind=1∧attB t.Text=true then
   (GNode.cs ⟨3,t.Text,0,t.At,(vals false r).map vcs⟩ :: (attF f (r.drop (vals false r).length)).1,1+(vals false r).length+(attF f (r.drop (vals false r).length)).2)
   else ([],0):=rfl
  rw [e]
  simp only [List.length_cons] at hf
  by_cases h:t.Kind=1∧attB t.Text=true
  ·rw [if_pos h]
   have hs:=whl_split (p:=okV false) r
   have ha:=whl_all (p:=okV false) r
   unfold vals
   generalize r.takeWhile (okV false)=v at hs ha ⊢
   obtain ⟨a,q,e1,e2,e3,e4⟩:=attF_B f (r.drop v.length) (by rw [List.length_drop]; omega)
   refine ⟨t :: (v++a),q,?_,?_, .cons h.1 h.2 ha e3,e4⟩
   ·rw [hs,e1]; simp
   ·simp only [List.length_cons,List.length_append,e2]; omega
  ·rw [if_neg h]
   exact ⟨[],t :: r,rfl,rfl, .nil,fun d hd=>by simp only [List.head?_cons,Option.mem_def,sie] at hd; subst hd; exact h⟩
theorem artsF_e (f:Nat) (len:Int) (ds:List GDg) (r:List GTk):artsF (f+1) len ds r=if 20≤ds.length then ([],0,ds) else if isPu 125 (pk len r) then ([],1,ds) else match artF len r with
      | .ok (x,k)=>let z:=artsF f len ds (r.drop k); (GNode.cs x :: z.1,k+z.2.1,z.2.2)
      | .error (e,k)=>let m:=skipF (r.drop k)
        if m.1 ≠ [59] then ([],k+m.2,ds++[⟨7,e⟩]) else
          let z:=artsF f len (ds++[⟨7,e⟩]) (r.drop (k+m.2)); (z.1,k+m.2+z.2.1,z.2.2):=rfl
theorem art_head {a:List GTk} {x:GNode} (h:ArtT a x) (len:Int) (q:List GTk):isPu 125 (pk len (a++q))=false:=by
 cases h with
 | mk h1 h2 h3 h4=>exact dzF (by rintro ⟨h,_⟩; rw [List.cons_append,pk_cons] at h; omega)
theorem artsF_A {l:List GTk} {xs:List (List PV)} (h:Arts l xs):∀ (f:Nat) (len:Int) (ds:List GDg) (q:List GTk),(l++q).length < f→ds.length < 20→artsF f len ds (l++q)=(xs,l.length,ds):=by
 induction h with
 | nil he =>
  intro f len ds q hf hd
  obtain ⟨f,rfl⟩:∃ f',f=f'+1:=⟨f - 1,by omega⟩
  rw [artsF_e,if_neg (by omega),List.singleton_append,pk_cons,if_pos he]
  rfl
 | @cons a r x xs ha h ih =>
  intro f len ds q hf hd
  obtain ⟨f,rfl⟩:∃ f',f=f'+1:=⟨f - 1,by omega⟩
  have hp:=art_head ha len (r++q)
  have hpos:0 < a.length:=by cases ha; simp
  simp only [List.append_assoc,List.length_append] at hf ⊢
  rw [artsF_e,if_neg (by omega),hp,artF_A ha]
  simp only [Bool.false_eq_true,if_false]
  rw [drop_len a _ _ rfl,ih f len ds q (by simp only [List.length_append]; omega) hd]
theorem artsF_mono:∀ (f:Nat) (len:Int) (ds:List GDg) (r:List GTk),ds.length≤(artsF f len ds r).2.2.length
 | 0,_,_,r=>by simp [artsF]
 | f+1,len,ds,r=>by
  rw [artsF_e]
  split
  ·exact Nat.le_refl _
  split
  ·exact Nat.le_refl _
  split
  ·exact artsF_mono f len ds _
  ·simp only
   split
   ·simp
   ·refine Nat.le_trans ?_ (artsF_mono f len _ _)
    simp
theorem artsF_pre:∀ (f:Nat) (len:Int) (ds:List GDg) (r:List GTk),∃ es,(artsF f len ds r).2.2=ds++es
 | 0,_,_,r=>⟨[],by simp [artsF]⟩
 | f+1,len,ds,r=>by
  rw [artsF_e]
  split
  ·exact ⟨[],by simp⟩
  split
  ·exact ⟨[],by simp⟩
  split
  ·exact artsF_pre f len ds _
  ·rename_i e k _
   simp only
   split
   ·exact ⟨[⟨7,e⟩],rfl⟩
   ·obtain ⟨es,h⟩:=artsF_pre f len (ds++[(⟨7,e⟩:GDg)]) (r.drop (k+(skipF (r.drop k)).2))
    exact ⟨⟨7,e⟩ :: es,by rw [h]; simp⟩
theorem itemF_pre {len:Int} {ds ds':List GDg} {r:List GTk} {x:GNode} {k:Nat} (h:itemF len ds r=.ok (x,k,ds')):∃ es,ds'=ds++es:=by
 unfold itemF at h
 split at h
 rotate_left
 ·cases h
 split at h
 rotate_left
 ·cases h
 simp only at h
 generalize attF (r.length+1) (r.drop 2)=A at h
 split at h
 ·split at h
  rotate_left
  ·cases h
  simp only [Except.ok.injEq,Prod.mk.injEq] at h
  obtain ⟨rfl,rfl,rfl⟩:=h
  exact artsF_pre _ _ _ _
 ·split at h
  rotate_left
  ·cases h
  simp only [Except.ok.injEq,Prod.mk.injEq] at h
  obtain ⟨rfl,rfl,rfl⟩:=h
  exact ⟨[],by simp⟩
theorem itemF_ds {len:Int} {ds ds':List GDg} {r:List GTk} {x:GNode} {k:Nat} (h:itemF len ds r=.ok (x,k,ds')) (hl:ds'.length≤ds.length):ds'=ds:=by
 obtain ⟨es,rfl⟩:=itemF_pre h
 rw [List.length_append] at hl
 have:es=[]:=List.eq_nil_of_length_eq_zero (by omega)
 rw [this,List.append_nil]
theorem artsF_B:∀ (f:Nat) (len:Int) (ds:List GDg) (r:List GTk),r.length < f→ds.length < 20→(artsF f len ds r).2.2=ds→∃ a q,r=a++q∧a.length=(artsF f len ds r).2.1∧Arts a (artsF f len ds r).1
 | 0,_,_,_,h,_,_=>absurd h (Nat.not_lt_zero _)
 | f+1,len,ds,r,hf,hd,he=>by
  rw [artsF_e] at he ⊢
  rw [if_neg (by omega)] at he ⊢
  by_cases hb:isPu 125 (pk len r)=true
  ·rw [if_pos hb]
   have:0 < r.length:=pu_lt (j:=0) hb
   cases r with
   | nil=>exact absurd this (by simp)
   | cons t q=>exact ⟨[t],q,rfl,rfl, .nil hb⟩
  rw [if_neg hb] at he ⊢
  cases hA:artF len r with
  | ok y =>
   obtain ⟨x,k⟩:=y
   rw [hA] at he
   simp only at he ⊢
   obtain ⟨a,q,rfl,rfl,ha⟩:=artF_B hA
   have hpos:0 < a.length:=by cases ha; simp
   rw [drop_len a _ _ rfl] at he ⊢
   simp only [List.length_append] at hf
   obtain ⟨b,q',e1,e2,e3⟩:=artsF_B f len ds q (by omega) hd he
   exact ⟨a++b,q',by rw [e1]; simp,by rw [List.length_append,e2], .cons ha e3⟩
  | error y =>
   obtain ⟨e,k⟩:=y
   rw [hA] at he
   simp only at he
   exfalso
   split at he
   ·have:=congrArg List.length he
    simp at this
   ·have:=artsF_mono f len (ds++[(⟨7,e⟩:GDg)]) (r.drop (k+(skipF (r.drop k)).2))
    rw [he] at this
    simp at this
    omega
theorem itemF_A {a:List GTk} {x:GNode} (h:ItemT a x) (len:Int) (ds:List GDg) (q:List GTk) (hd:ds.length < 20):itemF len ds (a++q)=.ok (x,a.length,ds):=by
 cases h with
 | @plain t m e a xs h1 h2 h3 h4 h5 h6 h7 =>
  have he:∀ d ∈ (e :: q).head?,okV false d=false∧¬ (d.Kind=1∧attB d.Text=true):=by
   intro d hd
   simp only [List.head?_cons,Option.mem_def,sie] at hd
   subst hd
   exact ⟨pu_ok h7 false,fun h=>by have:=(pu_kind h7).1; omega⟩
  unfold itemF
  simp only [List.cons_append,List.append_assoc,List.nil_append,pk_cons,List.drop_succ_cons,List.drop_zero,List.length_cons]
  rw [if_pos ⟨h1,h2⟩,if_pos ⟨h4,h5⟩,attF_A h6 _ (e :: q) (by omega) he,if_neg h3]
  simp only
  rw [Nat.add_comm 2,List.drop_succ_cons,List.drop_succ_cons,drop_len a _ _ rfl,pk_cons,if_pos h7]
  simp only [List.length_append,List.length_cons,List.length_nil]
  rw [show 3+a.length=a.length+(0+1)+1+1 from by omega]
 | @tariff t m e a b xs ys h1 h2 h4 h5 h6 h7 h8 =>
  have he:∀ d ∈ (e :: (b++q)).head?,okV false d=false∧¬ (d.Kind=1∧attB d.Text=true):=by
   intro d hd
   simp only [List.head?_cons,Option.mem_def,sie] at hd
   subst hd
   exact ⟨pu_ok h7 false,fun h=>by have:=(pu_kind h7).1; omega⟩
  unfold itemF
  simp only [List.cons_append,List.append_assoc,pk_cons,List.drop_succ_cons,List.drop_zero,List.length_cons]
  rw [if_pos ⟨h1,by omega⟩,if_pos ⟨h4,h5⟩,attF_A h6 _ (e :: (b++q)) (by omega) he,if_pos h2]
  simp only
  rw [Nat.add_comm 2,List.drop_succ_cons,List.drop_succ_cons,drop_len a _ _ rfl,pk_cons,if_pos h7,show 3+a.length=a.length+1+2 from by omega,List.drop_succ_cons,List.drop_succ_cons,← List.drop_drop,drop_len a _ _ rfl,List.drop_succ_cons,List.drop_zero,artsF_A h8 _ len ds q (by simp only [List.length_append,List.length_cons]; omega) hd]
  simp only [List.length_append,List.length_cons]
  rw [show a.length+1+2+b.length=a.length+(b.length+1)+1+1 from by omega]
theorem itemF_B {len:Int} {ds:List GDg} {r:List GTk} {x:GNode} {k:Nat} (hd:ds.length < 20) (h:itemF len ds r=.ok (x,k,ds)):∃ a q,r=a++q∧a.length=k∧ItemT a x:=by
 unfold itemF at h
 split at h
 rotate_left
 ·cases h
 rename_i h1
 split at h
 rotate_left
 ·cases h
 rename_i h2
 have hl2:1 < r.length:=k1_lt (len:=len) (j:=1) h2.1
 obtain ⟨t,m,r,rfl⟩:∃ t m r',r=t :: m :: r':=by
  cases r with
  | nil=>simp at hl2
  | cons t r =>
   cases r with
   | nil=>simp at hl2
   | cons m r=>exact ⟨t,m,r,rfl⟩
 simp only [pk_cons,List.drop_succ_cons,List.drop_zero] at h1 h2 h
 obtain ⟨a,q,e1,e2,e3,e4⟩:=attF_B ((t :: m :: r).length+1) r (by simp only [List.length_cons]; omega)
 generalize attF ((t :: m :: r).length+1) r=A at e2 e3 h
 subst e1
 rw [← e2] at h
 rw [show (t :: m :: (a++q)).drop (2+a.length)=q from by rw [Nat.add_comm 2,List.drop_succ_cons,List.drop_succ_cons,drop_len a _ _ rfl],show (t :: m :: (a++q)).drop (3+a.length)=q.drop 1 from by rw [show 3+a.length=a.length+1+2 from by omega,List.drop_succ_cons,List.drop_succ_cons,← List.drop_drop,drop_len a _ _ rfl]] at h
 split at h
 ·rename_i h7
  split at h
  rotate_left
  ·cases h
  rename_i hp
  have hq:0 < q.length:=pu_lt (j:=0) hp
  cases q with
  | nil=>simp at hq
  | cons e q =>
   rw [pk_cons] at hp
   simp only [List.drop_succ_cons,List.drop_zero,Except.ok.injEq,Prod.mk.injEq] at h
   obtain ⟨rfl,rfl,h3⟩:=h
   obtain ⟨b,q',f1,f2,f3⟩:=artsF_B _ len ds q (by simp only [List.length_cons,List.length_append]; omega) hd h3
   generalize artsF ((t :: m :: (a++e :: q)).length+1) len ds q=Z at f2 f3
   refine ⟨t :: m :: (a++e :: b),q',by rw [f1]; simp,?_, .tariff h1.1 h7 h2.1 h2.2 e3 hp f3⟩
   simp only [List.length_cons,List.length_append,← f2]
   omega
 ·rename_i h7
  split at h
  rotate_left
  ·cases h
  rename_i hp
  have hq:0 < q.length:=pu_lt (j:=0) hp
  cases q with
  | nil=>simp at hq
  | cons e q =>
   rw [pk_cons] at hp
   simp only [Except.ok.injEq,Prod.mk.injEq] at h
   obtain ⟨rfl,rfl,_⟩:=h
   refine ⟨t :: m :: (a++[e]),q,by simp,?_, .plain h1.1 h1.2 h7 h2.1 h2.2 e3 hp⟩
   simp only [List.length_cons,List.length_append,List.length_nil]
   omega
theorem itemsF_e (f:Nat) (len:Int) (ds:List GDg) (r:List GTk):itemsF (f+1) len ds r=if r=[]∨20≤ds.length then ([],ds) else match itemF len ds r with
  | .ok (x,k,ds')=>let z:=itemsF f len ds' (r.drop k); (GNode.cs x :: z.1,z.2)
  | .error (e,k)=>itemsF f len (ds++[⟨7,e⟩]) (r.drop (k+(skipF (r.drop k)).2)):=rfl
theorem itemF_ok {len:Int} {ds ds':List GDg} {r:List GTk} {x:GNode} {k:Nat} (h:itemF len ds r=.ok (x,k,ds')):3≤k∧k≤r.length∧ds.length≤ds'.length∧(ds.length≤20→ds'.length≤20):=by
 unfold itemF at h
 split at h
 rotate_left
 ·cases h
 split at h
 rotate_left
 ·cases h
 have hal:=attF_le (r.length+1) (r.drop 2)
 rw [List.length_drop] at hal
 simp only at h
 generalize attF (r.length+1) (r.drop 2)=A at hal h
 split at h
 ·split at h
  rotate_left
  ·cases h
  rename_i hp
  have:=pu_lt hp
  simp only [Except.ok.injEq,Prod.mk.injEq] at h
  obtain ⟨rfl,rfl,rfl⟩:=h
  have hz:=artsF_le (r.length+1) len ds (r.drop (3+A.2))
  have hm:=artsF_mono (r.length+1) len ds (r.drop (3+A.2))
  rw [List.length_drop] at hz
  omega
 ·split at h
  rotate_left
  ·cases h
  rename_i hp
  have:=pu_lt hp
  simp only [Except.ok.injEq,Prod.mk.injEq] at h
  obtain ⟨rfl,rfl,rfl⟩:=h
  omega
theorem itemF_err {len e:Int} {ds:List GDg} {r:List GTk} {k:Nat} (h:itemF len ds r=.error (e,k)):k≤r.length∧e=(pk len (r.drop k)).At:=by
 unfold itemF at h
 split at h
 rotate_left
 ·simp only [Except.error.injEq,Prod.mk.injEq] at h
  obtain ⟨rfl,rfl⟩:=h
  exact ⟨by omega,rfl⟩
 rename_i h1
 have h0:0 < r.length:=k1_lt (len:=len) (j:=0) h1.1
 split at h
 rotate_left
 ·simp only [Except.error.injEq,Prod.mk.injEq] at h
  obtain ⟨rfl,rfl⟩:=h
  exact ⟨by omega,rfl⟩
 rename_i h2
 have hl2:1 < r.length:=k1_lt (len:=len) (j:=1) h2.1
 have hal:=attF_le (r.length+1) (r.drop 2)
 rw [List.length_drop] at hal
 simp only at h
 generalize attF (r.length+1) (r.drop 2)=A at hal h
 split at h
 ·split at h
  ·cases h
  ·simp only [Except.error.injEq,Prod.mk.injEq] at h
   obtain ⟨rfl,rfl⟩:=h
   exact ⟨by omega,rfl⟩
 ·split at h
  ·cases h
  ·simp only [Except.error.injEq,Prod.mk.injEq] at h
   obtain ⟨rfl,rfl⟩:=h
   exact ⟨by omega,rfl⟩
theorem itemsF_fuel:∀ (f f':Nat) (len:Int) (ds:List GDg) (r:List GTk),r.length < f→r.length < f'→itemsF f len ds r=itemsF f' len ds r
 | 0,_,_,_,_,h,_=>absurd h (Nat.not_lt_zero _)
 | _,0,_,_,_,_,h=>absurd h (Nat.not_lt_zero _)
 | f+1,f'+1,len,ds,r,h,h'=>by
  rw [itemsF_e,itemsF_e]
  by_cases h0:r=[]∨20≤ds.length
  ·rw [if_pos h0,if_pos h0]
  rw [if_neg h0,if_neg h0]
  cases hI:itemF len ds r with
  | ok y =>
   obtain ⟨x,k,ds'⟩:=y
   have:=itemF_ok hI
   simp only
   rw [itemsF_fuel f f' len ds' (r.drop k) (by rw [List.length_drop]; omega) (by rw [List.length_drop]; omega)]
  | error y =>
   obtain ⟨e,k⟩:=y
   have:=itemF_err hI
   have h1:r ≠ []:=fun h=>h0 (.inl h)
   have h2:1≤k+(skipF (r.drop k)).2:=by
    cases k with
    | zero=>have:=skip_pos (l:=r.drop 0) h1; omega
    | succ k=>omega
   have h3:0 < r.length:=List.length_pos_iff.2 h1
   simp only
   exact itemsF_fuel f f' len _ _ (by rw [List.length_drop]; omega) (by rw [List.length_drop]; omega)
theorem itemsF_A {l:List GTk} {xs:List (List PV)} (h:Items l xs):∀ (f f':Nat) (len:Int) (ds:List GDg) (q:List GTk),(l++q).length < f→q.length < f'→ds.length < 20→itemsF f len ds (l++q)=(xs++(itemsF f' len ds q).1,(itemsF f' len ds q).2):=by
 induction h with
 | nil =>
  intro f f' len ds q hf hf' hd
  rw [List.nil_append,List.nil_append,itemsF_fuel f f' len ds q hf hf']
 | @cons a r x xs ha h ih =>
  intro f f' len ds q hf hf' hd
  obtain ⟨f,rfl⟩:∃ f',f=f'+1:=⟨f - 1,by omega⟩
  have hpos:0 < a.length:=by cases ha <;> simp
  simp only [List.append_assoc,List.length_append] at hf ⊢
  have hne:¬ (a++(r++q)=[]∨20≤ds.length):=by
   rintro (h | h)
   ·have:=congrArg List.length h
    simp only [List.length_append,List.length_nil] at this
    omega
   ·omega
  rw [itemsF_e,if_neg hne,itemF_A ha len ds (r++q) hd]
  simp only
  rw [drop_len a _ _ rfl,ih f f' len ds q (by simp only [List.length_append]; omega) hf' hd]
  simp
theorem itemsF_mono:∀ (f:Nat) (len:Int) (ds:List GDg) (r:List GTk),ds.length≤(itemsF f len ds r).2.length∧(ds.length≤20→(itemsF f len ds r).2.length≤20)
 | 0,_,_,r=>by simp [itemsF]
 | f+1,len,ds,r=>by
  rw [itemsF_e]
  split
  ·exact ⟨Nat.le_refl _,fun h=>h⟩
  rename_i h0
  cases hI:itemF len ds r with
  | ok y =>
   obtain ⟨x,k,ds'⟩:=y
   have:=itemF_ok hI
   have:=itemsF_mono f len ds' (r.drop k)
   simp only
   omega
  | error y =>
   obtain ⟨e,k⟩:=y
   have:=itemsF_mono f len (ds++[(⟨7,e⟩:GDg)]) (r.drop (k+(skipF (r.drop k)).2))
   simp only [List.length_append,List.length_singleton] at this ⊢
   omega
theorem itemsF_B:∀ (f:Nat) (len:Int) (ds:List GDg) (r:List GTk),r.length < f→ds.length < 20→(itemsF f len ds r).2=ds→Items r (itemsF f len ds r).1
 | 0,_,_,_,h,_,_=>absurd h (Nat.not_lt_zero _)
 | f+1,len,ds,r,hf,hd,he=>by
  rw [itemsF_e] at he ⊢
  by_cases h0:r=[]
  ·subst h0
   rw [if_pos (.inl rfl)]
   exact .nil
  have h0':¬ (r=[]∨20≤ds.length):=by
   rintro (h | h)
   ·exact h0 h
   ·omega
  rw [if_neg h0'] at he ⊢
  cases hI:itemF len ds r with
  | ok y =>
   obtain ⟨x,k,ds'⟩:=y
   rw [hI] at he
   simp only at he ⊢
   have h1:=itemF_ok hI
   have h2:=itemsF_mono f len ds' (r.drop k)
   rw [he] at h2
   obtain rfl:ds'=ds:=by
    have h3:=h1.2.2.1
    have h4:=h2.1
    exact itemF_ds hI (by omega)
   obtain ⟨a,q,rfl,rfl,ha⟩:=itemF_B hd hI
   have hpos:0 < a.length:=by omega
   rw [drop_len a _ _ rfl] at he ⊢
   simp only [List.length_append] at hf
   exact .cons ha (itemsF_B f len ds' q (by omega) hd he)
  | error y =>
   obtain ⟨e,k⟩:=y
   rw [hI] at he
   simp only at he
   exfalso
   have:=(itemsF_mono f len (ds++[(⟨7,e⟩:GDg)]) (r.drop (k+(skipF (r.drop k)).2))).1
   rw [he] at this
   simp at this
   omega
end Go.Proofs
namespace Go.Proofs
open Go Go.Abs
set_option maxRecDepth 100000
set_option linter.unusedVariables false
theorem lpN_s {V R:Type} (B:(V→Option R)→V→Option R) (n:Nat) (v:V):loopN B (n+1) v=B (loopN B n) v:=rfl
def treeP:Nat→GNode→Prop
 | 0,_=>False
 | d+1,x=>x.Kids.length≤10000∧(0≤x.At∧x.At≤100000)∧∀ k ∈ x.Kids,∃ y,GNode.of k=some y∧treeP d y
theorem treeP_s (d:Nat) (x:GNode):treeP (d+1) x=(x.Kids.length≤10000∧(0≤x.At∧x.At≤100000)∧∀ k ∈ x.Kids,∃ y,GNode.of k=some y∧treeP d y):=rfl
theorem kidP_at {d:Nat} {l:List (List PV)} (h:∀ k ∈ l,∃ y,GNode.of k=some y∧treeP d y) {i:Nat} (hi:i < l.length):∃ y,Option.bind (getI l (i:Int)) GNode.of=some y∧treeP d y∧GNode.of (l[i]'hi)=some y:=by
 obtain ⟨y,e,t⟩:=h (l[i]'hi) (List.getElem_mem hi)
 refine ⟨y,?_,t,e⟩
 rw [getI_nat,List.getElem?_eq_getElem hi]
 exact e
theorem le_lt (a b:Int):leI a b=!ltI b a:=by
 unfold leI ltI
 by_cases h:a≤b
 ·rw [dzT h,dzF (by omega)]; rfl
 ·rw [dzF h,dzT (by omega)]; rfl
theorem count_eq:∀ (n d:Nat) (x:GNode) (l:Int),treeP d x→g_p_count n x l=g_ref02_Count n x l
 | 0,_,_,_,_=>rfl
 | n+1,0,_,_,h=>h.elim
 | n+1,d+1,x,l,h=>by
  obtain ⟨hl,_,hk⟩:=(treeP_s d x ▸ h)
  show g_p_count_body n (g_p_count n) x l=g_ref02_Count_body n (g_ref02_Count n) x l
  have ih:=fun y l hy=>count_eq n d y l hy
  generalize g_p_count n=A at ih ⊢
  generalize g_ref02_Count n=B at ih ⊢
  unfold g_p_count_body g_ref02_Count_body
  have key:∀ (j:Nat) (s:Int) (i:Nat),i≤x.Kids.length→loopN (fun recl1 (v:Int × Int)=>g_p_count_l1 x l A recl1 v.1 v.2) j (s,(i:Int))=loopN (fun recl1 (v:Int × Int)=>g_ref02_Count_l1 x l B recl1 v.1 v.2) j (s,(i:Int)):=by
   intro j
   induction j with
   | zero=>intro s i _; rfl
   | succ j ihj =>
    intro s i hi
    unfold loopN
    generalize loopN (fun recl1 (v:Int × Int)=>g_p_count_l1 x l A recl1 v.1 v.2) j=L1 at ihj ⊢
    generalize loopN (fun recl1 (v:Int × Int)=>g_ref02_Count_l1 x l B recl1 v.1 v.2) j=L2 at ihj ⊢
    show g_p_count_l1 x l A L1 s (i:Int)=g_ref02_Count_l1 x l B L2 s (i:Int)
    unfold g_p_count_l1 g_ref02_Count_l1
    simp only [map_idc,lenI,ltI,le_lt]
    by_cases c:i < x.Kids.length
    rotate_left
    ·rw [dzF (by omega)]; rfl
    obtain ⟨y,hy,ty,_⟩:=kidP_at hk c
    rw [dzT (by omega),cond_true,cond_true,hy]
    simp only [obs]
    by_cases c2:l < s
    ·rw [dzT c2]; rfl
    ·rw [dzF c2]
     simp only [Bool.not_false,cond_true,cond_false]
     rw [ih y _ ty]
     congr 1
     funext r
     rw [wi_id (x:=(i:Int)+1) (by omega) (by omega)]
     exact ihj _ (i+1) c
  exact key n 1 0 (Nat.zero_le _)
theorem count_totP:∀ (m n d:Nat) (x:GNode) (most:Int),treeP d x→0≤most→most≤m→m≤1000000→m+3≤n→Does (g_ref02_Count n x most) (fun r=>1≤r∧r≤most+1):=by
 intro m
 induction m with
 | zero =>
  intro n d x most ht h0 h1 h2 h3
  obtain ⟨n,rfl⟩:∃ q,n=q+1+1:=⟨n - 2,by omega⟩
  obtain rfl:most=0:=by omega
  refine ⟨1,?_,by omega,by omega⟩
  unfold g_ref02_Count g_ref02_Count_body
  rw [lpN_s]
  unfold g_ref02_Count_l1
  simp only [show leI 1 0=false from rfl,cond_some,obs]
  cases ltI 0 (lenI (List.map idc x.Kids)) <;> rfl
 | succ m ih =>
  intro n d x most ht h0 h1 h2 h3
  obtain ⟨n,rfl⟩:∃ q,n=q+1:=⟨n - 1,by omega⟩
  cases d with
  | zero=>exact ht.elim
  | succ e =>
  obtain ⟨hl,_,hk⟩:=(treeP_s e x ▸ ht)
  unfold g_ref02_Count g_ref02_Count_body
  refine does_loop (Q:=fun _ r=>1≤r∧r≤most+1) (fun v=>(most+1 - v.1).toNat) (fun v=>1≤v.1∧v.1≤most+1∧∃ i:Nat,v.2=(i:Int)∧i≤x.Kids.length) ?_ ⟨by omega,by omega,0,rfl,by omega⟩ (by simp only; omega)
  rintro rec ⟨many,idx⟩ ⟨g1,g2,i,hi,hil⟩ hrec
  simp only at g1 g2 hi hrec ⊢
  subst hi
  unfold g_ref02_Count_l1
  simp only [lenI,List.length_map,ltI,leI]
  by_cases c1:i < x.Kids.length
  rotate_left
  ·rw [dzF (by omega)]
   exact does_some ⟨g1,g2⟩
  rw [dzT (by omega)]
  by_cases c2:many≤most
  rotate_left
  ·rw [dzF c2]
   exact does_some ⟨g1,g2⟩
  rw [dzT c2]
  obtain ⟨y,hy,hty,_⟩:=kidP_at hk c1
  simp only [cond_true,obs]
  rw [hy,obs,wi_id (x:=most - many) (by omega) (by omega)]
  refine does_bind (ih n e y (most - many) hty (by omega) (by omega) (by omega) (by omega)) ?_
  rintro r ⟨r1,r2⟩
  rw [wi_id (x:=many+r) (by omega) (by omega),wi_id (x:=(i:Int)+1) (by omega) (by omega)]
  exact hrec (many+r,(i:Int)+1) ⟨by simp only; omega,by simp only; omega,i+1,by simp,c1⟩ (by simp only; omega)
theorem same_refl:∀ (d n:Nat) (x:GNode),treeP d x→20000+d≤n→g_ref02_Same n x x=some true
 | 0,_,_,h,_=>h.elim
 | d+1,0,_,_,h=>by omega
 | d+1,n+1,x,h,hn=>by
  obtain ⟨hl,_,hk⟩:=(treeP_s d x ▸ h)
  show g_ref02_Same_body n (g_ref02_Same n) x x=some true
  have ih:=fun y hy=>same_refl d n y hy (by omega)
  generalize g_ref02_Same n=A at ih ⊢
  unfold g_ref02_Same_body
  simp only [eqI_d,decide_true,Bool.not_true,cond_false,show eqS x.Name x.Name=true from by simp [eqS],obs]
  refine loop_list (l:=x.Kids) (F:=fun _=>true) (by omega) ?_ ?_ 0 (Nat.zero_le _) (by omega)
  ·intro rec
   unfold g_ref02_Same_l6
   simp only [map_idc,lenI,ltI]
   rw [dzF (by omega)]; rfl
  ·intro rec i c r hd hi hlt hw hr
   obtain ⟨y,hy,ty,_⟩:=kidP_at hk hlt
   unfold g_ref02_Same_l6
   simp only [map_idc,lenI,ltI]
   rw [dzT (by omega),cond_true,hy,obs,obs,ih y ty,obs,hw,hr]
   rfl
theorem sameD (n:Nat) (a b:List GDg) (ha:a.length≤1000) (hn:2000≤n):g_ref02_SameDiags n a b=some (decide (a=b)):=by
 unfold g_ref02_SameDiags
 simp only [eqI_d,lenI,List.length_map]
 by_cases hl:a.length=b.length
 rotate_left
 ·rw [dzF (by omega)]
  simp only [Bool.not_false,cond_true]
  rw [dzF (by rintro rfl; exact hl rfl)]
 rw [dzT (by omega)]
 simp only [Bool.not_true,cond_false]
 have key:∀ (m j i:Nat),a.length - i≤m→m < j→i≤a.length→loopN (fun recl1 l1=>g_ref02_SameDiags_l1 a b recl1 l1) j (i:Int)=some (decide (a.drop i=b.drop i)):=by
  intro m
  induction m with
  | zero =>
   intro j i h1 h2 h3
   obtain ⟨j,rfl⟩:∃ j',j=j'+1:=⟨j - 1,by omega⟩
   unfold loopN
   unfold g_ref02_SameDiags_l1
   simp only [ltI,lenI,List.length_map]
   rw [dzF (by omega),List.drop_eq_nil_of_le (by omega),List.drop_eq_nil_of_le (by omega)]
   rfl
  | succ m ih =>
   intro j i h1 h2 h3
   obtain ⟨j,rfl⟩:∃ j',j=j'+1:=⟨j - 1,by omega⟩
   by_cases hi:i=a.length
   ·exact ih (j+1) i (by omega) (by omega) h3
   have ih':=ih j (i+1) (by omega) (by omega) (by omega)
   unfold loopN
   generalize loopN (fun recl1 l1=>g_ref02_SameDiags_l1 a b recl1 l1) j=L at ih' ⊢
   show g_ref02_SameDiags_l1 a b L (i:Int)=_
   unfold g_ref02_SameDiags_l1
   simp only [ltI,lenI,List.length_map]
   rw [dzT (by omega),cond_true,getI_nat,getI_nat,List.getElem?_eq_getElem (by omega),List.getElem?_eq_getElem (by omega),obs,obs,List.drop_eq_getElem_cons (show i < a.length by omega),List.drop_eq_getElem_cons (show i < b.length by omega)]
   generalize a[i]'(by omega)=x
   generalize b[i]'(by omega)=y
   rw [wi_id (x:=(i:Int)+1) (by omega) (by omega),show ((i:Int)+1)=((i+1:Nat):Int) from by omega,ih']
   obtain ⟨e,p⟩:=x
   obtain ⟨e',p'⟩:=y
   simp only [opq,eqI_d,Bool.and_true,List.cons.injEq,GDg.mk.injEq]
   by_cases h1:e=e' <;> by_cases h2:p=p' <;> simp [h1,h2]
 exact key a.length n 0 (by omega) (by omega) (Nat.zero_le _)
theorem of_cs1 (x:GNode):GNode.of (GNode.cs x)=some x:=of_cs' _ _ _ _ _
def atB (l:List GTk):Prop:=∀ t ∈ l,0≤t.At∧t.At≤100000
theorem atB_app {a b:List GTk}:atB (a++b)↔atB a∧atB b:=by
 unfold atB
 simp only [List.mem_append]
 exact ⟨fun h=>⟨fun t ht=>h t (.inl ht),fun t ht=>h t (.inr ht)⟩,fun h t ht=>ht.elim (h.1 t) (h.2 t)⟩
theorem atB_cons {t:GTk} {b:List GTk}:atB (t :: b)↔(0≤t.At∧t.At≤100000)∧atB b:=by
 unfold atB
 simp
def goodK (d:Nat) (xs:List (List PV)):Prop:=∀ k ∈ xs,∃ y,GNode.of k=some y∧treeP d y
theorem good_cons {d:Nat} {x:GNode} {xs:List (List PV)} (h:treeP d x) (h':goodK d xs):goodK d (GNode.cs x :: xs):=by
 intro k hk
 rcases List.mem_cons.1 hk with rfl | hk
 ·exact ⟨x,of_cs1 x,h⟩
 ·exact h' k hk
theorem good_app {d:Nat} {xs ys:List (List PV)} (h:goodK d xs) (h':goodK d ys):goodK d (xs++ys):=by
 intro k hk
 rcases List.mem_append.1 hk with hk | hk
 ·exact h k hk
 ·exact h' k hk
theorem vals_good {v:List GTk} (h:atB v):goodK 1 (v.map vcs):=by
 intro k hk
 obtain ⟨t,ht,rfl⟩:=List.mem_map.1 hk
 refine ⟨vnode t,of_cs1 _,?_⟩
 rw [treeP_s]
 have:=h t ht
 unfold vnode
 split
 ·exact ⟨by simp,this,by simp⟩
 ·exact ⟨by simp,this,by simp⟩
theorem ArtT_good {a:List GTk} {x:GNode} (h:ArtT a x) (hl:a.length≤10000) (hb:atB a):treeP 2 x:=by
 cases h with
 | mk h1 h2 h3 h4 =>
  simp only [List.length_cons,List.length_append,List.length_nil] at hl
  rw [atB_cons,atB_app] at hb
  rw [treeP_s]
  exact ⟨by simp; omega,hb.1,vals_good hb.2.1⟩
theorem Atts_good {a:List GTk} {xs:List (List PV)} (h:Atts a xs) (hl:a.length≤10000) (hb:atB a):goodK 2 xs∧xs.length≤a.length:=by
 induction h with
 | nil=>exact ⟨fun k hk=>(by cases hk),Nat.le_refl _⟩
 | cons h1 h2 h3 h4 ih =>
  simp only [List.length_cons,List.length_append] at hl
  rw [atB_cons,atB_app] at hb
  have:=ih (by omega) hb.2.2
  refine ⟨good_cons ?_ this.1,by simp only [List.length_cons,List.length_append]; omega⟩
  rw [treeP_s]
  exact ⟨by simp; omega,hb.1,vals_good hb.2.1⟩
theorem Arts_good {a:List GTk} {xs:List (List PV)} (h:Arts a xs) (hl:a.length≤10000) (hb:atB a):goodK 2 xs∧xs.length≤a.length:=by
 induction h with
 | nil=>exact ⟨fun k hk=>(by cases hk),by simp⟩
 | cons h1 h2 ih =>
  simp only [List.length_append] at hl
  rw [atB_app] at hb
  have:=ih (by omega) hb.2
  have hp:=ArtT_good h1 (by omega) hb.1
  refine ⟨good_cons hp this.1,?_⟩
  cases h1
  simp only [List.length_cons,List.length_append]
  omega
theorem ItemT_good {a:List GTk} {x:GNode} (h:ItemT a x) (hl:a.length≤10000) (hb:atB a):treeP 3 x:=by
 cases h with
 | plain h1 h2 h3 h4 h5 h6 h7 =>
  simp only [List.length_cons,List.length_append,List.length_nil] at hl
  rw [atB_cons,atB_cons,atB_app] at hb
  have:=Atts_good h6 (by omega) hb.2.2.1
  rw [treeP_s]
  exact ⟨by simp only; omega,hb.1,this.1⟩
 | tariff h1 h2 h4 h5 h6 h7 h8 =>
  simp only [List.length_cons,List.length_append] at hl
  rw [atB_cons,atB_cons,atB_app,atB_cons] at hb
  have hA:=Atts_good h6 (by omega) hb.2.2.1
  have hB:=Arts_good h8 (by omega) hb.2.2.2.2
  rw [treeP_s]
  exact ⟨by simp only [List.length_append]; omega,hb.1,good_app hA.1 hB.1⟩
theorem Items_good {a:List GTk} {xs:List (List PV)} (h:Items a xs) (hl:a.length≤10000) (hb:atB a):goodK 3 xs∧xs.length≤a.length:=by
 induction h with
 | nil=>exact ⟨fun k hk=>(by cases hk),by simp⟩
 | cons h1 h2 ih =>
  simp only [List.length_append] at hl
  rw [atB_app] at hb
  have:=ih (by omega) hb.2
  refine ⟨good_cons (ItemT_good h1 (by omega) hb.1) this.1,?_⟩
  cases h1 <;> simp only [List.length_cons,List.length_append] <;> omega
theorem items_gen (n:Nat) (T:List GTk) (len:Int) (hT:T.length≤2100) (hn:10000≤n) :
  ∀ (j i f:Nat) (acc:List (List PV)) (ds:List GDg),T.length - i < j→i≤T.length→acc.length≤i→ds.length≤20→T.length - i < f →
   ∃ i':Int,loopN (fun recl4 (v:List (List PV) × List GTk × Int × Int × List GDg)=>g_p_Parse_l4 n recl4 v.1 v.2.1 v.2.2.1 v.2.2.2.1 v.2.2.2.2) j (acc,T,(i:Int),len,ds)=some (acc++(itemsF f len ds (T.drop i)).1,T,i',len,(itemsF f len ds (T.drop i)).2):=by
 intro j
 induction j with
 | zero=>intro i f acc ds h; omega
 | succ j ih =>
  intro i f acc ds h1 h2 h3 h4 h5
  obtain ⟨f,rfl⟩:∃ f',f=f'+1:=⟨f - 1,by omega⟩
  unfold loopN
  generalize loopN (fun recl4 (v:List (List PV) × List GTk × Int × Int × List GDg)=>g_p_Parse_l4 n recl4 v.1 v.2.1 v.2.2.1 v.2.2.2.1 v.2.2.2.2) j=L at ih ⊢
  show ∃ i',g_p_Parse_l4 n L acc T (i:Int) len ds=_
  rw [itemsF_e]
  unfold g_p_Parse_l4
  simp only [p_full,obs,ltI,lenI,List.length_map,cond_some]
  by_cases h0:T.drop i=[]∨20≤ds.length
  ·rw [if_pos h0]
   have:(bif decide ((i:Int) < (T.length:Int)) then !decide (20≤ds.length) else false)=false:=by
    rcases h0 with h | h
    ·rw [List.drop_eq_nil_iff] at h
     rw [dzF (by omega)]; rfl
    ·rw [dzT h]; cases decide ((i:Int) < (T.length:Int)) <;> rfl
   rw [this]
   exact ⟨(i:Int),by simp⟩
  rw [if_neg h0]
  have hi:i < T.length:=by
   apply Classical.byContradiction
   intro h
   exact h0 (.inl (List.drop_eq_nil_of_le (by omega)))
  have hd:¬ 20≤ds.length:=fun h=>h0 (.inr h)
  rw [dzT (by omega),dzF hd]
  simp only [Bool.not_false,cond_true]
  rw [p_item n T i len ds hT h2 h4 hn]
  have hroom:∀ z:List PV,roomB (List.length (acc++[z])) 64=true:=by intro z; simp [roomB]; omega
  have hroom2:∀ z:GDg,roomB (List.length (ds++[z])) 16=true:=by intro z; simp [roomB]; omega
  cases hI:itemF len ds (T.drop i) with
  | ok y =>
   obtain ⟨x,k,ds'⟩:=y
   have hk:=itemF_ok hI
   rw [List.length_drop] at hk
   simp only [obs,exc,cond_true,hroom]
   obtain ⟨i',e⟩:=ih (i+k) f (acc++[GNode.cs x]) ds' (by omega) (by omega) (by simp; omega) (hk.2.2.2 h4) (by omega)
   refine ⟨i',e.trans ?_⟩
   rw [drop_drop']
   simp
  | error y =>
   obtain ⟨e,k⟩:=y
   have hk:=(itemF_err hI).1
   rw [List.length_drop] at hk
   simp only [obs,exc,hroom2,cond_true]
   rw [p_skip n T (i+k) len [] hT (by omega) hn]
   simp only [obs,cond_false]
   rw [show T.drop (i+k)=(T.drop i).drop k from drop_drop' ..]
   have hs:=skip_le ((T.drop i).drop k)
   rw [List.length_drop,List.length_drop] at hs
   have hpos:1≤k+(skipF ((T.drop i).drop k)).2:=by
    cases k with
    | zero=>have:=skip_pos (l:=(T.drop i).drop 0) (fun h=>h0 (.inl h)); omega
    | succ k=>omega
   generalize (skipF ((T.drop i).drop k)).2=m at hs hpos ⊢
   rw [show i+k+m=i+(k+m) from by omega]
   obtain ⟨i',e'⟩:=ih (i+(k+m)) f acc (ds++[⟨7,e⟩]) (by omega) (by omega) (by omega) (by simp; omega) (by omega)
   refine ⟨i',e'.trans ?_⟩
   rw [drop_drop' T i (k+m)]
theorem itemsF_len:∀ (f:Nat) (len:Int) (ds:List GDg) (r:List GTk),(itemsF f len ds r).1.length≤r.length
 | 0,_,_,r=>by simp [itemsF]
 | f+1,len,ds,r=>by
  rw [itemsF_e]
  split
  ·simp
  rename_i h0
  cases hI:itemF len ds r with
  | ok y =>
   obtain ⟨x,k,ds'⟩:=y
   have:=itemF_ok hI
   have h2:=itemsF_len f len ds' (r.drop k)
   rw [List.length_drop] at h2
   simp only [List.length_cons]
   omega
  | error y =>
   obtain ⟨e,k⟩:=y
   have h2:=itemsF_len f len (ds++[(⟨7,e⟩:GDg)]) (r.drop (k+(skipF (r.drop k)).2))
   rw [List.length_drop] at h2
   simp only
   omega
def nz:GNode:=⟨0,[],0,0,[]⟩
def srcN (xs:List (List PV)):GNode:=⟨1,[],0,0,xs⟩
theorem p_Parse (n:Nat) (s:List UInt8) (hn:10000≤n):g_p_Parse n s=match lexS s with
  | .error (e,p)=>cond (!eqI e 0) (some (nz,[⟨e,(p:Int)⟩])) (g_p_Parse n s)
  | .ok T=>if (itemsF (T.length+1) (s.length:Int) [] T).2 ≠ [] then some (nz,(itemsF (T.length+1) (s.length:Int) [] T).2) else
    (g_p_count n (srcN (itemsF (T.length+1) (s.length:Int) [] T).1) 1500).bind fun c=>cond (ltI 1500 c) (some (nz,[⟨2,0⟩])) (some (srcN (itemsF (T.length+1) (s.length:Int) [] T).1,[])):=by
 have hL:=l_Lex n s hn
 cases hS:lexS s with
 | error y =>
  obtain ⟨e,p⟩:=y
  rw [hS] at hL
  simp only
  cases he:!eqI e 0
  ·rfl
  ·unfold g_p_Parse
   rw [hL]
   simp only [resL,obs,he,cond_true]
   rfl
 | ok T =>
  rw [hS] at hL
  obtain ⟨_,_,hT⟩:=(lexS_iff s T).1 hS
  unfold g_p_Parse
  rw [hL]
  simp only [resL,obs,List.nil_append,show (!eqI 0 0)=false from rfl,cond_false]
  obtain ⟨i',e⟩:=items_gen n T (s.length:Int) (by omega) hn n 0 (T.length+1) [] [] (by omega) (Nat.zero_le _) (by simp) (by simp) (by omega)
  rw [List.drop_zero,List.nil_append] at e
  refine bind_of (x:=((itemsF (T.length+1) (s.length:Int) [] T).1,T,i',(s.length:Int),(itemsF (T.length+1) (s.length:Int) [] T).2)) ?_ ?_
  ·refine bind_of e ?_
   show cond (roomB (List.length (itemsF (T.length+1) (s.length:Int) [] T).1) 64) _ none=_
   have:(itemsF (T.length+1) (s.length:Int) [] T).1.length≤T.length:=itemsF_len _ _ _ _
   rw [show roomB (List.length (itemsF (T.length+1) (s.length:Int) [] T).1) 64=true from by simp [roomB]; omega,cond_true]
  ·show cond (ltI 0 (lenI (List.map GDg.cs (itemsF (T.length+1) (s.length:Int) [] T).2))) _ _=_
   generalize itemsF (T.length+1) (s.length:Int) [] T=Z
   simp only [ltI,lenI,List.length_map]
   by_cases h:Z.2=[]
   ·rw [if_neg (by simpa using h),h]
    rfl
   ·have:0 < Z.2.length:=List.length_pos_iff.2 h
    rw [if_pos h,dzT (by omega)]
    rfl
end Go.Proofs
namespace Go.Proofs
open Go Go.Abs
set_option maxRecDepth 100000
set_option linter.unusedVariables false
theorem tk_err {t:List UInt8} {e:Int} (h:tkOf t=.error e):e ≠ 0:=by
 unfold tkOf at h
 repeat (first | (split at h) | (simp only [Except.error.injEq] at h; omega) | (exact nomatch h))
theorem lexF_err:∀ (f p k:Nat) (s:List UInt8) (e:Int) (q:Nat),s.length < f→lexF f p s k=.error (e,q)→e ≠ 0∧p≤q∧q≤p+s.length
 | 0,_,_,_,_,_,h,_=>absurd h (Nat.not_lt_zero _)
 | f+1,p,k,s,e,q,hf,h=>by
  have hg:=gap_le s false
  cases hd:s.drop (gapN false s) with
  | nil=>rw [lex_end _ _ _ _ hd] at h; cases h
  | cons c r =>
   rw [lex_step _ _ _ _ c r hd] at h
   split at h
   ·simp only [Except.error.injEq,Prod.mk.injEq] at h
    obtain ⟨rfl,rfl⟩:=h
    exact ⟨by omega,by omega,by omega⟩
   cases ht:tkOf (tkT (c :: r)) with
   | error e' =>
    rw [ht] at h
    simp only [Except.error.injEq,Prod.mk.injEq] at h
    obtain ⟨rfl,rfl⟩:=h
    exact ⟨tk_err ht,by omega,by omega⟩
   | ok y =>
    obtain ⟨kk,x,v⟩:=y
    rw [ht] at h
    simp only at h
    have hp:=tkT_pos ht
    have hle:=tkT_le (c :: r)
    have hlen:(c :: r).length=s.length - gapN false s:=by rw [← hd,List.length_drop]
    cases hl:lexF f (p+gapN false s+(tkT (c :: r)).length) ((c :: r).drop (tkT (c :: r)).length) (k+1) with
    | ok l=>rw [hl] at h; cases h
    | error z =>
     rw [hl] at h
     simp only [Except.error.injEq] at h
     subst h
     have:=lexF_err f _ _ _ _ _ (by rw [List.length_drop]; omega) hl
     rw [List.length_drop] at this
     exact ⟨this.1,by omega,by omega⟩
theorem lexS_err {s:List UInt8} {e:Int} {q:Nat} (h:lexS s=.error (e,q)):e ≠ 0∧q≤s.length:=by
 unfold lexS at h
 split at h
 ·simp only [Except.error.injEq,Prod.mk.injEq] at h
  obtain ⟨rfl,rfl⟩:=h
  exact ⟨by omega,Nat.zero_le _⟩
 ·have:=lexF_err _ _ _ _ _ _ (by omega) h
  exact ⟨this.1,by omega⟩
theorem lexS_at {s:List UInt8} {T:List GTk} (h:lexS s=.ok T):(∀ t ∈ T,0≤t.At∧t.At < (s.length:Int))∧T.Pairwise (fun a b=>a.At < b.At)∧atB T∧T.length≤2000∧s.length≤8000:=by
 obtain ⟨h1,h2,h3⟩:=(lexS_iff s T).1 h
 have:=Lx_at h2
 refine ⟨fun t ht=>?_,this.2,fun t ht=>?_,h3,h1⟩
 ·have:=this.1 t ht; omega
 ·have:=this.1 t ht; omega
def Good (n:Nat) (s:List UInt8) (T:List GTk) (xs:List (List PV)):Prop:=lexS s=.ok T∧Items T xs∧∃ c,g_ref02_Count n (srcN xs) 1500=some c∧c≤1500
theorem src_tree {s:List UInt8} {T:List GTk} {xs:List (List PV)} (h:lexS s=.ok T) (hI:Items T xs):treeP 4 (srcN xs):=by
 have hA:=lexS_at h
 have:=Items_good hI (by omega) hA.2.2.1
 rw [treeP_s]
 exact ⟨by unfold srcN; simp only; omega,⟨by simp [srcN],by simp [srcN]⟩,this.1⟩
theorem good_parse {n:Nat} {s:List UInt8} {T:List GTk} {xs:List (List PV)} (hn:30000≤n) (h:Good n s T xs):g_p_Parse n s=some (srcN xs,[]):=by
 obtain ⟨h1,h2,c,h3,h4⟩:=h
 rw [p_Parse n s (by omega),h1]
 simp only
 have:=itemsF_A h2 (T.length+1) 1 (s.length:Int) [] [] (by simp) (by simp) (by simp)
 rw [List.append_nil] at this
 rw [this]
 have e:itemsF 1 (s.length:Int) [] []=([],[]):=rfl
 rw [e]
 simp only [List.append_nil]
 rw [if_neg (by simp),count_eq n 4 _ _ (src_tree h1 h2),h3,obs,show ltI 1500 c=false from dzF (by omega)]
 rfl
theorem parse_cases (n:Nat) (s:List UInt8) (hn:30000≤n):∃ r,g_p_Parse n s=some r∧((r.2=[]∧∃ T xs,Good n s T xs∧r.1=srcN xs)∨(r.1=nz∧r.2 ≠ []∧(r.2=[⟨2,0⟩]∨(∃ T,lexS s=.ok T∧r.2=(itemsF (T.length+1) (s.length:Int) [] T).2)∨∃ e q,lexS s=.error (e,q)∧r.2=[⟨e,(q:Int)⟩]))):=by
 have hP:=p_Parse n s (by omega)
 cases hS:lexS s with
 | error y =>
  obtain ⟨e,q⟩:=y
  rw [hS] at hP
  simp only at hP
  have:=lexS_err hS
  rw [show (!eqI e 0)=true from by rw [eqI_d,dzF this.1]; rfl,cond_true] at hP
  exact ⟨_,hP, .inr ⟨rfl,by simp, .inr (.inr ⟨e,q,rfl,rfl⟩)⟩⟩
 | ok T =>
  rw [hS] at hP
  simp only at hP
  by_cases h:(itemsF (T.length+1) (s.length:Int) [] T).2=[]
  rotate_left
  ·rw [if_pos h] at hP
   exact ⟨_,hP, .inr ⟨rfl,h, .inr (.inl ⟨T,rfl,rfl⟩)⟩⟩
  rw [if_neg (by simpa using h)] at hP
  have hI:=itemsF_B (T.length+1) (s.length:Int) [] T (by omega) (by simp) h
  generalize (itemsF (T.length+1) (s.length:Int) [] T).1=xs at hP hI
  have ht:=src_tree hS hI
  obtain ⟨c,hc,hc1,hc2⟩:=count_totP 1500 n 4 _ 1500 ht (by omega) (by omega) (by omega) (by omega)
  rw [count_eq n 4 _ _ ht,hc,obs] at hP
  by_cases h15:c≤1500
  ·rw [show ltI 1500 c=false from dzF (by omega),cond_false] at hP
   exact ⟨_,hP, .inl ⟨rfl,T,xs,⟨hS,hI,c,hc,h15⟩,rfl⟩⟩
  ·rw [show ltI 1500 c=true from dzT (by omega),cond_true] at hP
   exact ⟨_,hP, .inr ⟨rfl,by simp, .inl rfl⟩⟩
theorem Lx0 {s:List UInt8} {T:List GTk} (h:lexS s=.ok T):Lx 0 s T:=((lexS_iff s T).1 h).2.1
theorem parse_few {n:Nat} {s:List UInt8} {r:GNode × List GDg} (hr:g_p_Parse n s=some r) (h:(r.2=[]∧∃ T xs,Good n s T xs∧r.1=srcN xs)∨(r.1=nz∧r.2 ≠ []∧(r.2=[⟨2,0⟩]∨(∃ T,lexS s=.ok T∧r.2=(itemsF (T.length+1) (s.length:Int) [] T).2)∨∃ e q,lexS s=.error (e,q)∧r.2=[⟨e,(q:Int)⟩]))):r.2.length≤20:=by
 rcases h with ⟨e,_⟩ | ⟨_,_,e | ⟨T,_,e⟩ | ⟨_,_,_,e⟩⟩
 ·rw [e]; simp
 ·rw [e]; simp
 ·rw [e]; exact (itemsF_mono _ _ _ _).2 (by simp)
 ·rw [e]; simp
end Go.Proofs
namespace Go.Proofs
open Go Go.Abs
set_option maxRecDepth 100000
set_option linter.unusedVariables false
theorem parse_bad {n:Nat} {s:List UInt8} {T:List GTk} {ds:List GDg} (hn:30000≤n) (h:lexS s=.ok T) (hd:ds ≠ []) (hI:(itemsF (T.length+1) (s.length:Int) [] T).2=ds):g_p_Parse n s=some (nz,ds):=by
 rw [p_Parse n s (by omega),h]
 simp only
 rw [hI,if_pos hd]
end Go.Proofs
namespace Go.Proofs
open Go Go.Abs
set_option maxRecDepth 100000
set_option linter.unusedVariables false
def lastP (l:List GTk):Prop:=∀ u ∈ l.getLast?,u.Kind=3
theorem lastP_app {a l:List GTk} (h1:lastP a) (h2:lastP l) (h3:l=[]∨l ≠ []):lastP (a++l):=by
 intro u hu
 by_cases hl:l=[]
 ·subst hl; rw [List.append_nil] at hu; exact h1 u hu
 ·rw [List.getLast?_append] at hu
  cases hg:l.getLast? with
  | none=>rw [List.getLast?_eq_none_iff] at hg; exact absurd hg hl
  | some v =>
   rw [hg] at hu
   simp only [Option.some_or,Option.mem_def,sie] at hu
   subst hu
   exact h2 _ hg
theorem art_last {a:List GTk} {x:GNode} (h:ArtT a x):lastP a:=by
 cases h with
 | @mk t e v h1 h2 h3 h4 =>
  intro u hu
  rw [show t :: (v++[e])=(t :: v)++[e] from by simp,List.getLast?_append] at hu
  simp only [List.getLast?_singleton,Option.some_or,Option.mem_def,sie] at hu
  subst hu
  exact (pu_kind h4).1
theorem item_last {a:List GTk} {x:GNode} (h:ItemT a x):lastP a:=by
 have hb:∀ {b:List GTk} {ys:List (List PV)},Arts b ys→lastP b∧b ≠ []:=by
  intro b ys h
  induction h with
  | @nil e he =>
   refine ⟨fun u hu=>?_,by simp⟩
   simp only [List.getLast?_singleton,Option.mem_def,sie] at hu
   subst hu
   exact (pu_kind he).1
  | cons h1 h2 ih=>exact ⟨lastP_app (art_last h1) ih.1 (Classical.em _),by simp [ih.2]⟩
 cases h with
 | @plain t m e a xs h1 h2 h3 h4 h5 h6 h7 =>
  intro u hu
  rw [show t :: m :: (a++[e])=(t :: m :: a)++[e] from by simp,List.getLast?_append] at hu
  simp only [List.getLast?_singleton,Option.some_or,Option.mem_def,sie] at hu
  subst hu
  exact (pu_kind h7).1
 | @tariff t m e a b xs ys h1 h2 h4 h5 h6 h7 h8 =>
  intro u hu
  rw [show t :: m :: (a++e :: b)=(t :: m :: (a++[e]))++b from by simp,List.getLast?_append] at hu
  cases hg:b.getLast? with
  | none=>rw [List.getLast?_eq_none_iff] at hg; exact absurd hg (hb h8).2
  | some v =>
   rw [hg] at hu
   simp only [Option.some_or,Option.mem_def,sie] at hu
   subst hu
   exact (hb h8).1 _ hg
end Go.Proofs
namespace Go.Proofs
open Go Go.Abs
set_option maxRecDepth 100000
theorem head_02:g_law02_head 36893488147419103232=some true:=by kernel_rfl
end Go.Proofs
namespace Go.Proofs
open Go Go.Abs
set_option maxRecDepth 100000
set_option linter.unusedVariables false
theorem b2i_of (c:UInt8) (d:Nat) (h:b2i c=48+(d:Int)):UInt8.ofNat (48+d)=c:=by
 have h1:c.toNat=48+d:=by unfold b2i at h; omega
 rw [← h1]
 simp
theorem dec_step (a d:Nat) (ha:1≤a) (hd:d≤9):Lib.decDigits (10 * a+d)=Lib.decDigits a++[UInt8.ofNat (48+d)]:=by
 rw [Lib.decDigits,dif_neg (by omega)]
 rw [show (10 * a+d) / 10=a from by omega,show (10 * a+d) % 10=d from by omega]
theorem val_dec:∀ (r:List UInt8) (a:Nat) (v:Int),r.all isD=true→1≤a→a≤1000000→valL (a:Int) r=some v→0≤v∧v≤1000000∧Lib.decDigits v.toNat=Lib.decDigits a++r
 | [],a,v,_,h1,h2,h=>by
  simp only [valL,sie] at h
  subst h
  exact ⟨by omega,by omega,by simp⟩
 | c :: r,a,v,hr,h1,h2,h=>by
  simp only [List.all_cons,bae] at hr
  have hc:=of_decide_eq_true hr.1
  unfold valL at h
  split at h
  ·cases h
  rename_i hb
  obtain ⟨d,hd⟩:=Int.eq_ofNat_of_zero_le (show 0≤b2i c - 48 by omega)
  rw [show 10 * (a:Int)+(b2i c - 48)=((10 * a+d:Nat):Int) from by omega] at h hb
  obtain ⟨g1,g2,g3⟩:=val_dec r (10 * a+d) v hr.2 (by omega) (by omega) h
  refine ⟨g1,g2,?_⟩
  rw [g3,dec_step a d h1 (by omega),b2i_of c d (by omega)]
  simp
theorem num_text {c:UInt8} {r:List UInt8} {v:Int} (hD:(c :: r).all isD=true) (h0:¬ (1 < (c :: r).length∧b2i c=48)) (h:valL 0 (c :: r)=some v):0≤v∧v≤1000000∧Lib.itoa v=c :: r:=by
 simp only [List.all_cons,bae] at hD
 have hc:=of_decide_eq_true hD.1
 obtain ⟨d,hd⟩:=Int.eq_ofNat_of_zero_le (show 0≤b2i c - 48 by omega)
 unfold valL at h
 rw [show 10 * (0:Int)+(b2i c - 48)=(d:Int) from by omega] at h
 split at h
 ·cases h
 have key:0≤v∧v≤1000000∧Lib.decDigits v.toNat=c :: r:=by
  cases r with
  | nil =>
   simp only [valL,sie] at h
   subst h
   refine ⟨by omega,by omega,?_⟩
   rw [Int.toNat_natCast,Lib.decDigits,dif_pos (by omega),b2i_of c d (by omega)]
  | cons e r =>
   have h1:1≤d:=by
    simp only [List.length_cons,not_and] at h0
    have:=h0 (by omega)
    omega
   obtain ⟨g1,g2,g3⟩:=val_dec (e :: r) d v hD.2 h1 (by omega) h
   refine ⟨g1,g2,?_⟩
   rw [g3,Lib.decDigits,dif_pos (by omega),b2i_of c d (by omega)]
   rfl
 refine ⟨key.1,key.2.1,?_⟩
 unfold Lib.itoa
 rw [if_neg (by omega),key.2.2]
theorem tok_text {t x:List UInt8} {k v:Int} (hw:wholeT t=true) (h:tkOf t=.ok (k,x,v)):(k=2∧Lib.itoa v=t∧0≤v∧v≤1000000)∨(k ≠ 2∧x=t):=by
 cases t with
 | nil=>cases hw
 | cons c r =>
  unfold tkOf at h
  unfold wholeT at hw
  simp only at h hw
  by_cases hL:isL c=true
  ·rw [if_pos hL] at h
   split at h
   ·cases h
   ·simp only [Except.ok.injEq,Prod.mk.injEq] at h
    exact .inr ⟨by omega,h.2.1.symm⟩
  rw [if_neg hL] at h hw
  by_cases hD:isD c=true
  ·rw [if_pos hD] at h hw
   split at h
   ·cases h
   rename_i h0
   cases hv:valL 0 (c :: r) with
   | none=>rw [hv] at h; cases h
   | some u =>
    rw [hv] at h
    simp only [Except.ok.injEq,Prod.mk.injEq] at h
    obtain ⟨rfl,rfl,rfl⟩:=h
    obtain ⟨g1,g2,g3⟩:=num_text hw h0 hv
    exact .inl ⟨rfl,g3,g1,g2⟩
  ·rw [if_neg hD] at h
   split at h
   ·simp only [Except.ok.injEq,Prod.mk.injEq] at h
    exact .inr ⟨by omega,h.2.1.symm⟩
   ·cases h
theorem Lx_take:∀ {p:Nat} {s:List UInt8} {l:List GTk},Lx p s l→∀ k (hk:k < l.length),∃ s1 t s2:List UInt8,s=s1++(t++s2)∧(l[k]'hk).At=((p+s1.length:Nat):Int)∧wholeT t=true∧tkOf t=.ok ((l[k]'hk).Kind,(l[k]'hk).Text,(l[k]'hk).N)∧Lx p (s1++t) (l.take (k+1)):=by
 intro p s l h
 induction h with
 | nil hg=>intro k hk; simp at hk
 | @cons p g t r l k0 v y hg hw ht hst hl ih =>
  intro k hk
  cases k with
  | zero =>
   refine ⟨g,t,r,rfl,rfl,hw,ht,?_⟩
   have:=Lx.cons (p:=p) (g:=g) (t:=t) (r:=[]) (l:=[]) hg hw ht (by cases t <;> rfl) (.nil (b:=false) rfl)
   rw [List.append_nil] at this
   exact this
  | succ k =>
   simp only [List.length_cons] at hk
   obtain ⟨s1,t',s2,e1,e2,e3,e4,e5⟩:=ih k (by omega)
   refine ⟨g++(t++s1),t',s2,by rw [e1]; simp,?_,e3,e4,?_⟩
   ·simp only [List.getElem_cons_succ,e2,List.length_append]
    congr 1; omega
   ·rw [List.take_succ_cons,show g++(t++s1)++t'=g++(t++(s1++t')) from by simp]
    refine .cons hg hw ht ?_ e5
    rw [e1] at hst
    cases s1 with
    | cons d q=>cases t <;> exact hst
    | nil =>
     obtain ⟨d,q,hd,_⟩:=whole_head e3
     rw [hd] at hst ⊢
     cases t <;> exact hst
def szN:Nat→GNode→Nat
 | 0,_=>0
 | d+1,x=>1+(x.Kids.map fun c=>match GNode.of c with | some y=>szN d y | none=>0).sum
def szC (d:Nat) (c:List PV):Nat:=match GNode.of c with | some y=>szN d y | none=>0
theorem szN_s (d:Nat) (x:GNode):szN (d+1) x=1+(x.Kids.map (szC d)).sum:=rfl
theorem count_val:∀ (d n:Nat) (x:GNode) (most:Int),treeP d x→0≤most→most≤1000000→2000000+d≤n→Does (g_ref02_Count n x most) (fun r=>((szN d x:Int)≤most→r=(szN d x:Int))∧(most < (szN d x:Int)→most < r)∧1≤r∧r≤most+1)
 | 0,_,_,_,h,_,_,_=>h.elim
 | d+1,0,_,_,_,_,_,h=>by omega
 | d+1,n+1,x,most,ht,h0,h1,hn=>by
  obtain ⟨c0,hc0,b1,b2⟩:=count_totP 1000000 (n+1) (d+1) x most ht h0 (by omega) (by omega) (by omega)
  have main:Does (g_ref02_Count (n+1) x most) (fun r=>((szN (d+1) x:Int)≤most→r=(szN (d+1) x:Int))∧(most < (szN (d+1) x:Int)→most < r)):=by
   obtain ⟨hl,_,hk⟩:=(treeP_s d x ▸ ht)
   show Does (g_ref02_Count_body n (g_ref02_Count n) x most) _
   have ih:=fun y m hy h0 h1=>count_val d n y m hy h0 h1 (by omega)
   generalize g_ref02_Count n=A at ih ⊢
   unfold g_ref02_Count_body
   rw [szN_s]
   have:=loop_does (l:=x.Kids) (fun (many:Int) (i:Int)=>(many,i)) (B:=fun recl1 (v:Int × Int)=>g_ref02_Count_l1 x most A recl1 v.1 v.2)
    (Q:=fun (many:Int) rest (r:Int)=>(many+((rest.map (szC d)).sum:Int)≤most→r=many+((rest.map (szC d)).sum:Int))∧(most < many+((rest.map (szC d)).sum:Int)→most < r))
    (fun i many=>1≤many∧many≤most+1) (by omega)
    (by
     rintro rec many ⟨g1,g2⟩
     show Does (g_ref02_Count_l1 x most A rec many _) _
     unfold g_ref02_Count_l1
     simp only [map_idc,lenI,ltI]
     rw [dzF (by omega)]
     exact does_some ⟨fun _=>by simp,fun h=>by simpa using h⟩)
    (by
     rintro rec many i c r ⟨g1,g2⟩ hd hi hlt hw hr
     show Does (g_ref02_Count_l1 x most A rec many (i:Int)) _
     obtain ⟨y,hy,ty,hof⟩:=kidP_at hk hlt
     have hc:c=x.Kids[i]'hlt:=by rw [List.getElem?_eq_getElem hlt] at hi; exact (Option.some.inj hi).symm
     have hsz:szC d c=szN d y:=by unfold szC; rw [hc,hof]
     unfold g_ref02_Count_l1
     simp only [map_idc,lenI,ltI,leI]
     rw [dzT (by omega)]
     simp only [cond_true,obs,List.map_cons,List.sum_cons,hsz]
     by_cases hm:many≤most
     rotate_left
     ·rw [dzF hm]
      exact does_some ⟨fun h=>by omega,fun _=>by omega⟩
     rw [dzT hm,cond_true,hy,obs,wi_id (x:=most - many) (by omega) (by omega)]
     refine does_bind (ih y (most - many) ty (by omega) (by omega)) ?_
     rintro r' ⟨q1,q2,q3,q4⟩
     rw [wi_id (x:=many+r') (by omega) (by omega),hw]
     refine does_mono (hr (many+r') ⟨by omega,by omega⟩) ?_
     rintro z ⟨z1,z2⟩
     by_cases hsy:(szN d y:Int)≤most - many
     ·have:=q1 hsy
      subst this
      exact ⟨fun h=>by rw [z1 (by omega)]; push_cast; omega,fun h=>z2 (by push_cast at h; omega)⟩
     ·have:=q2 (by omega)
      exact ⟨fun h=>by push_cast at h; omega,fun _=>z2 (by omega)⟩)
    (n:=n) 0 1 ⟨by omega,by omega⟩ (Nat.zero_le _) (by omega)
   rw [List.drop_zero] at this
   refine does_mono this ?_
   rintro r ⟨r1,r2⟩
   exact ⟨fun h=>by rw [r1 (by push_cast at h; omega)]; push_cast; rfl,fun h=>r2 (by push_cast at h; omega)⟩
  obtain ⟨r,hr,m1,m2⟩:=main
  rw [hc0] at hr
  obtain rfl:=Option.some.inj hr
  exact ⟨c0,hc0,m1,m2,b1,b2⟩
theorem sum_take (f:List PV→Nat):∀ (xs:List (List PV)) (m:Nat),((xs.take m).map f).sum≤(xs.map f).sum
 | [],m=>by simp
 | x :: xs,0=>by simp
 | x :: xs,m+1=>by
  have:=sum_take f xs m
  simp only [List.take_succ_cons,List.map_cons,List.sum_cons]
  omega
theorem count_take {n:Nat} {xs:List (List PV)} (m:Nat) {c:Int} (hn:3000000≤n) (ht:treeP 4 (srcN xs)) (hc:g_ref02_Count n (srcN xs) 1500=some c) (h15:c≤1500):∃ c',g_ref02_Count n (srcN (xs.take m)) 1500=some c'∧c'≤1500:=by
 have ht':treeP 4 (srcN (xs.take m)):=by
  rw [treeP_s] at ht ⊢
  unfold srcN at ht ⊢
  refine ⟨?_,ht.2.1,fun k hk=>ht.2.2 k (List.mem_of_mem_take hk)⟩
  simp only [List.length_take]
  have:=ht.1
  simp only at this
  omega
 obtain ⟨c1,e1,a1,a2,_⟩:=count_val 4 n _ 1500 ht (by omega) (by omega) (by omega)
 obtain ⟨c2,e2,b1,b2,_⟩:=count_val 4 n _ 1500 ht' (by omega) (by omega) (by omega)
 rw [hc] at e1
 obtain rfl:=Option.some.inj e1
 have hle:szN 4 (srcN (xs.take m))≤szN 4 (srcN xs):=by
  rw [szN_s,szN_s]
  have:=sum_take (szC 3) xs m
  unfold srcN
  simp only
  omega
 have hs:¬ ((1500:Int) < (szN 4 (srcN xs):Int)):=fun h=>by have:=a2 h; omega
 exact ⟨c2,e2,by rw [b1 (by omega)]; omega⟩
theorem Atts_take {l:List GTk} {xs:List (List PV)} (h:Atts l xs):∀ j,∃ ys,Atts (l.take j) ys:=by
 induction h with
 | nil=>intro j; exact ⟨[],by simpa using Atts.nil⟩
 | @cons t v r xs h1 h2 h3 h4 ih =>
  intro j
  cases j with
  | zero=>exact ⟨[], .nil⟩
  | succ j =>
   obtain ⟨ys,hy⟩:=ih (j - v.length)
   refine ⟨GNode.cs ⟨3,t.Text,0,t.At,(v.take j).map vcs⟩ :: ys,?_⟩
   rw [List.take_succ_cons,List.take_append]
   exact .cons h1 h2 (fun x hx=>h3 x (List.mem_of_mem_take hx)) hy
theorem artF_cut {a:List GTk} {x:GNode} (h:ArtT a x) (len:Int) (j:Nat) (hj:j < a.length):artF len (a.take j)=.error (len,(a.take j).length):=by
 cases h with
 | @mk t e v h1 h2 h3 h4 =>
  cases j with
  | zero =>
   unfold artF
   rw [if_neg (by simp [pk,zTok])]
   rfl
  | succ j =>
   simp only [List.length_cons,List.length_append,List.length_nil] at hj
   rw [List.take_succ_cons,List.take_append,show j - v.length=0 from by omega,List.take_zero,List.append_nil]
   have hv:vals true (v.take j)=v.take j:=by
    have:=whl_app (p:=okV true) (v.take j) [] (fun x hx=>h3 x (List.mem_of_mem_take hx)) (fun d hd=>by cases hd)
    rw [List.append_nil] at this
    exact this
   unfold artF
   simp only [pk_cons,List.drop_succ_cons,List.drop_zero]
   rw [if_pos ⟨h1,h2⟩,hv,Nat.add_comm 1,List.drop_succ_cons,List.drop_length,if_neg (by simp [isPu,pk,zTok])]
   rfl
theorem Arts_cut {b:List GTk} {ys:List (List PV)} (h:Arts b ys):∀ (j:Nat),j < b.length→∀ (f:Nat) (len:Int),(b.take j).length < f→∃ zs,artsF f len [] (b.take j)=(zs,(b.take j).length,[⟨7,len⟩]):=by
 have nil:∀ (f:Nat) (len:Int),0 < f→artsF f len [] []=([],0,[⟨7,len⟩]):=by
  intro f len hf
  obtain ⟨f,rfl⟩:∃ f',f=f'+1:=⟨f - 1,by omega⟩
  rw [artsF_e,if_neg (by simp),show isPu 125 (pk len [])=false from by simp [isPu,pk,zTok]]
  simp only [Bool.false_eq_true,if_false]
  have:artF len []=.error (len,0):=by
   unfold artF
   rw [if_neg (by simp [pk,zTok])]
   rfl
  rw [this]
  simp [skipF]
 induction h with
 | nil he =>
  intro j hj f len hf
  simp only [List.length_singleton] at hj
  obtain rfl:j=0:=by omega
  exact ⟨[],nil f len (by omega)⟩
 | @cons a r x xs ha h ih =>
  intro j hj f len hf
  obtain ⟨f,rfl⟩:∃ f',f=f'+1:=⟨f - 1,by omega⟩
  by_cases hja:j < a.length
  ·rw [List.take_append,show j - a.length=0 from by omega,List.take_zero,List.append_nil]
   cases hj0:j with
   | zero=>exact ⟨[],nil (f+1) len (by omega)⟩
   | succ k =>
    have hhd:isPu 125 (pk len (a.take (k+1)))=false:=by
     cases ha with
     | mk h1 _ _ _ =>
      rw [List.take_succ_cons,pk_cons]
      exact dzF (by rintro ⟨h,_⟩; omega)
    rw [artsF_e,if_neg (by simp),hhd,artF_cut ha len (k+1) (by omega)]
    simp only [Bool.false_eq_true,if_false]
    rw [List.drop_length]
    simp [skipF]
  ·rw [List.take_append,List.take_of_length_le (by omega)] at hf ⊢
   have hpos:0 < a.length:=by cases ha; simp
   rw [List.length_append] at hf
   simp only [List.length_append] at hj
   obtain ⟨zs,hz⟩:=ih (j - a.length) (by omega) f len (by omega)
   refine ⟨GNode.cs x :: zs,?_⟩
   rw [artsF_e,if_neg (by simp),art_head ha,artF_A ha]
   simp only [Bool.false_eq_true,if_false]
   rw [drop_len a _ _ rfl,hz]
   simp only [List.length_append]
def cntS (z:Int × Bool) (t:GTk):Int × Bool:=if t.Kind ≠ 3 then z else if t.Text=[123] then (z.1,true) else if t.Text=[125]∨z.2=false then (z.1+1,false) else z
theorem cnt_no {z:Int × Bool}:∀ {l:List GTk},(∀ t ∈ l,t.Kind ≠ 3)→l.foldl cntS z=z
 | [],_=>rfl
 | t :: l,h=>by
  have:cntS z t=z:=by unfold cntS; rw [if_pos (h t (by simp))]
  rw [List.foldl_cons,this]
  exact cnt_no fun t ht=>h t (by simp [ht])
theorem okV_kind {w:Bool} {t:GTk} (h:okV w t=true):t.Kind ≠ 3:=by
 intro e
 simp [okV,e] at h
theorem Atts_kinds {l:List GTk} {xs:List (List PV)} (h:Atts l xs):∀ t ∈ l,t.Kind ≠ 3:=by
 induction h with
 | nil=>intro t ht; cases ht
 | cons h1 h2 h3 h4 ih =>
  intro t ht
  rcases List.mem_cons.1 ht with rfl | ht
  ·omega
  ·rcases List.mem_append.1 ht with ht | ht
   ·exact okV_kind (h3 t ht)
   ·exact ih t ht
theorem cnt_art {a:List GTk} {x:GNode} (h:ArtT a x) (m:Int) (j:Nat):(a.take j).foldl cntS (m,true)=(m,true):=by
 cases h with
 | @mk t e v h1 h2 h3 h4 =>
  have he:=pu_kind h4
  have key:∀ l:List GTk,(∀ u ∈ l,u.Kind ≠ 3∨u.Text=[59])→l.foldl cntS (m,true)=(m,true):=by
   intro l
   induction l with
   | nil=>intro _; rfl
   | cons u l ih =>
    intro hu
    have:cntS (m,true) u=(m,true):=by
     unfold cntS
     rcases hu u (by simp) with h | h
     ·rw [if_pos h]
     ·rw [h]
      by_cases h3:u.Kind ≠ 3
      ·rw [if_pos h3]
      ·rw [if_neg h3,if_neg (by decide),if_neg (by simp)]
    rw [List.foldl_cons,this]
    exact ih fun u hu'=>hu u (by simp [hu'])
  refine key _ fun u hu=>?_
  have hu:=List.mem_of_mem_take hu
  rcases List.mem_cons.1 hu with rfl | hu
  ·exact .inl (by omega)
  ·rcases List.mem_append.1 hu with hu | hu
   ·exact .inl (okV_kind (h3 u hu))
   ·rw [List.mem_singleton] at hu
    subst hu
    exact .inr he.2
theorem cnt_arts {b:List GTk} {ys:List (List PV)} (h:Arts b ys) (m:Int):b.foldl cntS (m,true)=(m+1,false)∧∀ j,j < b.length→(b.take j).foldl cntS (m,true)=(m,true):=by
 induction h with
 | @nil e he =>
  have:=pu_kind he
  refine ⟨?_,fun j hj=>?_⟩
  ·simp only [List.foldl_cons,List.foldl_nil]
   unfold cntS
   rw [if_neg (by omega),this.2,if_neg (by decide),if_pos (.inl rfl)]
  ·simp only [List.length_singleton] at hj
   obtain rfl:j=0:=by omega
   rfl
 | @cons a r x xs ha h ih =>
  have hfull:a.foldl cntS (m,true)=(m,true):=by
   have:=cnt_art ha m a.length
   rwa [List.take_length] at this
  refine ⟨by rw [List.foldl_append,hfull]; exact ih.1,fun j hj=>?_⟩
  by_cases hja:j < a.length
  ·rw [List.take_append,show j - a.length=0 from by omega,List.take_zero,List.append_nil]
   exact cnt_art ha m j
  ·simp only [List.length_append] at hj
   rw [List.take_append,List.take_of_length_le (by omega),List.foldl_append,hfull]
   exact ih.2 (j - a.length) (by omega)
theorem item_cut {a:List GTk} {x:GNode} (h:ItemT a x) (m:Int):(a.foldl cntS (m,false)=(m+1,false))∧∀ j,0 < j→j < a.length →
  (((a.take j).foldl cntS (m,false)).2=true∨∀ u ∈ (a.take j).getLast?,u.Kind ≠ 3)∧∀ (f:Nat) (len:Int),(a.take j).length < f→(itemsF f len [] (a.take j)).2=[⟨7,len⟩]:=by
 have ends:∀ (f:Nat) (len:Int) (ds:List GDg),(itemsF f len ds []).2=ds:=by
  intro f len ds
  cases f with
  | zero=>rfl
  | succ f=>rw [itemsF_e,if_pos (.inl rfl)]
 have err:∀ (p:List GTk) (len:Int),p ≠ []→itemF len [] p=.error (len,p.length)→∀ f,p.length < f→(itemsF f len [] p).2=[⟨7,len⟩]:=by
  intro p len hp he f hf
  obtain ⟨f,rfl⟩:∃ f',f=f'+1:=⟨f - 1,by omega⟩
  rw [itemsF_e,if_neg (by rintro (h | h); exact hp h; simp at h),he]
  simp only [List.drop_length]
  rw [show (skipF ([]:List GTk)).2=0 from rfl,Nat.add_zero,List.drop_length,ends]
  rfl
 have one:∀ (t:GTk) (len:Int),t.Kind=1→kinB t.Text ≠ 0→itemF len [] [t]=.error (len,[t].length):=by
  intro t len h1 h2
  unfold itemF
  simp only [pk_cons,List.drop_succ_cons,List.drop_zero]
  rw [if_pos ⟨h1,h2⟩,if_neg (by simp [pk,zTok])]
  rfl
 have two:∀ (t m:GTk) (aas:List GTk) (ys:List (List PV)) (len:Int),t.Kind=1→kinB t.Text ≠ 0→m.Kind=1→keyB m.Text=false→Atts aas ys→itemF len [] (t :: m :: aas)=.error (len,(t :: m :: aas).length):=by
  intro t m aas ys len h1 h2 h3 h4 hA
  have hF:=attF_A hA ((t :: m :: aas).length+1) [] (by simp only [List.append_nil,List.length_cons]; omega) (fun d hd=>by cases hd)
  rw [List.append_nil] at hF
  have hz:∀ c:UInt8,isPu c (pk len ((t :: m :: aas).drop (2+aas.length)))=false:=by
   intro c
   rw [List.drop_eq_nil_of_le (by simp only [List.length_cons]; omega)]
   simp [isPu,pk,zTok]
  have hlen:(pk len ((t :: m :: aas).drop (2+aas.length))).At=len:=by
   rw [List.drop_eq_nil_of_le (by simp only [List.length_cons]; omega)]
   rfl
  unfold itemF
  simp only [pk_cons,List.drop_succ_cons,List.drop_zero] at hF ⊢
  rw [if_pos ⟨h1,h2⟩,if_pos ⟨h3,h4⟩,hF]
  simp only
  rw [hz,hz,hlen]
  simp only [Bool.false_eq_true,if_false,List.length_cons]
  rw [show aas.length+1+1=2+aas.length from by omega]
  split <;> rfl
 have pre:∀ (t m':GTk) (aas:List GTk) (ys:List (List PV)) (rest:List GTk),t.Kind=1→kinB t.Text ≠ 0→m'.Kind=1→keyB m'.Text=false→Atts aas ys→∀ j,0 < j→j≤aas.length+2 →
   (∀ u ∈ ((t :: m' :: (aas++rest)).take j).getLast?,u.Kind ≠ 3)∧∀ (f:Nat) (len:Int),((t :: m' :: (aas++rest)).take j).length < f→(itemsF f len [] ((t :: m' :: (aas++rest)).take j)).2=[⟨7,len⟩]:=by
  intro t m' aas ys rest h1 h2 h3 h4 hA j hj0 hj
  have e:(t :: m' :: (aas++rest)).take j=(t :: m' :: aas).take j:=by
   rw [show t :: m' :: (aas++rest)=(t :: m' :: aas)++rest from rfl,List.take_append,show j - (t :: m' :: aas).length=0 from by simp only [List.length_cons]; omega,List.take_zero,List.append_nil]
  rw [e]
  have hk:∀ u ∈ t :: m' :: aas,u.Kind ≠ 3:=by
   intro u hu
   rcases List.mem_cons.1 hu with rfl | hu
   ·omega
   rcases List.mem_cons.1 hu with rfl | hu
   ·omega
   exact Atts_kinds hA u hu
  refine ⟨fun u hu=>hk u (List.mem_of_mem_take (List.mem_of_getLast? hu)),fun f len hf=>?_⟩
  obtain ⟨j,rfl⟩:∃ j',j=j'+1:=⟨j - 1,by omega⟩
  rw [List.take_succ_cons] at hf ⊢
  cases j with
  | zero =>
   rw [List.take_zero] at hf ⊢
   exact err _ len (by simp) (one t len h1 h2) f hf
  | succ j =>
   rw [List.take_succ_cons] at hf ⊢
   obtain ⟨zs,hzs⟩:=Atts_take hA j
   exact err _ len (by simp) (two t m' _ zs len h1 h2 h3 h4 hzs) f hf
 cases h with
 | @plain t m' e aas xs h1 h2 h3 h4 h5 h6 h7 =>
  have he:=pu_kind h7
  refine ⟨?_,fun j hj0 hj=>?_⟩
  ·rw [show t :: m' :: (aas++[e])=(t :: m' :: aas)++[e] from rfl,List.foldl_append,cnt_no (l:=t :: m' :: aas) (by
    intro u hu
    rcases List.mem_cons.1 hu with rfl | hu
    ·omega
    rcases List.mem_cons.1 hu with rfl | hu
    ·omega
    exact Atts_kinds h6 u hu)]
   simp only [List.foldl_cons,List.foldl_nil]
   unfold cntS
   rw [if_neg (by omega),he.2,if_neg (by decide),if_pos (.inr rfl)]
  ·simp only [List.length_cons,List.length_append,List.length_nil] at hj
   have:=pre t m' aas xs [e] h1 h2 h4 h5 h6 j hj0 (by omega)
   exact ⟨.inr this.1,this.2⟩
 | @tariff t m' e aas b xs ys h1 h2 h4 h5 h6 h7 h8 =>
  have he:=pu_kind h7
  have hno:(t :: m' :: aas).foldl cntS (m,false)=(m,false):=cnt_no (by
   intro u hu
   rcases List.mem_cons.1 hu with rfl | hu
   ·omega
   rcases List.mem_cons.1 hu with rfl | hu
   ·omega
   exact Atts_kinds h6 u hu)
  have hopen:cntS (m,false) e=(m,true):=by
   unfold cntS
   rw [if_neg (by omega),if_pos he.2]
  refine ⟨?_,fun j hj0 hj=>?_⟩
  ·rw [show t :: m' :: (aas++e :: b)=(t :: m' :: aas)++(e :: b) from rfl,List.foldl_append,hno,List.foldl_cons,hopen]
   exact (cnt_arts h8 m).1
  ·simp only [List.length_cons,List.length_append] at hj
   by_cases hja:j≤aas.length+2
   ·have:=pre t m' aas xs (e :: b) h1 (by omega) h4 h5 h6 j hj0 hja
    exact ⟨.inr this.1,this.2⟩
   obtain ⟨i,rfl⟩:∃ i,j=aas.length+3+i:=⟨j - (aas.length+3),by omega⟩
   have e1:(t :: m' :: (aas++e :: b)).take (aas.length+3+i)=t :: m' :: (aas++e :: b.take i):=by
    rw [show aas.length+3+i=(aas.length+(i+1))+1+1 from by omega,List.take_succ_cons,List.take_succ_cons,List.take_append,List.take_of_length_le (by omega),show aas.length+(i+1) - aas.length=i+1 from by omega,List.take_succ_cons]
   rw [e1]
   refine ⟨.inl ?_,fun f len hf=>?_⟩
   ·rw [show t :: m' :: (aas++e :: b.take i)=(t :: m' :: aas)++(e :: b.take i) from rfl,List.foldl_append,hno,List.foldl_cons,hopen,(cnt_arts h8 m).2 i (by omega)]
   ·obtain ⟨f,rfl⟩:∃ f',f=f'+1:=⟨f - 1,by omega⟩
    have hd:∀ d ∈ (e :: b.take i).head?,okV false d=false∧¬ (d.Kind=1∧attB d.Text=true):=by
     intro d hd
     simp only [List.head?_cons,Option.mem_def,sie] at hd
     subst hd
     exact ⟨pu_ok h7 false,fun h=>by omega⟩
    obtain ⟨zs,hz⟩:=Arts_cut h8 i (by omega) ((t :: m' :: (aas++e :: b.take i)).length+1) len (by simp only [List.length_cons,List.length_append]; omega)
    have hI:itemF len [] (t :: m' :: (aas++e :: b.take i))=.ok (⟨2,m'.Text,7,t.At,xs++zs⟩,(t :: m' :: (aas++e :: b.take i)).length,[⟨7,len⟩]):=by
     unfold itemF
     simp only [pk_cons,List.drop_succ_cons,List.drop_zero]
     rw [if_pos ⟨h1,by omega⟩,if_pos ⟨h4,h5⟩,attF_A h6 _ (e :: b.take i) (by simp only [List.length_cons,List.length_append]; omega) hd,if_pos h2]
     simp only
     rw [Nat.add_comm 2,List.drop_succ_cons,List.drop_succ_cons,drop_len aas _ _ rfl,pk_cons,if_pos h7,show 3+aas.length=aas.length+1+2 from by omega,List.drop_succ_cons,List.drop_succ_cons,← List.drop_drop,drop_len aas _ _ rfl,List.drop_succ_cons,List.drop_zero,hz]
     simp only [List.length_append,List.length_cons]
     rw [show aas.length+1+2+(b.take i).length=aas.length+((b.take i).length+1)+1+1 from by omega]
    rw [itemsF_e,if_neg (by simp),hI]
    simp only [List.drop_length]
    exact ends _ _ _
theorem items_cut {T:List GTk} {xs:List (List PV)} (h:Items T xs):∀ (m:Int) (j:Nat),0 < j→j≤T.length →
  (∃ i,i≤xs.length∧Items (T.take j) (xs.take i)∧(T.take j).foldl cntS (m,false)=(m+(i:Int),false)∧∀ u ∈ (T.take j).getLast?,u.Kind=3) ∨
  ((((T.take j).foldl cntS (m,false)).2=true∨∀ u ∈ (T.take j).getLast?,u.Kind ≠ 3)∧∀ (f:Nat) (len:Int),(T.take j).length < f→(itemsF f len [] (T.take j)).2=[⟨7,len⟩]):=by
 induction h with
 | nil=>intro m j h0 h1; simp at h1; omega
 | @cons a r x xs ha h ih =>
  intro m j h0 h1
  obtain ⟨c1,c2⟩:=item_cut ha m
  by_cases hja:j < a.length
  ·rw [List.take_append,show j - a.length=0 from by omega,List.take_zero,List.append_nil]
   exact .inr (c2 j h0 hja)
  rw [List.take_append,List.take_of_length_le (by omega)]
  simp only [List.length_append] at h1
  by_cases hj:j=a.length
  ·rw [hj,Nat.sub_self,List.take_zero,List.append_nil]
   refine .inl ⟨1,by simp,?_,by rw [c1]; rfl,item_last ha⟩
   have:=Items.cons ha .nil
   rw [List.append_nil] at this
   rw [List.take_succ_cons,List.take_zero]
   exact this
  have hne:r.take (j - a.length) ≠ []:=by
   intro e
   have:=congrArg List.length e
   simp only [List.length_take,List.length_nil] at this
   omega
  have hlast:∀ (Q:GTk→Prop),(∀ u ∈ (r.take (j - a.length)).getLast?,Q u)→∀ u ∈ (a++r.take (j - a.length)).getLast?,Q u:=by
   intro Q hQ u hu
   rw [List.getLast?_append] at hu
   cases hg:(r.take (j - a.length)).getLast? with
   | none=>rw [List.getLast?_eq_none_iff] at hg; exact absurd hg hne
   | some v =>
    rw [hg] at hu
    simp only [Option.some_or,Option.mem_def,sie] at hu
    subst hu
    exact hQ _ hg
  rw [List.foldl_append,c1]
  rcases ih (m+1) (j - a.length) (by omega) (by omega) with ⟨i,g1,g2,g3,g4⟩ | ⟨g1,g2⟩
  ·refine .inl ⟨i+1,by simp; omega,?_,?_,hlast _ g4⟩
   ·rw [List.take_succ_cons]; exact .cons ha g2
   ·rw [g3]; push_cast; rw [Int.add_assoc,Int.add_comm 1]
  ·refine .inr ⟨g1.imp id (hlast _),fun f len hf=>?_⟩
   rw [List.length_append] at hf
   have hpos:0 < a.length:=by cases ha <;> simp
   have hI:Items a [GNode.cs x]:=by
    have:=Items.cons ha .nil
    rw [List.append_nil] at this
    exact this
   rw [itemsF_A hI f f len [] _ (by rw [List.length_append]; omega) (by omega) (by simp)]
   exact g2 f len (by omega)
end Go.Proofs
namespace Go.Proofs
open Go Go.Abs
set_option maxRecDepth 100000
set_option linter.unusedVariables false
theorem p_token (n:Nat) (x:GTk) (t:List UInt8) (hw:wholeT t=true) (h:tkOf t=.ok (x.Kind,x.Text,x.N)):g_law02_token n x=some t:=by
 unfold g_law02_token g_strconv_Itoa
 simp only [eqI_d]
 rcases tok_text hw h with ⟨h1,h2,h3,h4⟩ | ⟨h1,h2⟩
 ·rw [dzT h1,cond_true]
  simp only [leI]
  rw [dzT (by omega),dzT (by omega),h2]
  rfl
 ·rw [dzF h1,cond_false,h2]
theorem cnt_loop (n:Nat) (cut:Int) (T:List GTk) (e p:Int) (k:Nat) (hk:k < T.length) (hT:T.length≤2000) (hn:30000≤n) (hc:Int.tmod (wi cut) (T.length:Int)=(k:Int)) :
  loopN (fun recl12 (v:Int × Bool × Int)=>g_law02_ParserBeginnings_l12 cut (T,e,p) recl12 v.1 v.2.1 v.2.2) n (0,false,0)=some ((T.take (k+1)).foldl cntS (0,false)):=by
 have hL:List.drop (Int.toNat 0) (List.take (Int.toNat (wi ((Int.tmod (wi cut) (lenI (List.map GTk.cs T)))+1))) T)=T.take (k+1):=by
  simp only [lenI,List.length_map,hc]
  rw [wi_id (x:=(k:Int)+1) (by omega) (by omega)]
  rfl
 have hlen:(T.take (k+1)).length=k+1:=by rw [List.length_take]; omega
 have:=loop_gen (l:=T.take (k+1)) (fun (a:Int × Bool) (i:Int)=>(a.1,a.2,i)) (B:=fun recl12 (v:Int × Bool × Int)=>g_law02_ParserBeginnings_l12 cut (T,e,p) recl12 v.1 v.2.1 v.2.2) (F:=fun a r=>r.foldl cntS a) (fun i a=>0≤a.1∧a.1≤(i:Int)) (by omega)
  (by
   rintro rec a ⟨h1,h2⟩
   show g_law02_ParserBeginnings_l12 cut (T,e,p) rec a.1 a.2 _=_
   unfold g_law02_ParserBeginnings_l12
   simp only [hL]
   simp only [lenI,ltI,List.length_map]
   rw [dzF (by omega)]
   rfl)
  (by
   rintro rec ⟨m,o⟩ i x r ⟨h1,h2⟩ hd hi hlt hw hr
   show g_law02_ParserBeginnings_l12 cut (T,e,p) rec m o (i:Int)=_
   simp only at h1 h2
   unfold g_law02_ParserBeginnings_l12
   simp only [hL]
   simp only [lenI,ltI,List.length_map,eqI_d]
   rw [dzT (by omega),cond_true,getI_nat,hi,obs,hw]
   have hr0:=hr (m,o) ⟨h1,by simp only; omega⟩
   have hr1:=hr (m,true) ⟨h1,by simp only; omega⟩
   have hr2:=hr (m+1,false) ⟨by simp only; omega,by simp only; omega⟩
   simp only at hr0 hr1 hr2
   rw [List.foldl_cons]
   unfold cntS
   by_cases h3:x.Kind=3
   rotate_left
   ·rw [dzF h3,if_pos h3]
    exact hr0
   rw [dzT h3,if_neg (by omega)]
   simp only [Bool.not_true,cond_false]
   by_cases ha:x.Text=[123]
   ·rw [show eqS x.Text [123]=true from by simp [eqS,ha],if_pos ha]
    exact hr1
   rw [show eqS x.Text [123]=false from by simp [eqS,ha],if_neg ha,cond_false,wi_id (x:=m+1) (by omega) (by omega)]
   by_cases hb:x.Text=[125]
   ·rw [show eqS x.Text [125]=true from by simp [eqS,hb],if_pos (.inl hb)]
    exact hr2
   rw [show eqS x.Text [125]=false from by simp [eqS,hb],cond_false,obs]
   cases o
   ·rw [if_pos (.inr rfl)]
    exact hr2
   ·rw [if_neg (by rintro (h | h); exact hb h; cases h)]
    exact hr0)
  (n:=n) 0 (0,false) ⟨by simp,by simp⟩ (Nat.zero_le _) (by omega)
 rw [List.drop_zero] at this
 exact this
theorem take_last {T:List GTk} {k:Nat} (hk:k < T.length):(T.take (k+1)).getLast?=some (T[k]'hk):=by
 rw [List.getLast?_eq_getElem?,List.length_take,show min (k+1) T.length - 1=k from by omega,List.getElem?_take,if_pos (by omega),List.getElem?_eq_getElem hk]
theorem beginnings (n:Nat) (hn:3000000≤n) (hh:g_law02_head n=some true) (s:List UInt8) (cut:Int) (hc:0≤cut∧cut≤65535):g_law02_ParserBeginnings n s cut=some true:=by
 unfold g_law02_ParserBeginnings
 obtain ⟨r,hr,hrc⟩:=parse_cases n s (by omega)
 have hd:=parse_few hr hrc
 rw [hh,obs,rl_Lex n s (by omega),obs,hr,obs]
 cases hS:lexS s with
 | error y =>
  obtain ⟨e,q⟩:=y
  have:=(lexS_err hS).1
  simp only [resL,eqI_d]
  rw [dzF this]
  rfl
 | ok T =>
 have hA:=lexS_at hS
 simp only [resL,List.nil_append,eqI_d,lenI,List.length_map]
 simp only [decide_true,Bool.not_true,cond_false]
 by_cases hz:r.2.length=0
 rotate_left
 ·rw [show ltI 0 (r.2.length:Int)=true from dzT (by omega)]; rfl
 rw [show ltI 0 (r.2.length:Int)=false from dzF (by omega)]
 by_cases hT0:T.length=0
 ·rw [dzT (show ((T.length:Int))=0 by omega)]; rfl
 rw [dzF (show ¬ ((T.length:Int))=0 by omega)]
 simp only [cond_false,obs,Bool.not_false,cond_true]
 rcases hrc with ⟨_,T',xs,hG,e⟩ | ⟨_,h,_⟩
 rotate_left
 ·exact absurd (List.eq_nil_of_length_eq_zero hz) h
 obtain rfl:T'=T:=by
  have:=hG.1
  rw [hS] at this
  exact (Except.ok.inj this).symm
 obtain ⟨k,hk,hck⟩:∃ k,k < T'.length∧Int.tmod (wi cut) (T'.length:Int)=(k:Int):=by
  rw [wi_id (by omega) (by omega),Int.tmod_eq_emod_of_nonneg hc.1]
  have a:=Int.emod_nonneg cut (show (T'.length:Int) ≠ 0 by omega)
  have b:=Int.emod_lt_of_pos cut (show (0:Int) < (T'.length:Int) by omega)
  obtain ⟨i,hi⟩:=Int.eq_ofNat_of_zero_le a
  exact ⟨i,by omega,hi⟩
 have hget:getI T' (Int.tmod (wi cut) (T'.length:Int))=some (T'[k]'hk):=by rw [hck,getI_nat,List.getElem?_eq_getElem hk]
 obtain ⟨s1,t,s2,e1,e2,e3,e4,e5⟩:=Lx_take (Lx0 hS) k hk
 rw [Nat.zero_add] at e2
 have hlen:s1.length+t.length≤s.length:=by rw [e1]; simp only [List.length_append]; omega
 have hs8:=hA.2.2.2.2
 rw [hget,obs,obs,p_token n _ t e3 e4,obs,e2,wi_id (x:=((s1.length:Nat):Int)+(t.length:Int)) (by omega) (by omega)]
 have hsl:sliceB 0 ((s1.length:Int)+(t.length:Int)) (List.length s)=true:=dzT ⟨by omega,by omega,by omega⟩
 have hcut:List.drop (Int.toNat 0) (List.take (Int.toNat ((s1.length:Int)+(t.length:Int))) s)=s1++t:=by
  rw [show Int.toNat ((s1.length:Int)+(t.length:Int))=(s1++t).length from by simp only [List.length_append]; omega,e1,← List.append_assoc,List.take_left]
  rfl
 rw [hsl,cond_true,hcut]
 have hS':lexS (s1++t)=.ok (T'.take (k+1)):=(lexS_iff _ _).2 ⟨by simp only [List.length_append]; omega,e5,by rw [List.length_take]; omega⟩
 have hsl2:sliceB 0 (wi ((Int.tmod (wi cut) (T'.length:Int))+1)) (List.length T')=true:=by
  rw [hck,wi_id (x:=(k:Int)+1) (by omega) (by omega)]
  exact dzT ⟨by omega,by omega,by omega⟩
 have hfold:=cnt_loop n cut T' 0 0 k hk (by omega) (by omega) hck
 have hlast:=take_last hk
 have hlen':((s1++t).length:Int)=((s1.length:Int)+(t.length:Int)):=by simp only [List.length_append]; omega
 rcases items_cut hG.2.1 0 (k+1) (by omega) (by omega) with ⟨i,h1,h2,h3,h4⟩ | ⟨h1,h2⟩
 ·have hk3:=h4 _ hlast
  obtain ⟨c,hc0,hc15⟩:=hG.2.2
  obtain ⟨c',hc1,hc2⟩:=count_take i hn (src_tree hS hG.2.1) hc0 hc15
  rw [good_parse (by omega) ⟨hS',h2,c',hc1,hc2⟩,obs]
  refine bind_of (x:=((i:Int),false)) ?_ ?_
  ·rw [hsl2,cond_true]
   refine hfold.trans ?_
   rw [h3,Int.zero_add]
  simp only [cond_false]
  rw [obs,dzT hk3]
  simp only [Bool.not_true,obs,cond_false,List.length_nil]
  have hk:r.1.Kids=xs:=by rw [e]; rfl
  rw [show leI ((i:Nat):Int) ((r.1.Kids).length:Int)=true from by
   rw [hk]
   exact dzT (by omega)]
  rw [show decide (((0:Nat):Int)=0)=true from rfl]
  rw [show sliceB 0 ((i:Nat):Int) (List.length r.1.Kids)=true from by rw [hk]; exact dzT ⟨by omega,by omega,by omega⟩,hk]
  have ht:=src_tree hS' h2
  have hsm:=same_refl 4 n _ ht (by omega)
  have hsm':g_ref02_Same n (srcN (xs.take i)) (⟨1,[],0,0,List.drop (Int.toNat 0) (List.take (Int.toNat (i:Int)) xs)⟩:GNode)=some true:=hsm
  simp only [cond_true]
  rw [hsm']
  rfl
 ·have hP:g_p_Parse n (s1++t)=some (nz,[⟨7,((s1++t).length:Int)⟩]):=parse_bad (by omega) hS' (by simp) (h2 _ _ (by omega))
  rw [hP,obs]
  refine bind_of (x:=(T'.take (k+1)).foldl cntS (0,false)) ?_ ?_
  ·rw [hsl2,cond_true]
   exact hfold
  generalize (T'.take (k+1)).foldl cntS (0,false)=z at h1
  have hj:(bif z.2 then some true else ((some (T'[k]'hk)).bind fun x18=>some (!decide (x18.Kind=3))))=some true:=by
   rcases h1 with h1 | h1
   ·rw [h1]; rfl
   ·have hk3:=h1 _ hlast
    rw [obs,dzF hk3]
    cases z.2 <;> rfl
  simp only
  rw [hj,obs,cond_true,sameD n _ _ (by simp) (by omega)]
  simp
theorem fuel_02b:3000000≤36893488147419103232:=by decide
theorem beginnings_plain (a:List UInt8) (c:Int) (hc:0≤c∧c≤65535):∃ n,g_law02_ParserBeginnings n a c=some true:=⟨_,beginnings _ fuel_02b head_02 a c hc⟩
end Go.Proofs
namespace Go.Proofs.YtniaojaeacgpoaaDoor
open Go Go.Abs Go.Proofs
theorem parserBeginnings_card_holds:Rows.ParserBeginningsCardSaid:=parserBeginnings_card fun a c _ hc=>beginnings_plain a c hc
end Go.Proofs.YtniaojaeacgpoaaDoor
