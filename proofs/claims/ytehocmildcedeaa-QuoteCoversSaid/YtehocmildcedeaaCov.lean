/-
  Proved: QuoteCovers. Wider limits cover what narrower ones cover; a valid session is covered by its own minutes and energy, and not by less of either. No conditions beyond those of the given statement.
-/
import Derived.Test.YtehocmildcedeaaCov03
namespace Go.Proofs
open Go Go.Abs
set_option maxRecDepth 100000
set_option linter.unusedVariables false
theorem g_law35_QuoteCovers_ok (n : Nat) (a0s : GSession) (a1from : Int) (a2to : Int) (a3energy : Int) (a4early : Int) (a5late : Int) (a6more : Int) : ∀ r, g_law35_QuoteCovers n a0s a1from a2to a3energy a4early a5late a6more = some r → PCall Try.prog 6 [ag (GSession.cs a0s), I a1from, I a2to, I a3energy, B8 a4early, B8 a5late, .p (.val (.int .u16 a6more))] (.ret (B r)) := by
 refine pcall_sim (X := fun r : Bool => AEnd.ret (B r)) Try.func6 rfl Try.ntmps6 rfl ?_
 unfold g_law35_QuoteCovers
 refine sim_run Try.fm ⟨[1, 2, 3, 4, 5, 6, 7], [7], [], []⟩ ⟨[(1, I a1from), (2, I a2to), (3, I a3energy), (4, B8 a4early), (5, B8 a5late), (6, .p (.val (.int .u16 a6more))), (7, .ptr 7 0)], [(7, .box 31 (bxc (GSession.cs a0s)))]⟩ krf ?_
 refine sim_seq ?_
 refine sim_reg ?_
 refine xs_call [] krf (g_law35_head_ok n) krf krf (fun _ => by kernel_rfl) (fun r1 => ?_)
 refine xs_run 1 krf ?_
 refine xs_end ?_
 refine sq_nk ⟨[1, 2, 3, 4, 5, 6, 7, 15], [7], [], []⟩ ⟨[(1, I a1from), (2, I a2to), (3, I a3energy), (4, B8 a4early), (5, B8 a5late), (6, .p (.val (.int .u16 a6more))), (7, .ptr 7 0), (15, B r1)], [(7, .box 31 (bxc (GSession.cs a0s)))]⟩ krf ?_
 refine sim_seq ?_
 refine sim_run Try.fm ⟨[1, 2, 3, 4, 5, 6, 7, 15, 26], [7], [], []⟩ ⟨[(1, I a1from), (2, I a2to), (3, I a3energy), (4, B8 a4early), (5, B8 a5late), (6, .p (.val (.int .u16 a6more))), (7, .ptr 7 0), (15, B r1), (26, B (ltI 60 (lenI (List.map GSlice.cs a0s.Slices))))], [(7, .box 31 (bxc (GSession.cs a0s)))]⟩ krf ?_
 refine sim_cond (ltI 60 (lenI (List.map GSlice.cs a0s.Slices))) krf ?_ ?_
 ·refine sim_run Try.fm ⟨[14], [], [], []⟩ ⟨[(14, B r1)], []⟩ krf ?_
  refine sim_ret ?_
  refine sq_r ?_
  exact rq_ret (.id) krf krf krf
 ·refine sim_skip ?_
  refine sq_nk ⟨[1, 2, 3, 4, 5, 6, 7, 15], [7], [], []⟩ ⟨[(1, I a1from), (2, I a2to), (3, I a3energy), (4, B8 a4early), (5, B8 a5late), (6, .p (.val (.int .u16 a6more))), (7, .ptr 7 0), (15, B r1)], [(7, .box 31 (bxc (GSession.cs a0s)))]⟩ krf ?_
  refine sim_run Try.fm ⟨[1, 2, 3, 7, 15, 16, 17, 18], [7], [], []⟩ ⟨[(1, I a1from), (2, I a2to), (3, I a3energy), (7, .ptr 7 0), (15, B r1), (16, I (wi (a1from - (wi a4early)))), (17, I (wi (a2to + (wi a5late)))), (18, I (wi (a3energy + (wi a6more))))], [(7, .box 31 (bxc (GSession.cs a0s)))]⟩ krf ?_
  refine sim_seq ?_
  refine sim_bind (fun j2 => ⟨[(1, I a1from), (2, I a2to), (3, I a3energy), (7, .ptr 7 0), (15, B r1), (58, B j2)], [(7, .box 31 (bxc (GSession.cs a0s)))]⟩ : Bool → St) ?_ ?_
  ·refine sim_reg ?_
   refine xs_run 4 krf ?_
   refine xs_call [] krf (g_quote_Covers_ok n a0s a1from a2to a3energy) krf krf (fun _ => by kernel_rfl) (fun r3 => ?_)
   refine xs_run 1 krf ?_
   refine xs_split r3 (fun h4 => ?_) (fun h4 => ?_)
   ·refine xs_one (want_tt krf h4) krf ?_
    refine xs_run 2 krf ?_
    refine xs_call [] krf (g_ref35_Limits_ok n (wi (a1from - (wi a4early))) (wi (a2to + (wi a5late))) (wi (a3energy + (wi a6more)))) krf krf (fun _ => by kernel_rfl) (fun r5 => ?_)
    refine xs_run 2 krf ?_
    refine xs_split r5 (fun h6 => ?_) (fun h6 => ?_)
    ·refine xs_one (want_tt krf h6) krf ?_
     refine xs_run 3 krf ?_
     refine xs_call [] krf (g_quote_Covers_ok n a0s (wi (a1from - (wi a4early))) (wi (a2to + (wi a5late))) (wi (a3energy + (wi a6more)))) krf krf (fun _ => by kernel_rfl) (fun r7 => ?_)
     refine xs_run 2 krf ?_
     refine xs_end ?_
     exact nq_n (!r7) ⟨[1, 2, 3, 7, 15, 58], [7], [], []⟩ krf
    ·refine xs_no (want_tf krf h6) krf ?_
     refine xs_run 6 krf ?_
     refine xs_end ?_
     exact nq_n false ⟨[1, 2, 3, 7, 15, 58], [7], [], []⟩ krf
   ·refine xs_no (want_tf krf h4) krf ?_
    refine xs_run 12 krf ?_
    refine xs_end ?_
    exact nq_n false ⟨[1, 2, 3, 7, 15, 58], [7], [], []⟩ krf
  ·rintro j2
   refine sim_cond j2 krf ?_ ?_
   ·refine sim_run Try.fm ⟨[14], [], [], []⟩ ⟨[(14, B false)], []⟩ krf ?_
    refine sim_ret ?_
    refine sq_r ?_
    exact rq_ret (.id) krf krf krf
   ·refine sim_skip ?_
    refine sq_nk ⟨[1, 2, 3, 7, 15], [7], [], []⟩ ⟨[(1, I a1from), (2, I a2to), (3, I a3energy), (7, .ptr 7 0), (15, B r1)], [(7, .box 31 (bxc (GSession.cs a0s)))]⟩ krf ?_
    refine sim_seq ?_
    refine sim_seq ?_
    refine sim_reg ?_
    refine xs_run 1 krf ?_
    refine xs_call [] krf (g_bill_Valid_ok n a0s) krf krf (fun _ => by kernel_rfl) (fun r8 => ?_)
    refine xs_run 1 krf ?_
    refine xs_end ?_
    refine sq_nk ⟨[1, 2, 3, 7, 15, 61], [7], [], []⟩ ⟨[(1, I a1from), (2, I a2to), (3, I a3energy), (7, .ptr 7 0), (15, B r1), (61, B (!r8))], [(7, .box 31 (bxc (GSession.cs a0s)))]⟩ krf ?_
    refine sim_cond (!r8) krf ?_ ?_
    ·refine sim_bind (fun j9 => ⟨[(14, B j9)], []⟩ : Bool → St) ?_ ?_
     ·refine sim_reg ?_
      refine xs_run 2 krf ?_
      refine xs_split r1 (fun h10 => ?_) (fun h10 => ?_)
      ·refine xs_one (want_tt krf h10) krf ?_
       refine xs_run 3 krf ?_
       refine xs_call [] krf (g_quote_Covers_ok n a0s a1from a2to a3energy) krf krf (fun _ => by kernel_rfl) (fun r11 => ?_)
       refine xs_run 3 krf ?_
       refine xs_end ?_
       exact nq_n (!r11) ⟨[14], [], [], []⟩ krf
      ·refine xs_no (want_tf krf h10) krf ?_
       refine xs_run 7 krf ?_
       refine xs_end ?_
       exact nq_n false ⟨[14], [], [], []⟩ krf
     ·rintro j9
      refine sim_ret ?_
      refine sq_r ?_
      exact rq_ret (.id) krf krf krf
    ·refine sim_skip ?_
     refine sq_nk ⟨[7, 15], [7], [], []⟩ ⟨[(7, .ptr 7 0), (15, B r1)], [(7, .box 31 (bxc (GSession.cs a0s)))]⟩ krf ?_
     refine sim_run Try.fm ⟨[7, 15, 19], [7], [], []⟩ ⟨[(7, .ptr 7 0), (15, B r1), (19, I 0)], [(7, .box 31 (bxc (GSession.cs a0s)))]⟩ krf ?_
     refine sim_bind (fun j12 => ⟨[(7, .ptr 7 0), (15, B r1), (19, I j12)], [(7, .box 31 (bxc (GSession.cs a0s)))]⟩ : Int → St) ?_ ?_
     ·refine sim_run Try.fm ⟨[7, 15, 19, 72, 73, 74], [7], [], []⟩ ⟨[(7, .ptr 7 0), (15, B r1), (19, I 0), (72, .p (.sl 2 (List.map GSlice.cs a0s.Slices))), (73, I (lenI (List.map GSlice.cs a0s.Slices))), (74, I 0)], [(7, .box 31 (bxc (GSession.cs a0s)))]⟩ krf ?_
      refine sim_block ?_
      refine sim_loop (fun (l13_1, l13_2) => ⟨[(7, .ptr 7 0), (15, B r1), (19, I l13_1), (72, .p (.sl 2 (List.map GSlice.cs a0s.Slices))), (73, I (lenI (List.map GSlice.cs a0s.Slices))), (74, I l13_2)], [(7, .box 31 (bxc (GSession.cs a0s)))]⟩ : (Int × Int) → St) (weak_shr (K := ⟨[7, 15, 19, 72, 73, 74], [7], [], []⟩) krf) ?_
      rintro recl13 ⟨l13_1, l13_2⟩
      show SimE (g_law35_QuoteCovers_l13 a0s recl13 l13_1 l13_2) _ _ _ _ _ _
      unfold g_law35_QuoteCovers_l13
      refine sim_run Try.fm ⟨[7, 15, 19, 72, 73, 74, 75], [7], [], []⟩ ⟨[(7, .ptr 7 0), (15, B r1), (19, I l13_1), (72, .p (.sl 2 (List.map GSlice.cs a0s.Slices))), (73, I (lenI (List.map GSlice.cs a0s.Slices))), (74, I l13_2), (75, B (ltI l13_2 (lenI (List.map GSlice.cs a0s.Slices))))], [(7, .box 31 (bxc (GSession.cs a0s)))]⟩ krf ?_
      refine sim_seq ?_
      refine sim_cond (ltI l13_2 (lenI (List.map GSlice.cs a0s.Slices))) krf ?_ ?_
      ·refine sim_skip ?_
       refine sq_nk ⟨[7, 15, 19, 72, 73, 74], [7], [], []⟩ ⟨[(7, .ptr 7 0), (15, B r1), (19, I l13_1), (72, .p (.sl 2 (List.map GSlice.cs a0s.Slices))), (73, I (lenI (List.map GSlice.cs a0s.Slices))), (74, I l13_2)], [(7, .box 31 (bxc (GSession.cs a0s)))]⟩ krf ?_
       refine sim_seq ?_
       refine sim_block ?_
       refine sim_seq ?_
       refine sim_reg ?_
       refine xs_get krf krf (aop_idx (e := 49) (S := 2) (enc := GSlice.cs) (l := a0s.Slices) (k := .i64) (n := l13_2) (sv := .p (.sl 2 (List.map GSlice.cs a0s.Slices))) rfl krf krf krf krf krf) (fun x14 => ?_)
       refine xs_run 3 krf ?_
       refine xs_end ?_
       refine sq_nk ⟨[7, 15, 19, 21, 72, 73, 74], [7, 21], [], []⟩ ⟨[(7, .ptr 7 0), (15, B r1), (19, I l13_1), (21, .ptr 21 0), (72, .p (.sl 2 (List.map GSlice.cs a0s.Slices))), (73, I (lenI (List.map GSlice.cs a0s.Slices))), (74, I l13_2)], [(7, .box 31 (bxc (GSession.cs a0s))), (21, .box 49 (bxc (GSlice.cs x14)))]⟩ krf ?_
       refine sim_last Try.fm krf ?_
       refine bq_n ?_
       refine sq_nk ⟨[7, 15, 19, 72, 73, 74], [7], [], []⟩ ⟨[(7, .ptr 7 0), (15, B r1), (19, I (wi (l13_1 + x14.Energy))), (72, .p (.sl 2 (List.map GSlice.cs a0s.Slices))), (73, I (lenI (List.map GSlice.cs a0s.Slices))), (74, I l13_2)], [(7, .box 31 (bxc (GSession.cs a0s)))]⟩ krf ?_
       refine sim_last Try.fm krf ?_
       exact kq_n (wi (l13_1 + x14.Energy), wi (l13_2 + 1)) ⟨[7, 15, 19, 72, 73, 74], [7], [], []⟩ krf
      ·refine sim_exit ?_
       refine sq_x ?_
       refine kq_x ?_
       refine bq_hit ?_
       exact nq_n l13_1 ⟨[7, 15, 19], [7], [], []⟩ krf
     ·rintro j12
      refine sim_bind (fun j15 => ⟨[(14, B j15)], []⟩ : Bool → St) ?_ ?_
      ·refine sim_reg ?_
       refine xs_run 2 krf ?_
       refine xs_split r1 (fun h16 => ?_) (fun h16 => ?_)
       ·refine xs_one (want_tt krf h16) krf ?_
        refine xs_run 5 krf ?_
        refine xs_call [] krf (g_quote_Covers_ok n a0s a0s.From a0s.To j12) krf krf (fun _ => by kernel_rfl) (fun r17 => ?_)
        refine xs_run 2 krf ?_
        refine xs_split r17 (fun h18 => ?_) (fun h18 => ?_)
        ·refine xs_one (want_tt krf h18) krf ?_
         refine xs_run 6 krf ?_
         refine xs_call [] krf (g_quote_Covers_ok n a0s (wi (a0s.From + 1)) a0s.To j12) krf krf (fun _ => by kernel_rfl) (fun r19 => ?_)
         refine xs_run 3 krf ?_
         refine xs_split (!r19) (fun h20 => ?_) (fun h20 => ?_)
         ·refine xs_one (want_tt krf h20) krf ?_
          refine xs_run 6 krf ?_
          refine xs_call [] krf (g_quote_Covers_ok n a0s a0s.From (wi (a0s.To - 1)) j12) krf krf (fun _ => by kernel_rfl) (fun r21 => ?_)
          refine xs_run 3 krf ?_
          refine xs_split (!r21) (fun h22 => ?_) (fun h22 => ?_)
          ·refine xs_one (want_tt krf h22) krf ?_
           refine xs_run 6 krf ?_
           refine xs_call [] krf (g_quote_Covers_ok n a0s a0s.From a0s.To (wi (j12 - 1))) krf krf (fun _ => by kernel_rfl) (fun r23 => ?_)
           refine xs_run 3 krf ?_
           refine xs_end ?_
           exact nq_n (!r23) ⟨[14], [], [], []⟩ krf
          ·refine xs_no (want_tf krf h22) krf ?_
           refine xs_run 10 krf ?_
           refine xs_end ?_
           exact nq_n false ⟨[14], [], [], []⟩ krf
         ·refine xs_no (want_tf krf h20) krf ?_
          refine xs_run 21 krf ?_
          refine xs_end ?_
          exact nq_n false ⟨[14], [], [], []⟩ krf
        ·refine xs_no (want_tf krf h18) krf ?_
         refine xs_run 32 krf ?_
         refine xs_end ?_
         exact nq_n false ⟨[14], [], [], []⟩ krf
       ·refine xs_no (want_tf krf h16) krf ?_
        refine xs_run 41 krf ?_
        refine xs_end ?_
        exact nq_n false ⟨[14], [], [], []⟩ krf
      ·rintro j15
       refine sim_ret ?_
       exact rq_ret (.id) krf krf krf
end Go.Proofs
namespace Go.Proofs
open Go Go.Abs
set_option maxRecDepth 100000
set_option linter.unusedVariables false
structure GLine where
 Article : Int
 Amount : Int
deriving DecidableEq
def GLine.cs (x : GLine) : List PV := [VI x.Article, VI x.Amount]
structure GBill where
 Lines : List GLine
 Net : Int
 Tax : Int
 Total : Int
deriving DecidableEq
def GBill.cs (x : GBill) : List PV := [.sl 2 (List.map GLine.cs x.Lines), VI x.Net, VI x.Tax, VI x.Total]
structure GBB where
 article : GArticle
 calendar : GCalendar
 session : GSession
deriving DecidableEq
def GBB.cs (x : GBB) : List PV := [VI x.article.Kind, VI x.article.Days, VI x.article.From, VI x.article.To, VI x.article.Price, VI x.article.Unit, VI x.article.Free, VI x.calendar.Offset, .sl 2 (List.map GChange.cs x.calendar.Changes), .sl 1 (List.map ci x.calendar.Holidays), VI x.session.From, VI x.session.To, VI x.session.End, .sl 2 (List.map GSlice.cs x.session.Slices)]
structure GReading where
 Serial : Int
 Number : Int
 Minute : Int
 Register : Int
 Link : Int
deriving DecidableEq
def GReading.cs (x : GReading) : List PV := [VI x.Serial, VI x.Number, VI x.Minute, VI x.Register, VU x.Link]
structure GClaim where
 Tariff : GTariff
 Calendar : GCalendar
 Readings : List GReading
 Seed : Int
 Session : GSession
 Bill : GBill
deriving DecidableEq
def GClaim.cs (x : GClaim) : List PV := [VS x.Tariff.Name, .sl 7 (List.map GArticle.cs x.Tariff.Articles), VI x.Calendar.Offset, .sl 2 (List.map GChange.cs x.Calendar.Changes), .sl 1 (List.map ci x.Calendar.Holidays), .sl 5 (List.map GReading.cs x.Readings), VU x.Seed, VI x.Session.From, VI x.Session.To, VI x.Session.End, .sl 2 (List.map GSlice.cs x.Session.Slices), .sl 2 (List.map GLine.cs x.Bill.Lines), VI x.Bill.Net, VI x.Bill.Tax, VI x.Bill.Total]
structure GAE where
 Claim : GClaim
 follows : GSession
 bill : GBill
 rate : Int
deriving DecidableEq
def GAE.cs (x : GAE) : List PV := [VS x.Claim.Tariff.Name, .sl 7 (List.map GArticle.cs x.Claim.Tariff.Articles), VI x.Claim.Calendar.Offset, .sl 2 (List.map GChange.cs x.Claim.Calendar.Changes), .sl 1 (List.map ci x.Claim.Calendar.Holidays), .sl 5 (List.map GReading.cs x.Claim.Readings), VU x.Claim.Seed, VI x.Claim.Session.From, VI x.Claim.Session.To, VI x.Claim.Session.End, .sl 2 (List.map GSlice.cs x.Claim.Session.Slices), .sl 2 (List.map GLine.cs x.Claim.Bill.Lines), VI x.Claim.Bill.Net, VI x.Claim.Bill.Tax, VI x.Claim.Bill.Total, VI x.follows.From, VI x.follows.To, VI x.follows.End, .sl 2 (List.map GSlice.cs x.follows.Slices), .sl 2 (List.map GLine.cs x.bill.Lines), VI x.bill.Net, VI x.bill.Tax, VI x.bill.Total, VI x.rate]
end Go.Proofs
namespace Go.Proofs
open Go Go.Abs Go.ChangeShapes Go.WideShapes Go.ChangeAt Go.RowKit Go.Proofs.Ytehocmildcedeaa
set_option maxRecDepth 100000
set_option linter.unusedVariables false
structure GSlice.wf (x : GSlice) : Prop where
 Minute : i64b x.Minute
 Energy : i64b x.Energy
theorem sh_GSlice {d : Nat} {cs : List PV} (h : Sh Try.prog (d + 2) 49 cs) : ∃ r : GSlice, cs = GSlice.cs r ∧ GSlice.wf r := by
 have h := sh_struct Try.underlying49 h
 obtain ⟨_, _, rfl, h0, _, _, rfl, h1, rfl⟩ := h
 obtain ⟨x0, rfl, w0⟩ := sh_i64 Try.underlying3 h0
 obtain ⟨x1, rfl, w1⟩ := sh_i64 Try.underlying3 h1
 exact ⟨⟨x0, x1⟩, rfl, ⟨w0, w1⟩⟩
structure GSession.wf (x : GSession) : Prop where
 From : i64b x.From
 To : i64b x.To
 End : i64b x.End
 Slices : (listb GSlice.wf) x.Slices
theorem sh_GSession {d : Nat} {cs : List PV} (h : Sh Try.prog (d + 4) 31 cs) : ∃ r : GSession, cs = GSession.cs r ∧ GSession.wf r := by
 have h := sh_struct Try.underlying31 h
 obtain ⟨_, _, rfl, h0, _, _, rfl, h1, _, _, rfl, h2, _, _, rfl, h3, rfl⟩ := h
 obtain ⟨x0, rfl, w0⟩ := sh_i64 Try.underlying3 h0
 obtain ⟨x1, rfl, w1⟩ := sh_i64 Try.underlying3 h1
 obtain ⟨x2, rfl, w2⟩ := sh_i64 Try.underlying3 h2
 obtain ⟨x3, rfl, w3⟩ := sh_list (S := 2) (f := GSlice.cs) (W := GSlice.wf) Try.underlying29 krf (fun c h => sh_GSlice h) h3
 exact ⟨⟨x0, x1, x2, x3⟩, rfl, ⟨w0, w1, w2, w3⟩⟩
def QuoteCoversPlain : Prop := ∀ (a0 : GSession) (a1 : Int) (a2 : Int) (a3 : Int) (a4 : Int) (a5 : Int) (a6 : Int), GSession.wf a0 → i64b a1 → i64b a2 → i64b a3 → u8b a4 → u8b a5 → u16b a6 → ∃ n, g_law35_QuoteCovers n a0 a1 a2 a3 a4 a5 a6 = some true
theorem quoteCovers_call (h : QuoteCoversPlain) : ∀ xs, ArgsSh Try.prog 9 Try.f6.params.toList xs → PCall Try.prog 6 xs (.ret (.p (.val (.bool true)))) := by
 intro xs ha
 rw [Try.params6] at ha
 obtain ⟨_, _, rfl, h0, _, _, rfl, h1, _, _, rfl, h2, _, _, rfl, h3, _, _, rfl, h4, _, _, rfl, h5, _, _, rfl, h6, rfl⟩ := ha
 obtain ⟨a0, rfl, w0⟩ := sh_GSession h0
 obtain ⟨a1, rfl, w1⟩ := sh_i64 Try.underlying3 h1
 obtain ⟨a2, rfl, w2⟩ := sh_i64 Try.underlying3 h2
 obtain ⟨a3, rfl, w3⟩ := sh_i64 Try.underlying3 h3
 obtain ⟨a4, rfl, w4⟩ := sh_u8 Try.underlying5 h4
 obtain ⟨a5, rfl, w5⟩ := sh_u8 Try.underlying5 h5
 obtain ⟨a6, rfl, w6⟩ := sh_u16 Try.underlying39 h6
 obtain ⟨n, hn⟩ := h a0 a1 a2 a3 a4 a5 a6 w0 w1 w2 w3 w4 w5 w6
 simp only [avOf_struct Try.underlying31, avOf_int Try.underlying3, avOf_int Try.underlying5, avOf_int Try.underlying39]
 exact g_law35_QuoteCovers_ok n a0 a1 a2 a3 a4 a5 a6 true hn
set_option maxRecDepth 100000 in
theorem quoteCovers_lifted (h : QuoteCoversPlain) (os : Os) (started : os.Started) (H : Type) (enc : TypeId × Value → H) :
  ReturnsInHanded {} Try.checked os 6 .any (Rows.quoteCoversSpec.pre6 enc Try.prog Try.f6 Rows.quoteCoversRow.domain false) (Rows.quoteCoversSpec.post enc Try.prog Try.f6 false true false false) := by
 refine returnsInHanded_of_change (C := Try.checked) krf started krf Try.func6
  (ChangeSpec.witness6 (enc := enc) (C := Try.checked) false ⟨#[], #[.agg #[.int .i64 0, .int .i64 0, .int .i64 0, .slice none 0 0], .int .i64 0, .int .i64 0, .int .i64 0, .int .u8 0, .int .u8 0, .int .u16 0], []⟩ 8 krf krf krf krf) ?_
 intro W base args ds gs before hval hW _ _
 exact law_contract (P := Try.prog) (f := 6) (fn := Try.f6) (s := Rows.quoteCoversSpec) (tb := 4) (d := 9) krf krf krf krf Try.underlying4 rfl
  (fun ds hd => by
   have hd : ds.length = 7 := by rw [hd, show Try.f6.params.size = 7 from by kernel_rfl]
   match ds, hd with
   | [d0, d1, d2, d3, d4, d5, d6], _ => rfl)
  (quoteCovers_call h) hval hW
theorem quoteCovers_said (h : QuoteCoversPlain) : Rows.QuoteCoversSaid :=
 OpenClaim.holds_of_wide 6 Try.f6 rfl rfl rfl rfl rfl rfl rfl ⟨rfl, rfl, rfl, rfl, rfl⟩ rfl rfl rfl rfl rfl krf Try.func6 krf
  (of_decide_eq_true krf) (by unfold Func.isWrapper; first | (rw [if_pos (by decide +kernel)]; kernel_rfl) | (rw [if_neg (by decide +kernel)]; exact ⟨rfl, rfl⟩))
  (fun os started H enc _ => quoteCovers_lifted h os started H enc)
end Go.Proofs
namespace Go.Proofs
open Go Go.Abs
set_option maxRecDepth 100000
set_option linter.unusedVariables false
theorem getI_nat {α : Type} {l : List α} {i : Nat} : getI l (i : Int) = l[i]? := by
 unfold getI; rw [if_neg (by omega)]; simp
theorem wi_id {x : Int} (h1 : -9223372036854775808 ≤ x) (h2 : x ≤ 9223372036854775807) : wi x = x := by
 simp [wi, IntKind.wrap, IntKind.signed, IntKind.bits]; omega
def folB (a r : GReading) : Bool := if r.Serial = a.Serial then decide (a.Minute ≤ r.Minute ∧ a.Register ≤ r.Register) else decide (r.Minute = a.Minute)
def mixB (s x k : Int) : Int := wu ((bXor .u64 s (bAnd .u64 (shrI .u64 (wu x) k) 255)) * 1099511628211)
def mixW (s x : Int) : Int := [56, 48, 40, 32, 24, 16, 8, 0].foldl (fun s k => mixB s x k) s
def linkF (s : Int) (r : GReading) : Int := [r.Serial, r.Number, r.Minute, r.Register].foldl mixW s
def prevLink (seed : Int) (l : List GReading) (i : Nat) : Int := if i = 0 then seed else ((l[i - 1]?).map (·.Link)).getD 0
def chainAt (seed : Int) (l : List GReading) (i : Nat) : Prop := ∀ r ∈ l[i]?, (1 ≤ r.Serial ∧ r.Serial ≤ 1000000) ∧ r.Number = i + 1 ∧ (0 ≤ r.Minute ∧ r.Minute ≤ 52560000) ∧ (0 ≤ r.Register ∧ r.Register ≤ 1000000000) ∧
 (i ≠ 0 → ∀ a ∈ l[i - 1]?, folB a r = true) ∧ r.Link = linkF (prevLink seed l i) r
def chainOk (seed : Int) (l : List GReading) : Prop := (1 ≤ l.length ∧ l.length ≤ 64) ∧ ∀ i, i < l.length → chainAt seed l i
end Go.Proofs
namespace Go.Proofs
open Go Go.Abs
set_option maxRecDepth 100000
set_option linter.unusedVariables false
theorem cond_some {α : Type} {b : Bool} {x y : α} : cond b (some x) (some y) = some (cond b x y) := by cases b <;> rfl
theorem loop_gen {α R A V : Type} {l : List α} (S : A → Int → V) {B : (V → Option R) → V → Option R} {F : A → List α → R} (Inv : Nat → A → Prop) (hlen : l.length ≤ 4611686018427387904)
  (hend : ∀ rec a, Inv l.length a → B rec (S a (l.length : Int)) = some (F a []))
  (hstep : ∀ (rec : V → Option R) (a : A) (i : Nat) (x : α) (r : List α), Inv i a → l.drop i = x :: r → l[i]? = some x → i < l.length → wi ((i : Int) + 1) = ((i + 1 : Nat) : Int) → (∀ a, Inv (i + 1) a → rec (S a ((i + 1 : Nat) : Int)) = some (F a r)) → B rec (S a (i : Int)) = some (F a (x :: r))) :
  ∀ {n : Nat} (i : Nat) (a : A), Inv i a → i ≤ l.length → l.length - i < n → loopN B n (S a (i : Int)) = some (F a (l.drop i))
 | 0, _, _, _, _, h => absurd h (Nat.not_lt_zero _)
 | n + 1, i, a, ha, hi, h => by
  unfold loopN
  by_cases he : i = l.length
  ·subst he; rw [hend _ _ ha]; simp
  ·have hlt : i < l.length := by omega
   have hd : l.drop i = l[i] :: l.drop (i + 1) := by rw [List.drop_eq_getElem_cons hlt]
   rw [hd]
   exact hstep _ a i _ _ ha hd (by simp [hlt]) hlt (by rw [wi_id] <;> omega) (fun a ha => loop_gen S Inv hlen hend hstep (i + 1) a ha (by omega) (by omega))
end Go.Proofs
namespace Go.Proofs
open Go Go.Abs
set_option maxRecDepth 100000
set_option linter.unusedVariables false
def slB (f e : Int) : Int → List GSlice → Bool
 | _, [] => true
 | p, x :: r => decide (f ≤ x.Minute ∧ x.Minute < e ∧ 0 ≤ x.Energy ∧ x.Energy ≤ 10000 ∧ p < x.Minute) && slB f e x.Minute r
def valB (s : GSession) : Bool := decide (0 ≤ s.From ∧ s.From < s.To ∧ s.To ≤ 52560000 ∧ s.To - s.From ≤ 2880 ∧ s.From ≤ s.End ∧ s.End ≤ s.To ∧ s.Slices.length ≤ 48) && slB s.From s.End (s.From - 1) s.Slices
end Go.Proofs
namespace Go.Proofs
open Go Go.Abs
set_option maxRecDepth 100000
set_option linter.unusedVariables false
theorem slB_mem {f e : Int} : ∀ {l : List GSlice} {p : Int}, slB f e p l = true → ∀ x ∈ l, f ≤ x.Minute ∧ x.Minute < e ∧ 0 ≤ x.Energy ∧ x.Energy ≤ 10000
 | [], _, _, x, hx => by cases hx
 | y :: r, p, h, x, hx => by
  simp only [slB, Bool.and_eq_true, decide_eq_true_eq] at h
  rcases List.mem_cons.1 hx with rfl | hx
  ·omega
  ·exact slB_mem h.2 x hx
end Go.Proofs
namespace Go.Proofs
open Go Go.Abs
set_option maxRecDepth 100000
set_option linter.unusedVariables false
theorem b_session (n : Nat) (s : GSession) (hn : 1000 ≤ n) (hl : s.Slices.length ≤ 900) (hb : i64b s.To) : g_bill_Valid n s = some (valB s) := by
 unfold i64b at hb
 unfold g_bill_Valid valB
 simp only [ltI, leI, lenI, List.length_map]
 by_cases c1 : s.From < 0
 ·rw [decide_eq_true c1, cond_true, Option.bind_some, cond_true, decide_eq_false (by omega)]; rfl
 rw [decide_eq_false c1, cond_false]
 by_cases c2 : s.To ≤ s.From
 ·rw [decide_eq_true c2, cond_true, Option.bind_some, cond_true, decide_eq_false (by omega)]; rfl
 rw [decide_eq_false c2, cond_false, wi_id (x := s.To - s.From) (by omega) (by omega)]
 by_cases c4 : 2880 < s.To - s.From
 ·rw [decide_eq_true c4, cond_true, Option.bind_some, cond_true, decide_eq_false (by omega)]; rfl
 rw [decide_eq_false c4, cond_false, Option.bind_some]
 by_cases c3 : 52560000 < s.To
 ·rw [decide_eq_true c3, cond_true, decide_eq_false (by omega)]; rfl
 rw [decide_eq_false c3, cond_false]
 by_cases c5 : s.End < s.From
 ·rw [decide_eq_true c5, cond_true, Option.bind_some, cond_true, decide_eq_false (by omega)]; rfl
 rw [decide_eq_false c5, cond_false]
 by_cases c6 : s.To < s.End
 ·rw [decide_eq_true c6, cond_true, Option.bind_some, cond_true, decide_eq_false (by omega)]; rfl
 rw [decide_eq_false c6, cond_false, Option.bind_some]
 by_cases c7 : s.Slices.length ≤ 48
 rotate_left
 ·rw [decide_eq_true (show (48 : Int) < s.Slices.length by omega), cond_true, decide_eq_false (show ¬ (0 ≤ s.From ∧ s.From < s.To ∧ s.To ≤ 52560000 ∧ s.To - s.From ≤ 2880 ∧ s.From ≤ s.End ∧ s.End ≤ s.To ∧ s.Slices.length ≤ 48) by omega)]; rfl
 rw [decide_eq_false (show ¬ (48 : Int) < s.Slices.length by omega), cond_false, decide_eq_true (show 0 ≤ s.From ∧ s.From < s.To ∧ s.To ≤ 52560000 ∧ s.To - s.From ≤ 2880 ∧ s.From ≤ s.End ∧ s.End ≤ s.To ∧ s.Slices.length ≤ 48 by omega), Bool.true_and, wi_id (x := s.From - 1) (by omega) (by omega)]
 have := loop_gen (l := s.Slices) (fun (a : Int) i => (a, i)) (B := fun recl8 (v : Int × Int) => g_bill_Valid_l8 s recl8 v.1 v.2) (F := slB s.From s.End) (fun i a => s.From - 1 ≤ a) (by omega) ?_ ?_ (n := n) 0 (s.From - 1) (Int.le_refl _) (by omega) (by omega)
 ·exact this
 ·intro rec a ha
  simp only [g_bill_Valid_l8, lenI, List.length_map, ltI]
  rw [decide_eq_false (by omega), cond_false]
  rfl
 ·intro rec a i x r ha hd hx hi hw hr
  simp only [g_bill_Valid_l8, lenI, List.length_map, ltI, leI, getI_nat, hx, Option.bind_some, hw]
  rw [decide_eq_true (by omega), cond_true, slB]
  by_cases d1 : x.Minute ≤ a
  ·rw [decide_eq_true d1, cond_true, Option.bind_some, cond_true, decide_eq_false (by omega)]; rfl
  rw [decide_eq_false d1, cond_false]
  by_cases d2 : s.End ≤ x.Minute
  ·rw [decide_eq_true d2, cond_true, Option.bind_some, cond_true, decide_eq_false (by omega)]; rfl
  rw [decide_eq_false d2, cond_false]
  by_cases d3 : x.Energy < 0
  ·rw [decide_eq_true d3, cond_true, Option.bind_some, cond_true, decide_eq_false (by omega)]; rfl
  rw [decide_eq_false d3, cond_false, Option.bind_some]
  by_cases d4 : 10000 < x.Energy
  ·rw [decide_eq_true d4, cond_true, decide_eq_false (by omega)]; rfl
  rw [decide_eq_false d4, cond_false, hr x.Minute (by omega), decide_eq_true (by omega)]; rfl
end Go.Proofs
namespace Go.Proofs
open Go Go.Abs
set_option maxRecDepth 100000
set_option linter.unusedVariables false
theorem val_sl {s : GSession} (hv : valB s = true) : (0 ≤ s.From ∧ s.From < s.To ∧ s.To ≤ 52560000 ∧ s.To - s.From ≤ 2880 ∧ s.From ≤ s.End ∧ s.End ≤ s.To ∧ s.Slices.length ≤ 48) ∧ ∀ x ∈ s.Slices, s.From ≤ x.Minute ∧ x.Minute < s.End ∧ 0 ≤ x.Energy ∧ x.Energy ≤ 10000 := by
 simp only [valB, Bool.and_eq_true, decide_eq_true_eq] at hv
 exact ⟨hv.1, slB_mem hv.2⟩
end Go.Proofs
namespace Go.Proofs
open Go Go.Abs
set_option maxRecDepth 100000
set_option linter.unusedVariables false
def sumS : List GSlice → Int
 | [] => 0
 | x :: r => x.Energy + sumS r
end Go.Proofs
namespace Go.Proofs
open Go Go.Abs
set_option maxRecDepth 100000
set_option linter.unusedVariables false
def limB (f to e : Int) : Bool := decide (0 ≤ f ∧ f < to ∧ to - f ≤ 2880 ∧ to ≤ 52560000 ∧ 0 ≤ e ∧ e ≤ 480000)
theorem q_limits (n : Nat) (f to e : Int) (hb : i64b to) : g_quote_validLimits n f to e = some (limB f to e) := by
 unfold i64b at hb
 unfold g_quote_validLimits limB
 simp only [leI, ltI]
 by_cases c1 : 0 ≤ f
 rotate_left
 ·rw [decide_eq_false c1, cond_false, Option.bind_some, decide_eq_false (by omega)]
 rw [decide_eq_true c1, cond_true]
 by_cases c2 : f < to
 rotate_left
 ·rw [decide_eq_false c2, cond_false, Option.bind_some, decide_eq_false (by omega)]
 rw [decide_eq_true c2, cond_true, wi_id (x := to - f) (by omega) (by omega)]
 by_cases c3 : to - f ≤ 2880
 rotate_left
 ·rw [decide_eq_false c3, cond_false, Option.bind_some, decide_eq_false (by omega)]
 rw [decide_eq_true c3, cond_true]
 by_cases c4 : to ≤ 52560000
 rotate_left
 ·rw [decide_eq_false c4, cond_false, Option.bind_some, decide_eq_false (by omega)]
 rw [decide_eq_true c4, cond_true]
 by_cases c5 : 0 ≤ e
 rotate_left
 ·rw [decide_eq_false c5, cond_false, Option.bind_some, decide_eq_false (by omega)]
 rw [decide_eq_true c5, cond_true, Option.bind_some]
 congr 1
 by_cases c6 : e ≤ 480000
 ·rw [decide_eq_true c6, decide_eq_true (by omega)]
 ·rw [decide_eq_false c6, decide_eq_false (by omega)]
theorem r_limits (n : Nat) (f to e : Int) (hb : i64b to) : g_ref35_Limits n f to e = some (limB f to e) := by
 unfold i64b at hb
 unfold g_ref35_Limits limB
 simp only [leI, ltI]
 by_cases c1 : 0 ≤ f
 rotate_left
 ·rw [decide_eq_false c1, cond_false, Option.bind_some, decide_eq_false (by omega)]
 rw [decide_eq_true c1, cond_true]
 by_cases c2 : f < to
 rotate_left
 ·rw [decide_eq_false c2, cond_false, Option.bind_some, decide_eq_false (by omega)]
 rw [decide_eq_true c2, cond_true, wi_id (x := to - f) (by omega) (by omega)]
 by_cases c4 : to ≤ 52560000
 rotate_left
 ·rw [decide_eq_false c4, cond_false, Option.bind_some, decide_eq_false (by omega)]
 rw [decide_eq_true c4, cond_true]
 by_cases c3 : to - f ≤ 2880
 rotate_left
 ·rw [decide_eq_false c3, cond_false, Option.bind_some, decide_eq_false (by omega)]
 rw [decide_eq_true c3, cond_true]
 by_cases c5 : 0 ≤ e
 rotate_left
 ·rw [decide_eq_false c5, cond_false, Option.bind_some, decide_eq_false (by omega)]
 rw [decide_eq_true c5, cond_true, Option.bind_some]
 congr 1
 by_cases c6 : e ≤ 480000
 ·rw [decide_eq_true c6, decide_eq_true (by omega)]
 ·rw [decide_eq_false c6, decide_eq_false (by omega)]
theorem limB_spec {f to e : Int} (h : limB f to e = true) : 0 ≤ f ∧ f < to ∧ to - f ≤ 2880 ∧ to ≤ 52560000 ∧ 0 ≤ e ∧ e ≤ 480000 := by
 simpa [limB] using h
def covB (s : GSession) (f to e : Int) : Bool := limB f to e && valB s && decide (f ≤ s.From) && decide (s.To ≤ to) && decide (sumS s.Slices ≤ e)
theorem sumS_range : ∀ (l : List GSlice), (∀ x ∈ l, 0 ≤ x.Energy ∧ x.Energy ≤ 10000) → 0 ≤ sumS l ∧ sumS l ≤ 10000 * l.length
 | [], _ => by
  show (0 : Int) ≤ 0 ∧ (0 : Int) ≤ 10000 * ((0 : Nat) : Int)
  omega
 | x :: r, h => by
  have hx := h x List.mem_cons_self
  have := sumS_range r (fun y hy => h y (List.mem_cons_of_mem _ hy))
  rw [show sumS (x :: r) = x.Energy + sumS r from rfl]
  simp only [List.length_cons]
  omega
theorem q_covers (n : Nat) (s : GSession) (f to e : Int) (hn : 1000 ≤ n) (hl : s.Slices.length ≤ 900) (hb : i64b to) (hs : i64b s.To) : g_quote_Covers n s f to e = some (covB s f to e) := by
 unfold g_quote_Covers covB
 rw [q_limits n f to e hb, b_session n s hn hl hs]
 simp only [Option.bind_some, cond_some, ltI]
 cases hv : limB f to e
 ·rfl
 cases hw : valB s
 ·rfl
 obtain ⟨g1, g2⟩ := val_sl hw
 have hloop : loopN (fun recl7 (v : Int × Int) => g_quote_Covers_l7 s e recl7 v.1 v.2) n (0, 0) = some (decide (sumS s.Slices ≤ e)) := by
  have := loop_gen (l := s.Slices) (fun (a : Int) i => (a, i)) (B := fun recl7 (v : Int × Int) => g_quote_Covers_l7 s e recl7 v.1 v.2) (F := fun a r => decide (a + sumS r ≤ e)) (fun i a => 0 ≤ a ∧ a ≤ 10000 * i) (by omega) ?_ ?_ (n := n) 0 0 (by omega) (by omega) (by omega)
  ·rw [show ((0 : Nat) : Int) = 0 from rfl] at this
   rw [this]
   simp
  ·intro rec a ha
   have h : ltI ((s.Slices.length : Nat) : Int) (lenI (List.map GSlice.cs s.Slices)) = false := by simp [ltI, lenI]
   show g_quote_Covers_l7 s e rec a ((s.Slices.length : Nat) : Int) = _
   unfold g_quote_Covers_l7
   rw [h, cond_false, show sumS [] = 0 from rfl, Int.add_zero]
   rfl
  ·intro rec a i x r ha hd hx hi hw' hr
   have h3 : ltI (i : Int) (lenI (List.map GSlice.cs s.Slices)) = true := by
    simp only [ltI, lenI, List.length_map]
    rw [decide_eq_true (by omega)]
   have hxm := g2 x (List.mem_of_getElem? hx)
   show g_quote_Covers_l7 s e rec a (i : Int) = _
   unfold g_quote_Covers_l7
   rw [h3, cond_true, getI_nat, hx, Option.bind_some, hw', wi_id (x := a + x.Energy) (by omega) (by omega), hr _ (by omega), show sumS (x :: r) = x.Energy + sumS r from rfl, Int.add_assoc]
 by_cases c1 : s.From < f
 ·rw [decide_eq_true c1, decide_eq_false (show ¬ f ≤ s.From by omega)]; rfl
 rw [decide_eq_false c1, decide_eq_true (show f ≤ s.From by omega)]
 by_cases c2 : to < s.To
 ·rw [decide_eq_true c2, decide_eq_false (show ¬ s.To ≤ to by omega)]; rfl
 rw [decide_eq_false c2, decide_eq_true (show s.To ≤ to by omega)]
 exact hloop
end Go.Proofs
namespace Go.Proofs
open Go Go.Abs
set_option maxRecDepth 100000
set_option linter.unusedVariables false
theorem wi_range (x : Int) : i64b (wi x) := by
 unfold i64b
 simp [wi, IntKind.wrap, IntKind.signed, IntKind.bits]
 omega
theorem head35_big : g_law35_head 36893488147419103232 = some true := by kernel_rfl
theorem covers35_plain (s : GSession) (f to e x y z : Int) (hsf : i64b s.From) (hst : i64b s.To) (hf : i64b f) (hto : i64b to) (he : i64b e) (hx : u8b x) (hy : u8b y) (hz : u16b z) : g_law35_QuoteCovers 36893488147419103232 s f to e x y z = some true := by
 unfold g_law35_QuoteCovers
 generalize hn : (36893488147419103232 : Nat) = n
 have hh : g_law35_head n = some true := by rw [← hn]; exact head35_big
 rw [hh, Option.bind_some]
 simp only [ltI, lenI, List.length_map]
 by_cases hl : (60 : Int) < (s.Slices.length : Int)
 ·rw [decide_eq_true hl, cond_true]
 rw [decide_eq_false hl, cond_false]
 have hlen : s.Slices.length ≤ 900 := by omega
 unfold u8b at hx hy
 unfold u16b at hz
 unfold i64b at hf hto he hsf hst
 have w1 : wi x = x := wi_id (by omega) (by omega)
 have w2 : wi y = y := wi_id (by omega) (by omega)
 have w3 : wi z = z := wi_id (by omega) (by omega)
 have cov : ∀ (f to e : Int), i64b to → g_quote_Covers n s f to e = some (covB s f to e) := fun f to e hb => q_covers n s f to e (by omega) hlen hb hst
 have wib : ∀ u : Int, i64b (wi u) := fun u => wi_range u
 rw [w1, w2, w3, cov f to e hto, Option.bind_some, r_limits n _ _ _ (wib _), Option.bind_some, cov _ _ _ (wib _), Option.bind_some]
 have key : (bif covB s f to e then bif limB (wi (f - x)) (wi (to + y)) (wi (e + z)) then some (!covB s (wi (f - x)) (wi (to + y)) (wi (e + z))) else some false else some false) = some false := by
  cases hc : covB s f to e
  ·rfl
  cases hlm : limB (wi (f - x)) (wi (to + y)) (wi (e + z))
  ·rfl
  simp only [covB, Bool.and_eq_true, decide_eq_true_eq] at hc
  obtain ⟨⟨⟨⟨c1, c2⟩, c3⟩, c4⟩, c5⟩ := hc
  have L := limB_spec c1
  have e1 : wi (f - x) = f - x := wi_id (by omega) (by omega)
  have e2 : wi (to + y) = to + y := wi_id (by omega) (by omega)
  have e3 : wi (e + z) = e + z := wi_id (by omega) (by omega)
  rw [e1, e2, e3] at hlm ⊢
  have : covB s (f - x) (to + y) (e + z) = true := by
   simp only [covB, Bool.and_eq_true, decide_eq_true_eq]
   exact ⟨⟨⟨⟨hlm, c2⟩, by omega⟩, by omega⟩, by omega⟩
  rw [this]; rfl
 rw [key, Option.bind_some, cond_false, b_session n s (by omega) hlen hst, Option.bind_some]
 cases hv : valB s
 ·rw [Bool.not_false, cond_true, cond_true, Option.bind_some]
  have : covB s f to e = false := by unfold covB; rw [hv]; simp
  rw [this]; rfl
 rw [Bool.not_true, cond_false]
 obtain ⟨g1, g2⟩ := val_sl hv
 have hloop : loopN (fun recl13 (v : Int × Int) => g_law35_QuoteCovers_l13 s recl13 v.1 v.2) n (0, 0) = some (sumS s.Slices) := by
  have := loop_gen (l := s.Slices) (fun (a : Int) i => (a, i)) (B := fun recl13 (v : Int × Int) => g_law35_QuoteCovers_l13 s recl13 v.1 v.2) (F := fun a r => a + sumS r) (fun i a => 0 ≤ a ∧ a ≤ 10000 * i) (by omega) ?_ ?_ (n := n) 0 0 (by omega) (by omega) (by omega)
  ·rw [show ((0 : Nat) : Int) = 0 from rfl] at this
   rw [this]
   simp
  ·intro rec a ha
   have h : ltI ((s.Slices.length : Nat) : Int) (lenI (List.map GSlice.cs s.Slices)) = false := by simp [ltI, lenI]
   show g_law35_QuoteCovers_l13 s rec a ((s.Slices.length : Nat) : Int) = _
   unfold g_law35_QuoteCovers_l13
   rw [h, cond_false, show sumS [] = 0 from rfl, Int.add_zero]
  ·intro rec a i q r ha hd hq hi hw' hr
   have h3 : ltI (i : Int) (lenI (List.map GSlice.cs s.Slices)) = true := by
    simp only [ltI, lenI, List.length_map]
    rw [decide_eq_true (by omega)]
   have hxm := g2 q (List.mem_of_getElem? hq)
   show g_law35_QuoteCovers_l13 s rec a (i : Int) = _
   unfold g_law35_QuoteCovers_l13
   rw [h3, cond_true, getI_nat, hq, Option.bind_some, hw', wi_id (x := a + q.Energy) (by omega) (by omega), hr _ (by omega), show sumS (q :: r) = q.Energy + sumS r from rfl, Int.add_assoc]
 refine (congrArg (fun o => Option.bind o _) hloop).trans ?_
 have hS := sumS_range s.Slices (fun x hx => by have := g2 x hx; omega)
 rw [Option.bind_some, cond_true]
 generalize hSum : sumS s.Slices = S at hS
 rw [cov _ _ _ hst, Option.bind_some, cov _ _ _ hst, Option.bind_some, cov _ _ _ (wib _), Option.bind_some, cov _ _ _ hst, Option.bind_some]
 have e1 : wi (s.From + 1) = s.From + 1 := wi_id (by omega) (by omega)
 have e2 : wi (s.To - 1) = s.To - 1 := wi_id (by omega) (by omega)
 have e3 : wi (S - 1) = S - 1 := wi_id (by omega) (by omega)
 have k1 : covB s s.From s.To S = true := by
  simp only [covB, Bool.and_eq_true, decide_eq_true_eq]
  refine ⟨⟨⟨⟨?_, hv⟩, Int.le_refl _⟩, Int.le_refl _⟩, by omega⟩
  unfold limB
  rw [decide_eq_true]
  omega
 have k2 : covB s (s.From + 1) s.To S = false := by
  unfold covB
  rw [decide_eq_false (show ¬ s.From + 1 ≤ s.From by omega)]
  simp
 have k3 : covB s s.From (s.To - 1) S = false := by
  unfold covB
  rw [decide_eq_false (show ¬ s.To ≤ s.To - 1 by omega)]
  simp
 have k4 : covB s s.From s.To (S - 1) = false := by
  unfold covB
  rw [decide_eq_false (show ¬ sumS s.Slices ≤ S - 1 by omega)]
  simp
 rw [e1, e2, e3, k1, k2, k3, k4]
 rfl
end Go.Proofs
namespace Go.Proofs.Ytehocmildcedeaa
open Go Go.Abs Go.Proofs
theorem quoteCovers_holds : Rows.QuoteCoversSaid :=
 quoteCovers_said (fun s f to e x y z hs h1 h2 h3 h4 h5 h6 => ⟨_, covers35_plain s f to e x y z hs.From hs.To h1 h2 h3 h4 h5 h6⟩)
end Go.Proofs.Ytehocmildcedeaa
