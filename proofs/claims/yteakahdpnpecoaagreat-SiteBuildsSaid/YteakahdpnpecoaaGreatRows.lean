/-
  NARROWER THAN 'FOR EVERY INPUT', by the rows' own cells (each row's printed sentence says how): SiteBuilds: loops · SiteNames: loops · SiteMissing: loops · SiteOffsets: loops.
  DERIVED. THE GIVEN ROWS OF THIS SEAT. 4 by the template 'for every input the law returns true; each argument reads behind the call as it read before'; 0 by the template 'total and deterministic' (their statements: YteakahdpnpecoaaGreatTotals.lean).
  GIVEN WITH THE SEED: the statements are not yours to turn. If you find one false, say at which input.
  Laid BY PROGRAM, IN A SANDBOX (cutbox-rows.mjs): the forced cells as the released guide's own fill.sh prints them over the translation adf698b69417adb8… (all of the seat's roots in one cut). By AI agents, Wed Nov 11 2026. No macro, syntax, notation, axiom, sorry.
-/
import Derived.Test.YteakahdpnpecoaaGreatChecked
import GoSem.Claim
import GoSem.ClaimJoined
import GoSem.ClaimMapViews
import Derived.JoinedTies
import Derived.KernelRfl
namespace Go.Proofs.YteakahdpnpecoaaGreat
/- THE CELL 'sum', in the pinned program and in every row, IS THE sha256 OF THE DUMP (.gsa) THAT YteakahdpnpecoaaGreatProg.lean LOADS. Nothing in Lean hashes anything: it is a label: what it is worth is what the hold of that sum in a sandbox is worth. -/
noncomputable def Tryz.pinned : Pinned := { name := "yteakahdpnpecoaagreat", sum := "adf698b69417adb8b21a453a84bce48d17f1117e73c3ff7a10c56a0bd69e0cf8", checked := Tryz.checked }
namespace Rows
def none {H : Type} : Left H := { results := [], args := [] }

/-- 'chargeparklaw04.SiteBuilds': WHATEVER THE INPUT: true; the input reads as it did. -/
def siteBuildsSpec : ChangeSpec := { name := "siteBuilds", fn := fun _ => fun
  | [d] => { results := [.lit (.bool true)], args := [d] }
  | _ => none }
def siteBuildsRow : OpenClaim := { program := "yteakahdpnpecoaagreat", sum := "adf698b69417adb8b21a453a84bce48d17f1117e73c3ff7a10c56a0bd69e0cf8", func := "chargepark/chargeparklaw04.SiteBuilds", spec := "siteBuilds", unfollowed := true, recurses := true, loops := true, plainKeys := false, apart := false }
def SiteBuildsSaid : Prop := siteBuildsRow.holds Tryz.pinned (OpenSpec.ofChange siteBuildsSpec)

/-- ITS FALSE NEIGHBOUR: 'it returns false'. Refute it at one input. -/
def siteBuildsWrong : ChangeSpec := { name := "siteBuilds", fn := fun _ => fun
  | [d] => { results := [.lit (.bool false)], args := [d] }
  | _ => none }
def SiteBuildsWrongFalsely : Prop := siteBuildsRow.holds Tryz.pinned (OpenSpec.ofChange siteBuildsWrong)

/-- 'chargeparklaw04.SiteNames': WHATEVER THE INPUT: true; the input reads as it did. -/
def siteNamesSpec : ChangeSpec := { name := "siteNames", fn := fun _ => fun
  | [d] => { results := [.lit (.bool true)], args := [d] }
  | _ => none }
def siteNamesRow : OpenClaim := { program := "yteakahdpnpecoaagreat", sum := "adf698b69417adb8b21a453a84bce48d17f1117e73c3ff7a10c56a0bd69e0cf8", func := "chargepark/chargeparklaw04.SiteNames", spec := "siteNames", unfollowed := true, recurses := true, loops := true, plainKeys := false, apart := false }
def SiteNamesSaid : Prop := siteNamesRow.holds Tryz.pinned (OpenSpec.ofChange siteNamesSpec)

/-- ITS FALSE NEIGHBOUR: 'it returns false'. Refute it at one input. -/
def siteNamesWrong : ChangeSpec := { name := "siteNames", fn := fun _ => fun
  | [d] => { results := [.lit (.bool false)], args := [d] }
  | _ => none }
def SiteNamesWrongFalsely : Prop := siteNamesRow.holds Tryz.pinned (OpenSpec.ofChange siteNamesWrong)

/-- 'chargeparklaw04.SiteMissing': WHATEVER THE INPUT: true; the input reads as it did. -/
def siteMissingSpec : ChangeSpec := { name := "siteMissing", fn := fun _ => fun
  | [d1, d2, d3] => { results := [.lit (.bool true)], args := [d1, d2, d3] }
  | _ => none }
def siteMissingRow : OpenClaim := { program := "yteakahdpnpecoaagreat", sum := "adf698b69417adb8b21a453a84bce48d17f1117e73c3ff7a10c56a0bd69e0cf8", func := "chargepark/chargeparklaw04.SiteMissing", spec := "siteMissing", unfollowed := true, recurses := true, loops := true, plainKeys := false, apart := false }
def SiteMissingSaid : Prop := siteMissingRow.holds Tryz.pinned (OpenSpec.ofChange siteMissingSpec)

/-- ITS FALSE NEIGHBOUR: 'it returns false'. Refute it at one input. -/
def siteMissingWrong : ChangeSpec := { name := "siteMissing", fn := fun _ => fun
  | [d1, d2, d3] => { results := [.lit (.bool false)], args := [d1, d2, d3] }
  | _ => none }
def SiteMissingWrongFalsely : Prop := siteMissingRow.holds Tryz.pinned (OpenSpec.ofChange siteMissingWrong)

/-- 'chargeparklaw04.SiteOffsets': WHATEVER THE INPUT: true; the input reads as it did. -/
def siteOffsetsSpec : ChangeSpec := { name := "siteOffsets", fn := fun _ => fun
  | [d] => { results := [.lit (.bool true)], args := [d] }
  | _ => none }
def siteOffsetsRow : OpenClaim := { program := "yteakahdpnpecoaagreat", sum := "adf698b69417adb8b21a453a84bce48d17f1117e73c3ff7a10c56a0bd69e0cf8", func := "chargepark/chargeparklaw04.SiteOffsets", spec := "siteOffsets", unfollowed := true, recurses := true, loops := true, plainKeys := false, apart := false }
def SiteOffsetsSaid : Prop := siteOffsetsRow.holds Tryz.pinned (OpenSpec.ofChange siteOffsetsSpec)

/-- ITS FALSE NEIGHBOUR: 'it returns false'. Refute it at one input. -/
def siteOffsetsWrong : ChangeSpec := { name := "siteOffsets", fn := fun _ => fun
  | [d] => { results := [.lit (.bool false)], args := [d] }
  | _ => none }
def SiteOffsetsWrongFalsely : Prop := siteOffsetsRow.holds Tryz.pinned (OpenSpec.ofChange siteOffsetsWrong)

/- THE SECOND FORM. 'bulk': how many values and letters a reading holds, each counted each time it is reached (what is shared counts as often as it is met; a slice's spare places count too). A statement '..UptoSaid' is the law's where the arguments, and the package variables that the reading takes, are together of bulk at most 1048576: NARROWER than '..Said'. Prove '..Said' where nothing that the law and all that it calls make is longer than what came in: it says more and counts as full. Else prove '..UptoSaid'. A law counts once. -/
mutual
def uptoBulk {H : Type} : DataW H → Nat
  | .lit (.string bytes) => bytes.length + 1
  | .lit _ => 1
  | .nil => 1
  | .ptr d => uptoBulk d + 1
  | .slice elems spare => uptoBulkAll elems + uptoBulkAll spare + 1
  | .agg parts => uptoBulkAll parts + 1
  | .iface _ d => uptoBulk d + 1
  | .map entries => uptoBulkEntries entries + 1
  | .held _ => 1
def uptoBulkAll {H : Type} : List (DataW H) → Nat
  | [] => 0
  | d :: r => uptoBulk d + uptoBulkAll r
def uptoBulkEntries {H : Type} : List (Lit × DataW H) → Nat
  | [] => 0
  | x :: r => uptoBulkEntry x + uptoBulkEntries r
def uptoBulkEntry {H : Type} : Lit × DataW H → Nat
  | (.string bytes, d) => bytes.length + uptoBulk d + 1
  | (_, d) => uptoBulk d + 1
 end
def uptoSmall : (H : Type) → List (DataW H) → Bool := fun _ ds => decide (uptoBulkAll ds ≤ 1048576)
def OpenSpec.upto (s : _root_.Go.ChangeSpec) : _root_.Go.OpenSpec := { _root_.Go.OpenSpec.ofChange s with cond := some uptoSmall }

/-- 'chargeparklaw04.SiteBuilds', WHERE WHAT IT READS IS OF BULK AT MOST 1048576: true; the input reads as it did. -/
def siteBuildsUptoRow : OpenClaim := { program := "yteakahdpnpecoaagreat", sum := "adf698b69417adb8b21a453a84bce48d17f1117e73c3ff7a10c56a0bd69e0cf8", func := "chargepark/chargeparklaw04.SiteBuilds", spec := "siteBuilds", unfollowed := true, recurses := true, loops := true, plainKeys := false, apart := false, narrowed := true }
def SiteBuildsUptoSaid : Prop := siteBuildsUptoRow.holds Tryz.pinned (OpenSpec.upto siteBuildsSpec)

/-- 'chargeparklaw04.SiteNames', WHERE WHAT IT READS IS OF BULK AT MOST 1048576: true; the input reads as it did. -/
def siteNamesUptoRow : OpenClaim := { program := "yteakahdpnpecoaagreat", sum := "adf698b69417adb8b21a453a84bce48d17f1117e73c3ff7a10c56a0bd69e0cf8", func := "chargepark/chargeparklaw04.SiteNames", spec := "siteNames", unfollowed := true, recurses := true, loops := true, plainKeys := false, apart := false, narrowed := true }
def SiteNamesUptoSaid : Prop := siteNamesUptoRow.holds Tryz.pinned (OpenSpec.upto siteNamesSpec)

/-- 'chargeparklaw04.SiteMissing', WHERE WHAT IT READS IS OF BULK AT MOST 1048576: true; the input reads as it did. -/
def siteMissingUptoRow : OpenClaim := { program := "yteakahdpnpecoaagreat", sum := "adf698b69417adb8b21a453a84bce48d17f1117e73c3ff7a10c56a0bd69e0cf8", func := "chargepark/chargeparklaw04.SiteMissing", spec := "siteMissing", unfollowed := true, recurses := true, loops := true, plainKeys := false, apart := false, narrowed := true }
def SiteMissingUptoSaid : Prop := siteMissingUptoRow.holds Tryz.pinned (OpenSpec.upto siteMissingSpec)

/-- 'chargeparklaw04.SiteOffsets', WHERE WHAT IT READS IS OF BULK AT MOST 1048576: true; the input reads as it did. -/
def siteOffsetsUptoRow : OpenClaim := { program := "yteakahdpnpecoaagreat", sum := "adf698b69417adb8b21a453a84bce48d17f1117e73c3ff7a10c56a0bd69e0cf8", func := "chargepark/chargeparklaw04.SiteOffsets", spec := "siteOffsets", unfollowed := true, recurses := true, loops := true, plainKeys := false, apart := false, narrowed := true }
def SiteOffsetsUptoSaid : Prop := siteOffsetsUptoRow.holds Tryz.pinned (OpenSpec.upto siteOffsetsSpec)

end Rows
end Go.Proofs.YteakahdpnpecoaaGreat
