/-
  No cell of these rows narrows 'for every input' (looked for: loops, veiled, ifaces, maps, wideKeys, modest, calm, conditions, laid).
  DERIVED. THE GIVEN ROWS OF THIS SEAT. 3 by the template 'for every input the law returns true; each argument reads behind the call as it read before'; 0 by the template 'total and deterministic' (their statements: YtgehgobiibddaaaGreatTotals.lean).
  GIVEN WITH THE SEED: the statements are not yours to turn. If you find one false, say at which input.
  Laid BY PROGRAM, IN A SANDBOX (cutbox-rows.mjs): the forced cells as the released guide's own fill.sh prints them over the translation 0865a4318a45e8ed… (all of the seat's roots in one cut). By AI agents, Wed Nov 11 2026. No macro, syntax, notation, axiom, sorry.
-/
import Derived.Test.YtgehgobiibddaaaGreatChecked
import GoSem.Claim
import GoSem.ClaimJoined
import GoSem.ClaimMapViews
import Derived.JoinedTies
import Derived.KernelRfl
namespace Go.Proofs.YtgehgobiibddaaaGreat
/- THE CELL 'sum', in the pinned program and in every row, IS THE sha256 OF THE DUMP (.gsa) THAT YtgehgobiibddaaaGreatProg.lean LOADS. Nothing in Lean hashes anything: it is a label: what it is worth is what the hold of that sum in a sandbox is worth. -/
noncomputable def Tryz.pinned : Pinned := { name := "ytgehgobiibddaaagreat", sum := "0865a4318a45e8ed31a796de16e23cc225ab8f480518f1fbcad09dbd1695f996", checked := Tryz.checked }
namespace Rows
def none {H : Type} : Left H := { results := [], args := [] }

/-- 'chargeparklaw43.AuditorAccepts': WHATEVER THE INPUT: true; the input reads as it did. -/
def auditorAcceptsSpec : ChangeSpec := { name := "auditorAccepts", fn := fun _ => fun
  | [d1, d2, d3, d4, d5] => { results := [.lit (.bool true)], args := [d1, d2, d3, d4, d5] }
  | _ => none }
def auditorAcceptsRow : OpenClaim := { program := "ytgehgobiibddaaagreat", sum := "0865a4318a45e8ed31a796de16e23cc225ab8f480518f1fbcad09dbd1695f996", func := "chargepark/chargeparklaw43.AuditorAccepts", spec := "auditorAccepts", unfollowed := true, recurses := true, apart := false }
def AuditorAcceptsSaid : Prop := auditorAcceptsRow.holds Tryz.pinned (OpenSpec.ofChange auditorAcceptsSpec)

/-- ITS FALSE NEIGHBOUR: 'it returns false'. Refute it at one input. -/
def auditorAcceptsWrong : ChangeSpec := { name := "auditorAccepts", fn := fun _ => fun
  | [d1, d2, d3, d4, d5] => { results := [.lit (.bool false)], args := [d1, d2, d3, d4, d5] }
  | _ => none }
def AuditorAcceptsWrongFalsely : Prop := auditorAcceptsRow.holds Tryz.pinned (OpenSpec.ofChange auditorAcceptsWrong)

/-- 'chargeparklaw43.AuditorTariff': WHATEVER THE INPUT: true; the input reads as it did. -/
def auditorTariffSpec : ChangeSpec := { name := "auditorTariff", fn := fun _ => fun
  | [d1, d2, d3] => { results := [.lit (.bool true)], args := [d1, d2, d3] }
  | _ => none }
def auditorTariffRow : OpenClaim := { program := "ytgehgobiibddaaagreat", sum := "0865a4318a45e8ed31a796de16e23cc225ab8f480518f1fbcad09dbd1695f996", func := "chargepark/chargeparklaw43.AuditorTariff", spec := "auditorTariff", unfollowed := true, recurses := true, apart := false }
def AuditorTariffSaid : Prop := auditorTariffRow.holds Tryz.pinned (OpenSpec.ofChange auditorTariffSpec)

/-- ITS FALSE NEIGHBOUR: 'it returns false'. Refute it at one input. -/
def auditorTariffWrong : ChangeSpec := { name := "auditorTariff", fn := fun _ => fun
  | [d1, d2, d3] => { results := [.lit (.bool false)], args := [d1, d2, d3] }
  | _ => none }
def AuditorTariffWrongFalsely : Prop := auditorTariffRow.holds Tryz.pinned (OpenSpec.ofChange auditorTariffWrong)

/-- 'chargeparklaw43.AuditorExactly': WHATEVER THE INPUT: true; the input reads as it did. -/
def auditorExactlySpec : ChangeSpec := { name := "auditorExactly", fn := fun _ => fun
  | [d] => { results := [.lit (.bool true)], args := [d] }
  | _ => none }
def auditorExactlyRow : OpenClaim := { program := "ytgehgobiibddaaagreat", sum := "0865a4318a45e8ed31a796de16e23cc225ab8f480518f1fbcad09dbd1695f996", func := "chargepark/chargeparklaw43.AuditorExactly", spec := "auditorExactly", unfollowed := true, recurses := true, apart := false }
def AuditorExactlySaid : Prop := auditorExactlyRow.holds Tryz.pinned (OpenSpec.ofChange auditorExactlySpec)

/-- ITS FALSE NEIGHBOUR: 'it returns false'. Refute it at one input. -/
def auditorExactlyWrong : ChangeSpec := { name := "auditorExactly", fn := fun _ => fun
  | [d] => { results := [.lit (.bool false)], args := [d] }
  | _ => none }
def AuditorExactlyWrongFalsely : Prop := auditorExactlyRow.holds Tryz.pinned (OpenSpec.ofChange auditorExactlyWrong)

/- THE SECOND FORM. 'bulk': how many values and letters a reading holds, each counted each time it is reached (what is shared counts as often as it is met; a slice's spare places count too). A statement '..UptoSaid' is the law's where the arguments, and the package variables that the reading takes, are together of bulk at most 1048576: NARROWER than '..Said'. Prove '..Said' where nothing that the law and all that it calls make is longer than what came in: it says more and counts as full. Else prove '..UptoSaid'. A law counts once. -/
mutual
def uptoBulk {H : Type} : DataW H → Nat
  | .lit (.string bytes) => bytes.length + 1
  | .lit _ => 1
  | .nil => 1
  | .ptr d => uptoBulk d + 1
  | .slice elems spare => uptoBulkAll elems + uptoBulkAll spare + 1
  | .agg parts => uptoBulkAll parts + 1
  | .iface _ d => uptoBulk d + 1
  | .map entries => uptoBulkEntries entries + 1
  | .held _ => 1
def uptoBulkAll {H : Type} : List (DataW H) → Nat
  | [] => 0
  | d :: r => uptoBulk d + uptoBulkAll r
def uptoBulkEntries {H : Type} : List (Lit × DataW H) → Nat
  | [] => 0
  | x :: r => uptoBulkEntry x + uptoBulkEntries r
def uptoBulkEntry {H : Type} : Lit × DataW H → Nat
  | (.string bytes, d) => bytes.length + uptoBulk d + 1
  | (_, d) => uptoBulk d + 1
 end
def uptoSmall : (H : Type) → List (DataW H) → Bool := fun _ ds => decide (uptoBulkAll ds ≤ 1048576)
def OpenSpec.upto (s : _root_.Go.ChangeSpec) : _root_.Go.OpenSpec := { _root_.Go.OpenSpec.ofChange s with cond := some uptoSmall }

/-- 'chargeparklaw43.AuditorAccepts', WHERE WHAT IT READS IS OF BULK AT MOST 1048576: true; the input reads as it did. -/
def auditorAcceptsUptoRow : OpenClaim := { program := "ytgehgobiibddaaagreat", sum := "0865a4318a45e8ed31a796de16e23cc225ab8f480518f1fbcad09dbd1695f996", func := "chargepark/chargeparklaw43.AuditorAccepts", spec := "auditorAccepts", unfollowed := true, recurses := true, apart := false, narrowed := true }
def AuditorAcceptsUptoSaid : Prop := auditorAcceptsUptoRow.holds Tryz.pinned (OpenSpec.upto auditorAcceptsSpec)

/-- 'chargeparklaw43.AuditorTariff', WHERE WHAT IT READS IS OF BULK AT MOST 1048576: true; the input reads as it did. -/
def auditorTariffUptoRow : OpenClaim := { program := "ytgehgobiibddaaagreat", sum := "0865a4318a45e8ed31a796de16e23cc225ab8f480518f1fbcad09dbd1695f996", func := "chargepark/chargeparklaw43.AuditorTariff", spec := "auditorTariff", unfollowed := true, recurses := true, apart := false, narrowed := true }
def AuditorTariffUptoSaid : Prop := auditorTariffUptoRow.holds Tryz.pinned (OpenSpec.upto auditorTariffSpec)

/-- 'chargeparklaw43.AuditorExactly', WHERE WHAT IT READS IS OF BULK AT MOST 1048576: true; the input reads as it did. -/
def auditorExactlyUptoRow : OpenClaim := { program := "ytgehgobiibddaaagreat", sum := "0865a4318a45e8ed31a796de16e23cc225ab8f480518f1fbcad09dbd1695f996", func := "chargepark/chargeparklaw43.AuditorExactly", spec := "auditorExactly", unfollowed := true, recurses := true, apart := false, narrowed := true }
def AuditorExactlyUptoSaid : Prop := auditorExactlyUptoRow.holds Tryz.pinned (OpenSpec.upto auditorExactlySpec)

end Rows
end Go.Proofs.YtgehgobiibddaaaGreat
