/-
  NARROWER THAN 'FOR EVERY INPUT', by the rows' own cells (each row's printed sentence says how): DagOrders: loops.
  DERIVED. THE GIVEN ROWS OF THIS SEAT. 2 by the template 'for every input the law returns true; each argument reads behind the call as it read before'; 0 by the template 'total and deterministic' (their statements: YtmjclmmiljlahaaGreatTotals.lean).
  GIVEN WITH THE SEED: the statements are not yours to turn. If you find one false, say at which input.
  Laid BY PROGRAM, IN A SANDBOX (cutbox-rows.mjs): the forced cells as the released guide's own fill.sh prints them over the translation d05fe0adcc9ed78f… (all of the seat's roots in one cut). By AI agents, Wed Nov 11 2026. No macro, syntax, notation, axiom, sorry.
-/
import Derived.Test.YtmjclmmiljlahaaGreatChecked
import GoSem.Claim
import GoSem.ClaimJoined
import GoSem.ClaimMapViews
import Derived.JoinedTies
import Derived.KernelRfl
namespace Go.Proofs.YtmjclmmiljlahaaGreat
/- THE CELL 'sum', in the pinned program and in every row, IS THE sha256 OF THE DUMP (.gsa) THAT YtmjclmmiljlahaaGreatProg.lean LOADS. Nothing in Lean hashes anything: it is a label: what it is worth is what the hold of that sum in a sandbox is worth. -/
noncomputable def Tryz.pinned : Pinned := { name := "ytmjclmmiljlahaagreat", sum := "d05fe0adcc9ed78fe6cb1e4d9162b5abde9786ff417946443605ce74cc6d7af7", checked := Tryz.checked }
namespace Rows
def none {H : Type} : Left H := { results := [], args := [] }

/-- 'coveylaw18.DagStages': WHATEVER THE INPUT: true; the input reads as it did. -/
def dagStagesSpec : ChangeSpec := { name := "dagStages", fn := fun _ => fun
  | [d] => { results := [.lit (.bool true)], args := [d] }
  | _ => none }
def dagStagesRow : OpenClaim := { program := "ytmjclmmiljlahaagreat", sum := "d05fe0adcc9ed78fe6cb1e4d9162b5abde9786ff417946443605ce74cc6d7af7", func := "covey/coveylaw18.DagStages", spec := "dagStages", inPlace := ["internal/bytealg.IndexByteString", "internal/bytealg.IndexString", "slices.overlaps[covey/api.Entry]"], unfollowed := true, recurses := true, named := ["internal/bytealg.MaxLen"], plainKeys := false, apart := false }
def DagStagesSaid : Prop := dagStagesRow.holds Tryz.pinned (OpenSpec.ofChange dagStagesSpec)

/-- ITS FALSE NEIGHBOUR: 'it returns false'. Refute it at one input. -/
def dagStagesWrong : ChangeSpec := { name := "dagStages", fn := fun _ => fun
  | [d] => { results := [.lit (.bool false)], args := [d] }
  | _ => none }
def DagStagesWrongFalsely : Prop := dagStagesRow.holds Tryz.pinned (OpenSpec.ofChange dagStagesWrong)

/-- 'coveylaw18.DagOrders': WHATEVER THE INPUT: true; the input reads as it did. -/
def dagOrdersSpec : ChangeSpec := { name := "dagOrders", fn := fun _ => fun
  | [d1, d2] => { results := [.lit (.bool true)], args := [d1, d2] }
  | _ => none }
def dagOrdersRow : OpenClaim := { program := "ytmjclmmiljlahaagreat", sum := "d05fe0adcc9ed78fe6cb1e4d9162b5abde9786ff417946443605ce74cc6d7af7", func := "covey/coveylaw18.DagOrders", spec := "dagOrders", inPlace := ["internal/bytealg.IndexByteString", "internal/bytealg.IndexString", "slices.overlaps[covey/api.Entry]"], unfollowed := true, recurses := true, named := ["internal/bytealg.MaxLen"], loops := true, plainKeys := false, apart := false }
def DagOrdersSaid : Prop := dagOrdersRow.holds Tryz.pinned (OpenSpec.ofChange dagOrdersSpec)

/-- ITS FALSE NEIGHBOUR: 'it returns false'. Refute it at one input. -/
def dagOrdersWrong : ChangeSpec := { name := "dagOrders", fn := fun _ => fun
  | [d1, d2] => { results := [.lit (.bool false)], args := [d1, d2] }
  | _ => none }
def DagOrdersWrongFalsely : Prop := dagOrdersRow.holds Tryz.pinned (OpenSpec.ofChange dagOrdersWrong)

/- THE SECOND FORM. 'bulk': how many values and letters a reading holds, each counted each time it is reached (what is shared counts as often as it is met; a slice's spare places count too). A statement '..UptoSaid' is the law's where the arguments, and the package variables that the reading takes, are together of bulk at most 1048576: NARROWER than '..Said'. Prove '..Said' where nothing that the law and all that it calls make is longer than what came in: it says more and counts as full. Else prove '..UptoSaid'. A law counts once. -/
mutual
def uptoBulk {H : Type} : DataW H → Nat
  | .lit (.string bytes) => bytes.length + 1
  | .lit _ => 1
  | .nil => 1
  | .ptr d => uptoBulk d + 1
  | .slice elems spare => uptoBulkAll elems + uptoBulkAll spare + 1
  | .agg parts => uptoBulkAll parts + 1
  | .iface _ d => uptoBulk d + 1
  | .map entries => uptoBulkEntries entries + 1
  | .held _ => 1
def uptoBulkAll {H : Type} : List (DataW H) → Nat
  | [] => 0
  | d :: r => uptoBulk d + uptoBulkAll r
def uptoBulkEntries {H : Type} : List (Lit × DataW H) → Nat
  | [] => 0
  | x :: r => uptoBulkEntry x + uptoBulkEntries r
def uptoBulkEntry {H : Type} : Lit × DataW H → Nat
  | (.string bytes, d) => bytes.length + uptoBulk d + 1
  | (_, d) => uptoBulk d + 1
 end
def uptoSmall : (H : Type) → List (DataW H) → Bool := fun _ ds => decide (uptoBulkAll ds ≤ 1048576)
def OpenSpec.upto (s : _root_.Go.ChangeSpec) : _root_.Go.OpenSpec := { _root_.Go.OpenSpec.ofChange s with cond := some uptoSmall }

/-- 'coveylaw18.DagStages', WHERE WHAT IT READS IS OF BULK AT MOST 1048576: true; the input reads as it did. -/
def dagStagesUptoRow : OpenClaim := { program := "ytmjclmmiljlahaagreat", sum := "d05fe0adcc9ed78fe6cb1e4d9162b5abde9786ff417946443605ce74cc6d7af7", func := "covey/coveylaw18.DagStages", spec := "dagStages", inPlace := ["internal/bytealg.IndexByteString", "internal/bytealg.IndexString", "slices.overlaps[covey/api.Entry]"], unfollowed := true, recurses := true, named := ["internal/bytealg.MaxLen"], plainKeys := false, apart := false, narrowed := true }
def DagStagesUptoSaid : Prop := dagStagesUptoRow.holds Tryz.pinned (OpenSpec.upto dagStagesSpec)

/-- 'coveylaw18.DagOrders', WHERE WHAT IT READS IS OF BULK AT MOST 1048576: true; the input reads as it did. -/
def dagOrdersUptoRow : OpenClaim := { program := "ytmjclmmiljlahaagreat", sum := "d05fe0adcc9ed78fe6cb1e4d9162b5abde9786ff417946443605ce74cc6d7af7", func := "covey/coveylaw18.DagOrders", spec := "dagOrders", inPlace := ["internal/bytealg.IndexByteString", "internal/bytealg.IndexString", "slices.overlaps[covey/api.Entry]"], unfollowed := true, recurses := true, named := ["internal/bytealg.MaxLen"], loops := true, plainKeys := false, apart := false, narrowed := true }
def DagOrdersUptoSaid : Prop := dagOrdersUptoRow.holds Tryz.pinned (OpenSpec.upto dagOrdersSpec)

end Rows
end Go.Proofs.YtmjclmmiljlahaaGreat
