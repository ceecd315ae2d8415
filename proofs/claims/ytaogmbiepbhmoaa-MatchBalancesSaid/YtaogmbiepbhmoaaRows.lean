/-
  No cell of these rows narrows 'for every input' (looked for: loops, veiled, ifaces, maps, wideKeys, modest, calm, conditions, laid).
  DERIVED. THE GIVEN ROWS OF THIS SEAT. 4 by the template 'for every input the law returns true; each argument reads behind the call as it read before'; 0 by the template 'total and deterministic' (their statements: YtaogmbiepbhmoaaTotals.lean).
  GIVEN WITH THE SEED: the statements are not yours to turn. If you find one false, say at which input.
  Laid BY PROGRAM, IN A SANDBOX (cutbox-rows.mjs): the forced cells as the released guide's own fill.sh prints them over the translation 52cf07197bde39a1… (all of the seat's roots in one cut). By AI agents, Wed Nov 11 2026. No macro, syntax, notation, axiom, sorry.
-/
import Derived.Test.YtaogmbiepbhmoaaChecked
import GoSem.Claim
import GoSem.ClaimJoined
import GoSem.ClaimMapViews
import Derived.JoinedTies
import Derived.KernelRfl
namespace Go.Proofs.Ytaogmbiepbhmoaa
/- THE CELL 'sum', in the pinned program and in every row, IS THE sha256 OF THE DUMP (.gsa) THAT YtaogmbiepbhmoaaProg.lean LOADS. Nothing in Lean hashes anything: it is a label: what it is worth is what the hold of that sum in a sandbox is worth. -/
noncomputable def Try.pinned : Pinned := { name := "ytaogmbiepbhmoaa", sum := "52cf07197bde39a1ee9146e3bb80772d51b8b2be97aaac536539060de96add98", checked := Try.checked }
namespace Rows
def none {H : Type} : Left H := { results := [], args := [] }

/-- 'supercargolaw48.MatchDiffs': WHATEVER THE INPUT: true; the input reads as it did. -/
def matchDiffsSpec : ChangeSpec := { name := "matchDiffs", fn := fun _ => fun
  | [d1, d2] => { results := [.lit (.bool true)], args := [d1, d2] }
  | _ => none }
def matchDiffsRow : OpenClaim := { program := "ytaogmbiepbhmoaa", sum := "52cf07197bde39a1ee9146e3bb80772d51b8b2be97aaac536539060de96add98", func := "supercargo/supercargolaw48.MatchDiffs", spec := "matchDiffs", unfollowed := true, recurses := true, plainKeys := false, apart := false }
def MatchDiffsSaid : Prop := matchDiffsRow.holds Try.pinned (OpenSpec.ofChange matchDiffsSpec)

/-- ITS FALSE NEIGHBOUR: 'it returns false'. Refute it at one input. -/
def matchDiffsWrong : ChangeSpec := { name := "matchDiffs", fn := fun _ => fun
  | [d1, d2] => { results := [.lit (.bool false)], args := [d1, d2] }
  | _ => none }
def MatchDiffsWrongFalsely : Prop := matchDiffsRow.holds Try.pinned (OpenSpec.ofChange matchDiffsWrong)

/-- 'supercargolaw48.MatchMends': WHATEVER THE INPUT: true; the input reads as it did. -/
def matchMendsSpec : ChangeSpec := { name := "matchMends", fn := fun _ => fun
  | [d1, d2] => { results := [.lit (.bool true)], args := [d1, d2] }
  | _ => none }
def matchMendsRow : OpenClaim := { program := "ytaogmbiepbhmoaa", sum := "52cf07197bde39a1ee9146e3bb80772d51b8b2be97aaac536539060de96add98", func := "supercargo/supercargolaw48.MatchMends", spec := "matchMends", unfollowed := true, recurses := true, plainKeys := false, apart := false }
def MatchMendsSaid : Prop := matchMendsRow.holds Try.pinned (OpenSpec.ofChange matchMendsSpec)

/-- ITS FALSE NEIGHBOUR: 'it returns false'. Refute it at one input. -/
def matchMendsWrong : ChangeSpec := { name := "matchMends", fn := fun _ => fun
  | [d1, d2] => { results := [.lit (.bool false)], args := [d1, d2] }
  | _ => none }
def MatchMendsWrongFalsely : Prop := matchMendsRow.holds Try.pinned (OpenSpec.ofChange matchMendsWrong)

/-- 'supercargolaw48.MatchStays': WHATEVER THE INPUT: true; the input reads as it did. -/
def matchStaysSpec : ChangeSpec := { name := "matchStays", fn := fun _ => fun
  | [d1, d2] => { results := [.lit (.bool true)], args := [d1, d2] }
  | _ => none }
def matchStaysRow : OpenClaim := { program := "ytaogmbiepbhmoaa", sum := "52cf07197bde39a1ee9146e3bb80772d51b8b2be97aaac536539060de96add98", func := "supercargo/supercargolaw48.MatchStays", spec := "matchStays", unfollowed := true, recurses := true, plainKeys := false, apart := false }
def MatchStaysSaid : Prop := matchStaysRow.holds Try.pinned (OpenSpec.ofChange matchStaysSpec)

/-- ITS FALSE NEIGHBOUR: 'it returns false'. Refute it at one input. -/
def matchStaysWrong : ChangeSpec := { name := "matchStays", fn := fun _ => fun
  | [d1, d2] => { results := [.lit (.bool false)], args := [d1, d2] }
  | _ => none }
def MatchStaysWrongFalsely : Prop := matchStaysRow.holds Try.pinned (OpenSpec.ofChange matchStaysWrong)

/-- 'supercargolaw48.MatchBalances': WHATEVER THE INPUT: true; the input reads as it did. -/
def matchBalancesSpec : ChangeSpec := { name := "matchBalances", fn := fun _ => fun
  | [d1, d2, d3] => { results := [.lit (.bool true)], args := [d1, d2, d3] }
  | _ => none }
def matchBalancesRow : OpenClaim := { program := "ytaogmbiepbhmoaa", sum := "52cf07197bde39a1ee9146e3bb80772d51b8b2be97aaac536539060de96add98", func := "supercargo/supercargolaw48.MatchBalances", spec := "matchBalances", unfollowed := true, recurses := true, plainKeys := false, apart := false }
def MatchBalancesSaid : Prop := matchBalancesRow.holds Try.pinned (OpenSpec.ofChange matchBalancesSpec)

/-- ITS FALSE NEIGHBOUR: 'it returns false'. Refute it at one input. -/
def matchBalancesWrong : ChangeSpec := { name := "matchBalances", fn := fun _ => fun
  | [d1, d2, d3] => { results := [.lit (.bool false)], args := [d1, d2, d3] }
  | _ => none }
def MatchBalancesWrongFalsely : Prop := matchBalancesRow.holds Try.pinned (OpenSpec.ofChange matchBalancesWrong)

/- THE SECOND FORM. 'bulk': how many values and letters a reading holds, each counted each time it is reached (what is shared counts as often as it is met; a slice's spare places count too). A statement '..UptoSaid' is the law's where the arguments, and the package variables that the reading takes, are together of bulk at most 1048576: NARROWER than '..Said'. Prove '..Said' where nothing that the law and all that it calls make is longer than what came in: it says more and counts as full. Else prove '..UptoSaid'. A law counts once. -/
mutual
def uptoBulk {H : Type} : DataW H → Nat
  | .lit (.string bytes) => bytes.length + 1
  | .lit _ => 1
  | .nil => 1
  | .ptr d => uptoBulk d + 1
  | .slice elems spare => uptoBulkAll elems + uptoBulkAll spare + 1
  | .agg parts => uptoBulkAll parts + 1
  | .iface _ d => uptoBulk d + 1
  | .map entries => uptoBulkEntries entries + 1
  | .held _ => 1
def uptoBulkAll {H : Type} : List (DataW H) → Nat
  | [] => 0
  | d :: r => uptoBulk d + uptoBulkAll r
def uptoBulkEntries {H : Type} : List (Lit × DataW H) → Nat
  | [] => 0
  | x :: r => uptoBulkEntry x + uptoBulkEntries r
def uptoBulkEntry {H : Type} : Lit × DataW H → Nat
  | (.string bytes, d) => bytes.length + uptoBulk d + 1
  | (_, d) => uptoBulk d + 1
 end
def uptoSmall : (H : Type) → List (DataW H) → Bool := fun _ ds => decide (uptoBulkAll ds ≤ 1048576)
def OpenSpec.upto (s : _root_.Go.ChangeSpec) : _root_.Go.OpenSpec := { _root_.Go.OpenSpec.ofChange s with cond := some uptoSmall }

/-- 'supercargolaw48.MatchDiffs', WHERE WHAT IT READS IS OF BULK AT MOST 1048576: true; the input reads as it did. -/
def matchDiffsUptoRow : OpenClaim := { program := "ytaogmbiepbhmoaa", sum := "52cf07197bde39a1ee9146e3bb80772d51b8b2be97aaac536539060de96add98", func := "supercargo/supercargolaw48.MatchDiffs", spec := "matchDiffs", unfollowed := true, recurses := true, plainKeys := false, apart := false, narrowed := true }
def MatchDiffsUptoSaid : Prop := matchDiffsUptoRow.holds Try.pinned (OpenSpec.upto matchDiffsSpec)

/-- 'supercargolaw48.MatchMends', WHERE WHAT IT READS IS OF BULK AT MOST 1048576: true; the input reads as it did. -/
def matchMendsUptoRow : OpenClaim := { program := "ytaogmbiepbhmoaa", sum := "52cf07197bde39a1ee9146e3bb80772d51b8b2be97aaac536539060de96add98", func := "supercargo/supercargolaw48.MatchMends", spec := "matchMends", unfollowed := true, recurses := true, plainKeys := false, apart := false, narrowed := true }
def MatchMendsUptoSaid : Prop := matchMendsUptoRow.holds Try.pinned (OpenSpec.upto matchMendsSpec)

/-- 'supercargolaw48.MatchStays', WHERE WHAT IT READS IS OF BULK AT MOST 1048576: true; the input reads as it did. -/
def matchStaysUptoRow : OpenClaim := { program := "ytaogmbiepbhmoaa", sum := "52cf07197bde39a1ee9146e3bb80772d51b8b2be97aaac536539060de96add98", func := "supercargo/supercargolaw48.MatchStays", spec := "matchStays", unfollowed := true, recurses := true, plainKeys := false, apart := false, narrowed := true }
def MatchStaysUptoSaid : Prop := matchStaysUptoRow.holds Try.pinned (OpenSpec.upto matchStaysSpec)

/-- 'supercargolaw48.MatchBalances', WHERE WHAT IT READS IS OF BULK AT MOST 1048576: true; the input reads as it did. -/
def matchBalancesUptoRow : OpenClaim := { program := "ytaogmbiepbhmoaa", sum := "52cf07197bde39a1ee9146e3bb80772d51b8b2be97aaac536539060de96add98", func := "supercargo/supercargolaw48.MatchBalances", spec := "matchBalances", unfollowed := true, recurses := true, plainKeys := false, apart := false, narrowed := true }
def MatchBalancesUptoSaid : Prop := matchBalancesUptoRow.holds Try.pinned (OpenSpec.upto matchBalancesSpec)

end Rows
end Go.Proofs.Ytaogmbiepbhmoaa
