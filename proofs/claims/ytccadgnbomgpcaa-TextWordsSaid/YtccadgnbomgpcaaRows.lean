/-
  No cell of these rows narrows 'for every input' (looked for: loops, veiled, ifaces, maps, wideKeys, modest, calm, conditions, laid).
  DERIVED. THE GIVEN ROWS OF THIS SEAT. 11 by the template 'for every input the law returns true; each argument reads behind the call as it read before'; 0 by the template 'total and deterministic' (their statements: YtccadgnbomgpcaaTotals.lean).
  GIVEN WITH THE SEED: the statements are not yours to turn. If you find one false, say at which input.
  Laid BY PROGRAM, IN A SANDBOX (cutbox-rows.mjs): the forced cells as the released guide's own fill.sh prints them over the translation 7aa1e4075ca7016d… (all of the seat's roots in one cut). By AI agents, Wed Nov 11 2026. No macro, syntax, notation, axiom, sorry.
-/
import Derived.Test.YtccadgnbomgpcaaChecked
import GoSem.Claim
import GoSem.ClaimJoined
import GoSem.ClaimMapViews
import Derived.JoinedTies
import Derived.KernelRfl
namespace Go.Proofs.Ytccadgnbomgpcaa
/- THE CELL 'sum', in the pinned program and in every row, IS THE sha256 OF THE DUMP (.gsa) THAT YtccadgnbomgpcaaProg.lean LOADS. Nothing in Lean hashes anything: it is a label: what it is worth is what the hold of that sum in a sandbox is worth. -/
noncomputable def Try.pinned : Pinned := { name := "ytccadgnbomgpcaa", sum := "7aa1e4075ca7016d34a71b65720e055817714509350ff27b28d57cdc34fd0755", checked := Try.checked }
namespace Rows
def none {H : Type} : Left H := { results := [], args := [] }

/-- 'woodcutlaw07.TokenSame': WHATEVER THE INPUT: true; the input reads as it did. -/
def tokenSameSpec : ChangeSpec := { name := "tokenSame", fn := fun _ => fun
  | [d1, d2] => { results := [.lit (.bool true)], args := [d1, d2] }
  | _ => none }
def tokenSameRow : OpenClaim := { program := "ytccadgnbomgpcaa", sum := "7aa1e4075ca7016d34a71b65720e055817714509350ff27b28d57cdc34fd0755", func := "woodcut/woodcutlaw07.TokenSame", spec := "tokenSame", apart := false }
def TokenSameSaid : Prop := tokenSameRow.holds Try.pinned (OpenSpec.ofChange tokenSameSpec)

/-- ITS FALSE NEIGHBOUR: 'it returns false'. Refute it at one input. -/
def tokenSameWrong : ChangeSpec := { name := "tokenSame", fn := fun _ => fun
  | [d1, d2] => { results := [.lit (.bool false)], args := [d1, d2] }
  | _ => none }
def TokenSameWrongFalsely : Prop := tokenSameRow.holds Try.pinned (OpenSpec.ofChange tokenSameWrong)

/-- 'woodcutlaw07.TokenIs': WHATEVER THE INPUT: true; the input reads as it did. -/
def tokenIsSpec : ChangeSpec := { name := "tokenIs", fn := fun _ => fun
  | [d1, d2, d3] => { results := [.lit (.bool true)], args := [d1, d2, d3] }
  | _ => none }
def tokenIsRow : OpenClaim := { program := "ytccadgnbomgpcaa", sum := "7aa1e4075ca7016d34a71b65720e055817714509350ff27b28d57cdc34fd0755", func := "woodcut/woodcutlaw07.TokenIs", spec := "tokenIs", apart := false }
def TokenIsSaid : Prop := tokenIsRow.holds Try.pinned (OpenSpec.ofChange tokenIsSpec)

/-- ITS FALSE NEIGHBOUR: 'it returns false'. Refute it at one input. -/
def tokenIsWrong : ChangeSpec := { name := "tokenIs", fn := fun _ => fun
  | [d1, d2, d3] => { results := [.lit (.bool false)], args := [d1, d2, d3] }
  | _ => none }
def TokenIsWrongFalsely : Prop := tokenIsRow.holds Try.pinned (OpenSpec.ofChange tokenIsWrong)

/-- 'woodcutlaw07.TokenAlike': WHATEVER THE INPUT: true; the input reads as it did. -/
def tokenAlikeSpec : ChangeSpec := { name := "tokenAlike", fn := fun _ => fun
  | [d1, d2, d3] => { results := [.lit (.bool true)], args := [d1, d2, d3] }
  | _ => none }
def tokenAlikeRow : OpenClaim := { program := "ytccadgnbomgpcaa", sum := "7aa1e4075ca7016d34a71b65720e055817714509350ff27b28d57cdc34fd0755", func := "woodcut/woodcutlaw07.TokenAlike", spec := "tokenAlike", unfollowed := true, recurses := true, apart := false }
def TokenAlikeSaid : Prop := tokenAlikeRow.holds Try.pinned (OpenSpec.ofChange tokenAlikeSpec)

/-- ITS FALSE NEIGHBOUR: 'it returns false'. Refute it at one input. -/
def tokenAlikeWrong : ChangeSpec := { name := "tokenAlike", fn := fun _ => fun
  | [d1, d2, d3] => { results := [.lit (.bool false)], args := [d1, d2, d3] }
  | _ => none }
def TokenAlikeWrongFalsely : Prop := tokenAlikeRow.holds Try.pinned (OpenSpec.ofChange tokenAlikeWrong)

/-- 'woodcutlaw01.TextSigns': WHATEVER THE INPUT: true; the input reads as it did. -/
def textSignsSpec : ChangeSpec := { name := "textSigns", fn := fun _ => fun
  | [d1, d2] => { results := [.lit (.bool true)], args := [d1, d2] }
  | _ => none }
def textSignsRow : OpenClaim := { program := "ytccadgnbomgpcaa", sum := "7aa1e4075ca7016d34a71b65720e055817714509350ff27b28d57cdc34fd0755", func := "woodcut/woodcutlaw01.TextSigns", spec := "textSigns", unfollowed := true, recurses := true, apart := false }
def TextSignsSaid : Prop := textSignsRow.holds Try.pinned (OpenSpec.ofChange textSignsSpec)

/-- ITS FALSE NEIGHBOUR: 'it returns false'. Refute it at one input. -/
def textSignsWrong : ChangeSpec := { name := "textSigns", fn := fun _ => fun
  | [d1, d2] => { results := [.lit (.bool false)], args := [d1, d2] }
  | _ => none }
def TextSignsWrongFalsely : Prop := textSignsRow.holds Try.pinned (OpenSpec.ofChange textSignsWrong)

/-- 'woodcutlaw01.TextDecodes': WHATEVER THE INPUT: true; the input reads as it did. -/
def textDecodesSpec : ChangeSpec := { name := "textDecodes", fn := fun _ => fun
  | [d] => { results := [.lit (.bool true)], args := [d] }
  | _ => none }
def textDecodesRow : OpenClaim := { program := "ytccadgnbomgpcaa", sum := "7aa1e4075ca7016d34a71b65720e055817714509350ff27b28d57cdc34fd0755", func := "woodcut/woodcutlaw01.TextDecodes", spec := "textDecodes", unfollowed := true, recurses := true, apart := false }
def TextDecodesSaid : Prop := textDecodesRow.holds Try.pinned (OpenSpec.ofChange textDecodesSpec)

/-- ITS FALSE NEIGHBOUR: 'it returns false'. Refute it at one input. -/
def textDecodesWrong : ChangeSpec := { name := "textDecodes", fn := fun _ => fun
  | [d] => { results := [.lit (.bool false)], args := [d] }
  | _ => none }
def TextDecodesWrongFalsely : Prop := textDecodesRow.holds Try.pinned (OpenSpec.ofChange textDecodesWrong)

/-- 'woodcutlaw07.TokenAttrs': WHATEVER THE INPUT: true; the input reads as it did. -/
def tokenAttrsSpec : ChangeSpec := { name := "tokenAttrs", fn := fun _ => fun
  | [d1, d2, d3] => { results := [.lit (.bool true)], args := [d1, d2, d3] }
  | _ => none }
def tokenAttrsRow : OpenClaim := { program := "ytccadgnbomgpcaa", sum := "7aa1e4075ca7016d34a71b65720e055817714509350ff27b28d57cdc34fd0755", func := "woodcut/woodcutlaw07.TokenAttrs", spec := "tokenAttrs", unfollowed := true, recurses := true, apart := false }
def TokenAttrsSaid : Prop := tokenAttrsRow.holds Try.pinned (OpenSpec.ofChange tokenAttrsSpec)

/-- ITS FALSE NEIGHBOUR: 'it returns false'. Refute it at one input. -/
def tokenAttrsWrong : ChangeSpec := { name := "tokenAttrs", fn := fun _ => fun
  | [d1, d2, d3] => { results := [.lit (.bool false)], args := [d1, d2, d3] }
  | _ => none }
def TokenAttrsWrongFalsely : Prop := tokenAttrsRow.holds Try.pinned (OpenSpec.ofChange tokenAttrsWrong)

/-- 'woodcutlaw01.TextEncodes': WHATEVER THE INPUT: true; the input reads as it did. -/
def textEncodesSpec : ChangeSpec := { name := "textEncodes", fn := fun _ => fun
  | [d] => { results := [.lit (.bool true)], args := [d] }
  | _ => none }
def textEncodesRow : OpenClaim := { program := "ytccadgnbomgpcaa", sum := "7aa1e4075ca7016d34a71b65720e055817714509350ff27b28d57cdc34fd0755", func := "woodcut/woodcutlaw01.TextEncodes", spec := "textEncodes", unfollowed := true, recurses := true, apart := false }
def TextEncodesSaid : Prop := textEncodesRow.holds Try.pinned (OpenSpec.ofChange textEncodesSpec)

/-- ITS FALSE NEIGHBOUR: 'it returns false'. Refute it at one input. -/
def textEncodesWrong : ChangeSpec := { name := "textEncodes", fn := fun _ => fun
  | [d] => { results := [.lit (.bool false)], args := [d] }
  | _ => none }
def TextEncodesWrongFalsely : Prop := textEncodesRow.holds Try.pinned (OpenSpec.ofChange textEncodesWrong)

/-- 'woodcutlaw01.TextRound': WHATEVER THE INPUT: true; the input reads as it did. -/
def textRoundSpec : ChangeSpec := { name := "textRound", fn := fun _ => fun
  | [d] => { results := [.lit (.bool true)], args := [d] }
  | _ => none }
def textRoundRow : OpenClaim := { program := "ytccadgnbomgpcaa", sum := "7aa1e4075ca7016d34a71b65720e055817714509350ff27b28d57cdc34fd0755", func := "woodcut/woodcutlaw01.TextRound", spec := "textRound", unfollowed := true, recurses := true, apart := false }
def TextRoundSaid : Prop := textRoundRow.holds Try.pinned (OpenSpec.ofChange textRoundSpec)

/-- ITS FALSE NEIGHBOUR: 'it returns false'. Refute it at one input. -/
def textRoundWrong : ChangeSpec := { name := "textRound", fn := fun _ => fun
  | [d] => { results := [.lit (.bool false)], args := [d] }
  | _ => none }
def TextRoundWrongFalsely : Prop := textRoundRow.holds Try.pinned (OpenSpec.ofChange textRoundWrong)

/-- 'woodcutlaw07.TokenTwice': WHATEVER THE INPUT: true; the input reads as it did. -/
def tokenTwiceSpec : ChangeSpec := { name := "tokenTwice", fn := fun _ => fun
  | [d1, d2, d3] => { results := [.lit (.bool true)], args := [d1, d2, d3] }
  | _ => none }
def tokenTwiceRow : OpenClaim := { program := "ytccadgnbomgpcaa", sum := "7aa1e4075ca7016d34a71b65720e055817714509350ff27b28d57cdc34fd0755", func := "woodcut/woodcutlaw07.TokenTwice", spec := "tokenTwice", unfollowed := true, recurses := true, apart := false }
def TokenTwiceSaid : Prop := tokenTwiceRow.holds Try.pinned (OpenSpec.ofChange tokenTwiceSpec)

/-- ITS FALSE NEIGHBOUR: 'it returns false'. Refute it at one input. -/
def tokenTwiceWrong : ChangeSpec := { name := "tokenTwice", fn := fun _ => fun
  | [d1, d2, d3] => { results := [.lit (.bool false)], args := [d1, d2, d3] }
  | _ => none }
def TokenTwiceWrongFalsely : Prop := tokenTwiceRow.holds Try.pinned (OpenSpec.ofChange tokenTwiceWrong)

/-- 'woodcutlaw01.TextKinds': WHATEVER THE INPUT: true; the input reads as it did. -/
def textKindsSpec : ChangeSpec := { name := "textKinds", fn := fun _ => fun
  | [d] => { results := [.lit (.bool true)], args := [d] }
  | _ => none }
def textKindsRow : OpenClaim := { program := "ytccadgnbomgpcaa", sum := "7aa1e4075ca7016d34a71b65720e055817714509350ff27b28d57cdc34fd0755", func := "woodcut/woodcutlaw01.TextKinds", spec := "textKinds", unfollowed := true, recurses := true, apart := false }
def TextKindsSaid : Prop := textKindsRow.holds Try.pinned (OpenSpec.ofChange textKindsSpec)

/-- ITS FALSE NEIGHBOUR: 'it returns false'. Refute it at one input. -/
def textKindsWrong : ChangeSpec := { name := "textKinds", fn := fun _ => fun
  | [d] => { results := [.lit (.bool false)], args := [d] }
  | _ => none }
def TextKindsWrongFalsely : Prop := textKindsRow.holds Try.pinned (OpenSpec.ofChange textKindsWrong)

/-- 'woodcutlaw01.TextWords': WHATEVER THE INPUT: true; the input reads as it did. -/
def textWordsSpec : ChangeSpec := { name := "textWords", fn := fun _ => fun
  | [d] => { results := [.lit (.bool true)], args := [d] }
  | _ => none }
def textWordsRow : OpenClaim := { program := "ytccadgnbomgpcaa", sum := "7aa1e4075ca7016d34a71b65720e055817714509350ff27b28d57cdc34fd0755", func := "woodcut/woodcutlaw01.TextWords", spec := "textWords", unfollowed := true, recurses := true, apart := false }
def TextWordsSaid : Prop := textWordsRow.holds Try.pinned (OpenSpec.ofChange textWordsSpec)

/-- ITS FALSE NEIGHBOUR: 'it returns false'. Refute it at one input. -/
def textWordsWrong : ChangeSpec := { name := "textWords", fn := fun _ => fun
  | [d] => { results := [.lit (.bool false)], args := [d] }
  | _ => none }
def TextWordsWrongFalsely : Prop := textWordsRow.holds Try.pinned (OpenSpec.ofChange textWordsWrong)

/- THE SECOND FORM. 'bulk': how many values and letters a reading holds, each counted each time it is reached (what is shared counts as often as it is met; a slice's spare places count too). A statement '..UptoSaid' is the law's where the arguments, and the package variables that the reading takes, are together of bulk at most 1048576: NARROWER than '..Said'. Prove '..Said' where nothing that the law and all that it calls make is longer than what came in: it says more and counts as full. Else prove '..UptoSaid'. A law counts once. -/
mutual
def uptoBulk {H : Type} : DataW H → Nat
  | .lit (.string bytes) => bytes.length + 1
  | .lit _ => 1
  | .nil => 1
  | .ptr d => uptoBulk d + 1
  | .slice elems spare => uptoBulkAll elems + uptoBulkAll spare + 1
  | .agg parts => uptoBulkAll parts + 1
  | .iface _ d => uptoBulk d + 1
  | .map entries => uptoBulkEntries entries + 1
  | .held _ => 1
def uptoBulkAll {H : Type} : List (DataW H) → Nat
  | [] => 0
  | d :: r => uptoBulk d + uptoBulkAll r
def uptoBulkEntries {H : Type} : List (Lit × DataW H) → Nat
  | [] => 0
  | x :: r => uptoBulkEntry x + uptoBulkEntries r
def uptoBulkEntry {H : Type} : Lit × DataW H → Nat
  | (.string bytes, d) => bytes.length + uptoBulk d + 1
  | (_, d) => uptoBulk d + 1
 end
def uptoSmall : (H : Type) → List (DataW H) → Bool := fun _ ds => decide (uptoBulkAll ds ≤ 1048576)
def OpenSpec.upto (s : _root_.Go.ChangeSpec) : _root_.Go.OpenSpec := { _root_.Go.OpenSpec.ofChange s with cond := some uptoSmall }

/-- 'woodcutlaw07.TokenSame', WHERE WHAT IT READS IS OF BULK AT MOST 1048576: true; the input reads as it did. -/
def tokenSameUptoRow : OpenClaim := { program := "ytccadgnbomgpcaa", sum := "7aa1e4075ca7016d34a71b65720e055817714509350ff27b28d57cdc34fd0755", func := "woodcut/woodcutlaw07.TokenSame", spec := "tokenSame", apart := false, narrowed := true }
def TokenSameUptoSaid : Prop := tokenSameUptoRow.holds Try.pinned (OpenSpec.upto tokenSameSpec)

/-- 'woodcutlaw07.TokenIs', WHERE WHAT IT READS IS OF BULK AT MOST 1048576: true; the input reads as it did. -/
def tokenIsUptoRow : OpenClaim := { program := "ytccadgnbomgpcaa", sum := "7aa1e4075ca7016d34a71b65720e055817714509350ff27b28d57cdc34fd0755", func := "woodcut/woodcutlaw07.TokenIs", spec := "tokenIs", apart := false, narrowed := true }
def TokenIsUptoSaid : Prop := tokenIsUptoRow.holds Try.pinned (OpenSpec.upto tokenIsSpec)

/-- 'woodcutlaw07.TokenAlike', WHERE WHAT IT READS IS OF BULK AT MOST 1048576: true; the input reads as it did. -/
def tokenAlikeUptoRow : OpenClaim := { program := "ytccadgnbomgpcaa", sum := "7aa1e4075ca7016d34a71b65720e055817714509350ff27b28d57cdc34fd0755", func := "woodcut/woodcutlaw07.TokenAlike", spec := "tokenAlike", unfollowed := true, recurses := true, apart := false, narrowed := true }
def TokenAlikeUptoSaid : Prop := tokenAlikeUptoRow.holds Try.pinned (OpenSpec.upto tokenAlikeSpec)

/-- 'woodcutlaw01.TextSigns', WHERE WHAT IT READS IS OF BULK AT MOST 1048576: true; the input reads as it did. -/
def textSignsUptoRow : OpenClaim := { program := "ytccadgnbomgpcaa", sum := "7aa1e4075ca7016d34a71b65720e055817714509350ff27b28d57cdc34fd0755", func := "woodcut/woodcutlaw01.TextSigns", spec := "textSigns", unfollowed := true, recurses := true, apart := false, narrowed := true }
def TextSignsUptoSaid : Prop := textSignsUptoRow.holds Try.pinned (OpenSpec.upto textSignsSpec)

/-- 'woodcutlaw01.TextDecodes', WHERE WHAT IT READS IS OF BULK AT MOST 1048576: true; the input reads as it did. -/
def textDecodesUptoRow : OpenClaim := { program := "ytccadgnbomgpcaa", sum := "7aa1e4075ca7016d34a71b65720e055817714509350ff27b28d57cdc34fd0755", func := "woodcut/woodcutlaw01.TextDecodes", spec := "textDecodes", unfollowed := true, recurses := true, apart := false, narrowed := true }
def TextDecodesUptoSaid : Prop := textDecodesUptoRow.holds Try.pinned (OpenSpec.upto textDecodesSpec)

/-- 'woodcutlaw07.TokenAttrs', WHERE WHAT IT READS IS OF BULK AT MOST 1048576: true; the input reads as it did. -/
def tokenAttrsUptoRow : OpenClaim := { program := "ytccadgnbomgpcaa", sum := "7aa1e4075ca7016d34a71b65720e055817714509350ff27b28d57cdc34fd0755", func := "woodcut/woodcutlaw07.TokenAttrs", spec := "tokenAttrs", unfollowed := true, recurses := true, apart := false, narrowed := true }
def TokenAttrsUptoSaid : Prop := tokenAttrsUptoRow.holds Try.pinned (OpenSpec.upto tokenAttrsSpec)

/-- 'woodcutlaw01.TextEncodes', WHERE WHAT IT READS IS OF BULK AT MOST 1048576: true; the input reads as it did. -/
def textEncodesUptoRow : OpenClaim := { program := "ytccadgnbomgpcaa", sum := "7aa1e4075ca7016d34a71b65720e055817714509350ff27b28d57cdc34fd0755", func := "woodcut/woodcutlaw01.TextEncodes", spec := "textEncodes", unfollowed := true, recurses := true, apart := false, narrowed := true }
def TextEncodesUptoSaid : Prop := textEncodesUptoRow.holds Try.pinned (OpenSpec.upto textEncodesSpec)

/-- 'woodcutlaw01.TextRound', WHERE WHAT IT READS IS OF BULK AT MOST 1048576: true; the input reads as it did. -/
def textRoundUptoRow : OpenClaim := { program := "ytccadgnbomgpcaa", sum := "7aa1e4075ca7016d34a71b65720e055817714509350ff27b28d57cdc34fd0755", func := "woodcut/woodcutlaw01.TextRound", spec := "textRound", unfollowed := true, recurses := true, apart := false, narrowed := true }
def TextRoundUptoSaid : Prop := textRoundUptoRow.holds Try.pinned (OpenSpec.upto textRoundSpec)

/-- 'woodcutlaw07.TokenTwice', WHERE WHAT IT READS IS OF BULK AT MOST 1048576: true; the input reads as it did. -/
def tokenTwiceUptoRow : OpenClaim := { program := "ytccadgnbomgpcaa", sum := "7aa1e4075ca7016d34a71b65720e055817714509350ff27b28d57cdc34fd0755", func := "woodcut/woodcutlaw07.TokenTwice", spec := "tokenTwice", unfollowed := true, recurses := true, apart := false, narrowed := true }
def TokenTwiceUptoSaid : Prop := tokenTwiceUptoRow.holds Try.pinned (OpenSpec.upto tokenTwiceSpec)

/-- 'woodcutlaw01.TextKinds', WHERE WHAT IT READS IS OF BULK AT MOST 1048576: true; the input reads as it did. -/
def textKindsUptoRow : OpenClaim := { program := "ytccadgnbomgpcaa", sum := "7aa1e4075ca7016d34a71b65720e055817714509350ff27b28d57cdc34fd0755", func := "woodcut/woodcutlaw01.TextKinds", spec := "textKinds", unfollowed := true, recurses := true, apart := false, narrowed := true }
def TextKindsUptoSaid : Prop := textKindsUptoRow.holds Try.pinned (OpenSpec.upto textKindsSpec)

/-- 'woodcutlaw01.TextWords', WHERE WHAT IT READS IS OF BULK AT MOST 1048576: true; the input reads as it did. -/
def textWordsUptoRow : OpenClaim := { program := "ytccadgnbomgpcaa", sum := "7aa1e4075ca7016d34a71b65720e055817714509350ff27b28d57cdc34fd0755", func := "woodcut/woodcutlaw01.TextWords", spec := "textWords", unfollowed := true, recurses := true, apart := false, narrowed := true }
def TextWordsUptoSaid : Prop := textWordsUptoRow.holds Try.pinned (OpenSpec.upto textWordsSpec)

end Rows
end Go.Proofs.Ytccadgnbomgpcaa
