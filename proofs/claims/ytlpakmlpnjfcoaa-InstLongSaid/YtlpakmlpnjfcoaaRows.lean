/-
  No cell of these rows narrows 'for every input' (looked for: loops, veiled, ifaces, maps, wideKeys, modest, calm, conditions, laid).
  DERIVED. THE GIVEN ROWS OF THIS SEAT. 19 by the template 'for every input the law returns true; each argument reads behind the call as it read before'; 0 by the template 'total and deterministic' (their statements: YtlpakmlpnjfcoaaTotals.lean).
  GIVEN WITH THE SEED: the statements are not yours to turn. If you find one false, say at which input.
  Laid BY PROGRAM, IN A SANDBOX (cutbox-rows.mjs): the forced cells as the released guide's own fill.sh prints them over the translation 459d6d489aced1cc… (all of the seat's roots in one cut). By AI agents, Wed Nov 11 2026. No macro, syntax, notation, axiom, sorry.
-/
import Derived.Test.YtlpakmlpnjfcoaaChecked
import GoSem.Claim
import GoSem.ClaimJoined
import GoSem.ClaimMapViews
import Derived.JoinedTies
import Derived.KernelRfl
namespace Go.Proofs.Ytlpakmlpnjfcoaa
/- THE CELL 'sum', in the pinned program and in every row, IS THE sha256 OF THE DUMP (.gsa) THAT YtlpakmlpnjfcoaaProg.lean LOADS. Nothing in Lean hashes anything: it is a label: what it is worth is what the hold of that sum in a sandbox is worth. -/
noncomputable def Try.pinned : Pinned := { name := "ytlpakmlpnjfcoaa", sum := "459d6d489aced1cc8dbc16012622352bca1f2c793107e8d8806828606e49ada0", checked := Try.checked }
namespace Rows
def none {H : Type} : Left H := { results := [], args := [] }

/-- 'strainerlaw02.InstCodes': WHATEVER THE INPUT: true; the input reads as it did. -/
def instCodesSpec : ChangeSpec := { name := "instCodes", fn := fun _ => fun
  | [d] => { results := [.lit (.bool true)], args := [d] }
  | _ => none }
def instCodesRow : OpenClaim := { program := "ytlpakmlpnjfcoaa", sum := "459d6d489aced1cc8dbc16012622352bca1f2c793107e8d8806828606e49ada0", func := "strainer/strainerlaw02.InstCodes", spec := "instCodes", apart := false }
def InstCodesSaid : Prop := instCodesRow.holds Try.pinned (OpenSpec.ofChange instCodesSpec)

/-- ITS FALSE NEIGHBOUR: 'it returns false'. Refute it at one input. -/
def instCodesWrong : ChangeSpec := { name := "instCodes", fn := fun _ => fun
  | [d] => { results := [.lit (.bool false)], args := [d] }
  | _ => none }
def InstCodesWrongFalsely : Prop := instCodesRow.holds Try.pinned (OpenSpec.ofChange instCodesWrong)

/-- 'strainerlaw02.InstWrites': WHATEVER THE INPUT: true; the input reads as it did. -/
def instWritesSpec : ChangeSpec := { name := "instWrites", fn := fun _ => fun
  | [d] => { results := [.lit (.bool true)], args := [d] }
  | _ => none }
def instWritesRow : OpenClaim := { program := "ytlpakmlpnjfcoaa", sum := "459d6d489aced1cc8dbc16012622352bca1f2c793107e8d8806828606e49ada0", func := "strainer/strainerlaw02.InstWrites", spec := "instWrites", apart := false }
def InstWritesSaid : Prop := instWritesRow.holds Try.pinned (OpenSpec.ofChange instWritesSpec)

/-- ITS FALSE NEIGHBOUR: 'it returns false'. Refute it at one input. -/
def instWritesWrong : ChangeSpec := { name := "instWrites", fn := fun _ => fun
  | [d] => { results := [.lit (.bool false)], args := [d] }
  | _ => none }
def InstWritesWrongFalsely : Prop := instWritesRow.holds Try.pinned (OpenSpec.ofChange instWritesWrong)

/-- 'strainerlaw02.InstSources': WHATEVER THE INPUT: true; the input reads as it did. -/
def instSourcesSpec : ChangeSpec := { name := "instSources", fn := fun _ => fun
  | [d1, d2] => { results := [.lit (.bool true)], args := [d1, d2] }
  | _ => none }
def instSourcesRow : OpenClaim := { program := "ytlpakmlpnjfcoaa", sum := "459d6d489aced1cc8dbc16012622352bca1f2c793107e8d8806828606e49ada0", func := "strainer/strainerlaw02.InstSources", spec := "instSources", apart := false }
def InstSourcesSaid : Prop := instSourcesRow.holds Try.pinned (OpenSpec.ofChange instSourcesSpec)

/-- ITS FALSE NEIGHBOUR: 'it returns false'. Refute it at one input. -/
def instSourcesWrong : ChangeSpec := { name := "instSources", fn := fun _ => fun
  | [d1, d2] => { results := [.lit (.bool false)], args := [d1, d2] }
  | _ => none }
def InstSourcesWrongFalsely : Prop := instSourcesRow.holds Try.pinned (OpenSpec.ofChange instSourcesWrong)

/-- 'strainerlaw02.InstJoins': WHATEVER THE INPUT: true; the input reads as it did. -/
def instJoinsSpec : ChangeSpec := { name := "instJoins", fn := fun _ => fun
  | [d1, d2] => { results := [.lit (.bool true)], args := [d1, d2] }
  | _ => none }
def instJoinsRow : OpenClaim := { program := "ytlpakmlpnjfcoaa", sum := "459d6d489aced1cc8dbc16012622352bca1f2c793107e8d8806828606e49ada0", func := "strainer/strainerlaw02.InstJoins", spec := "instJoins", apart := false }
def InstJoinsSaid : Prop := instJoinsRow.holds Try.pinned (OpenSpec.ofChange instJoinsSpec)

/-- ITS FALSE NEIGHBOUR: 'it returns false'. Refute it at one input. -/
def instJoinsWrong : ChangeSpec := { name := "instJoins", fn := fun _ => fun
  | [d1, d2] => { results := [.lit (.bool false)], args := [d1, d2] }
  | _ => none }
def InstJoinsWrongFalsely : Prop := instJoinsRow.holds Try.pinned (OpenSpec.ofChange instJoinsWrong)

/-- 'strainerlaw01.WordGets': WHATEVER THE INPUT: true; the input reads as it did. -/
def wordGetsSpec : ChangeSpec := { name := "wordGets", fn := fun _ => fun
  | [d1, d2] => { results := [.lit (.bool true)], args := [d1, d2] }
  | _ => none }
def wordGetsRow : OpenClaim := { program := "ytlpakmlpnjfcoaa", sum := "459d6d489aced1cc8dbc16012622352bca1f2c793107e8d8806828606e49ada0", func := "strainer/strainerlaw01.WordGets", spec := "wordGets", unfollowed := true, recurses := true, apart := false }
def WordGetsSaid : Prop := wordGetsRow.holds Try.pinned (OpenSpec.ofChange wordGetsSpec)

/-- ITS FALSE NEIGHBOUR: 'it returns false'. Refute it at one input. -/
def wordGetsWrong : ChangeSpec := { name := "wordGets", fn := fun _ => fun
  | [d1, d2] => { results := [.lit (.bool false)], args := [d1, d2] }
  | _ => none }
def WordGetsWrongFalsely : Prop := wordGetsRow.holds Try.pinned (OpenSpec.ofChange wordGetsWrong)

/-- 'strainerlaw01.WordTurns': WHATEVER THE INPUT: true; the input reads as it did. -/
def wordTurnsSpec : ChangeSpec := { name := "wordTurns", fn := fun _ => fun
  | [d1, d2] => { results := [.lit (.bool true)], args := [d1, d2] }
  | _ => none }
def wordTurnsRow : OpenClaim := { program := "ytlpakmlpnjfcoaa", sum := "459d6d489aced1cc8dbc16012622352bca1f2c793107e8d8806828606e49ada0", func := "strainer/strainerlaw01.WordTurns", spec := "wordTurns", unfollowed := true, recurses := true, apart := false }
def WordTurnsSaid : Prop := wordTurnsRow.holds Try.pinned (OpenSpec.ofChange wordTurnsSpec)

/-- ITS FALSE NEIGHBOUR: 'it returns false'. Refute it at one input. -/
def wordTurnsWrong : ChangeSpec := { name := "wordTurns", fn := fun _ => fun
  | [d1, d2] => { results := [.lit (.bool false)], args := [d1, d2] }
  | _ => none }
def WordTurnsWrongFalsely : Prop := wordTurnsRow.holds Try.pinned (OpenSpec.ofChange wordTurnsWrong)

/-- 'strainerlaw01.WordSplits': WHATEVER THE INPUT: true; the input reads as it did. -/
def wordSplitsSpec : ChangeSpec := { name := "wordSplits", fn := fun _ => fun
  | [d1, d2] => { results := [.lit (.bool true)], args := [d1, d2] }
  | _ => none }
def wordSplitsRow : OpenClaim := { program := "ytlpakmlpnjfcoaa", sum := "459d6d489aced1cc8dbc16012622352bca1f2c793107e8d8806828606e49ada0", func := "strainer/strainerlaw01.WordSplits", spec := "wordSplits", unfollowed := true, recurses := true, apart := false }
def WordSplitsSaid : Prop := wordSplitsRow.holds Try.pinned (OpenSpec.ofChange wordSplitsSpec)

/-- ITS FALSE NEIGHBOUR: 'it returns false'. Refute it at one input. -/
def wordSplitsWrong : ChangeSpec := { name := "wordSplits", fn := fun _ => fun
  | [d1, d2] => { results := [.lit (.bool false)], args := [d1, d2] }
  | _ => none }
def WordSplitsWrongFalsely : Prop := wordSplitsRow.holds Try.pinned (OpenSpec.ofChange wordSplitsWrong)

/-- 'strainerlaw01.WordHalves': WHATEVER THE INPUT: true; the input reads as it did. -/
def wordHalvesSpec : ChangeSpec := { name := "wordHalves", fn := fun _ => fun
  | [d1, d2, d3] => { results := [.lit (.bool true)], args := [d1, d2, d3] }
  | _ => none }
def wordHalvesRow : OpenClaim := { program := "ytlpakmlpnjfcoaa", sum := "459d6d489aced1cc8dbc16012622352bca1f2c793107e8d8806828606e49ada0", func := "strainer/strainerlaw01.WordHalves", spec := "wordHalves", unfollowed := true, recurses := true, apart := false }
def WordHalvesSaid : Prop := wordHalvesRow.holds Try.pinned (OpenSpec.ofChange wordHalvesSpec)

/-- ITS FALSE NEIGHBOUR: 'it returns false'. Refute it at one input. -/
def wordHalvesWrong : ChangeSpec := { name := "wordHalves", fn := fun _ => fun
  | [d1, d2, d3] => { results := [.lit (.bool false)], args := [d1, d2, d3] }
  | _ => none }
def WordHalvesWrongFalsely : Prop := wordHalvesRow.holds Try.pinned (OpenSpec.ofChange wordHalvesWrong)

/-- 'strainerlaw01.WordPuts': WHATEVER THE INPUT: true; the input reads as it did. -/
def wordPutsSpec : ChangeSpec := { name := "wordPuts", fn := fun _ => fun
  | [d1, d2, d3] => { results := [.lit (.bool true)], args := [d1, d2, d3] }
  | _ => none }
def wordPutsRow : OpenClaim := { program := "ytlpakmlpnjfcoaa", sum := "459d6d489aced1cc8dbc16012622352bca1f2c793107e8d8806828606e49ada0", func := "strainer/strainerlaw01.WordPuts", spec := "wordPuts", unfollowed := true, recurses := true, apart := false }
def WordPutsSaid : Prop := wordPutsRow.holds Try.pinned (OpenSpec.ofChange wordPutsSpec)

/-- ITS FALSE NEIGHBOUR: 'it returns false'. Refute it at one input. -/
def wordPutsWrong : ChangeSpec := { name := "wordPuts", fn := fun _ => fun
  | [d1, d2, d3] => { results := [.lit (.bool false)], args := [d1, d2, d3] }
  | _ => none }
def WordPutsWrongFalsely : Prop := wordPutsRow.holds Try.pinned (OpenSpec.ofChange wordPutsWrong)

/-- 'strainerlaw01.WordBack': WHATEVER THE INPUT: true; the input reads as it did. -/
def wordBackSpec : ChangeSpec := { name := "wordBack", fn := fun _ => fun
  | [d1, d2, d3] => { results := [.lit (.bool true)], args := [d1, d2, d3] }
  | _ => none }
def wordBackRow : OpenClaim := { program := "ytlpakmlpnjfcoaa", sum := "459d6d489aced1cc8dbc16012622352bca1f2c793107e8d8806828606e49ada0", func := "strainer/strainerlaw01.WordBack", spec := "wordBack", unfollowed := true, recurses := true, apart := false }
def WordBackSaid : Prop := wordBackRow.holds Try.pinned (OpenSpec.ofChange wordBackSpec)

/-- ITS FALSE NEIGHBOUR: 'it returns false'. Refute it at one input. -/
def wordBackWrong : ChangeSpec := { name := "wordBack", fn := fun _ => fun
  | [d1, d2, d3] => { results := [.lit (.bool false)], args := [d1, d2, d3] }
  | _ => none }
def WordBackWrongFalsely : Prop := wordBackRow.holds Try.pinned (OpenSpec.ofChange wordBackWrong)

/-- 'strainerlaw05.DataReads': WHATEVER THE INPUT: true; the input reads as it did. -/
def dataReadsSpec : ChangeSpec := { name := "dataReads", fn := fun _ => fun
  | [d1, d2] => { results := [.lit (.bool true)], args := [d1, d2] }
  | _ => none }
def dataReadsRow : OpenClaim := { program := "ytlpakmlpnjfcoaa", sum := "459d6d489aced1cc8dbc16012622352bca1f2c793107e8d8806828606e49ada0", func := "strainer/strainerlaw05.DataReads", spec := "dataReads", unfollowed := true, recurses := true, apart := false }
def DataReadsSaid : Prop := dataReadsRow.holds Try.pinned (OpenSpec.ofChange dataReadsSpec)

/-- ITS FALSE NEIGHBOUR: 'it returns false'. Refute it at one input. -/
def dataReadsWrong : ChangeSpec := { name := "dataReads", fn := fun _ => fun
  | [d1, d2] => { results := [.lit (.bool false)], args := [d1, d2] }
  | _ => none }
def DataReadsWrongFalsely : Prop := dataReadsRow.holds Try.pinned (OpenSpec.ofChange dataReadsWrong)

/-- 'strainerlaw05.DataWrites': WHATEVER THE INPUT: true; the input reads as it did. -/
def dataWritesSpec : ChangeSpec := { name := "dataWrites", fn := fun _ => fun
  | [d1, d2] => { results := [.lit (.bool true)], args := [d1, d2] }
  | _ => none }
def dataWritesRow : OpenClaim := { program := "ytlpakmlpnjfcoaa", sum := "459d6d489aced1cc8dbc16012622352bca1f2c793107e8d8806828606e49ada0", func := "strainer/strainerlaw05.DataWrites", spec := "dataWrites", unfollowed := true, recurses := true, apart := false }
def DataWritesSaid : Prop := dataWritesRow.holds Try.pinned (OpenSpec.ofChange dataWritesSpec)

/-- ITS FALSE NEIGHBOUR: 'it returns false'. Refute it at one input. -/
def dataWritesWrong : ChangeSpec := { name := "dataWrites", fn := fun _ => fun
  | [d1, d2] => { results := [.lit (.bool false)], args := [d1, d2] }
  | _ => none }
def DataWritesWrongFalsely : Prop := dataWritesRow.holds Try.pinned (OpenSpec.ofChange dataWritesWrong)

/-- 'strainerlaw05.DataApart': WHATEVER THE INPUT: true; the input reads as it did. -/
def dataApartSpec : ChangeSpec := { name := "dataApart", fn := fun _ => fun
  | [d1, d2, d3] => { results := [.lit (.bool true)], args := [d1, d2, d3] }
  | _ => none }
def dataApartRow : OpenClaim := { program := "ytlpakmlpnjfcoaa", sum := "459d6d489aced1cc8dbc16012622352bca1f2c793107e8d8806828606e49ada0", func := "strainer/strainerlaw05.DataApart", spec := "dataApart", unfollowed := true, recurses := true, apart := false }
def DataApartSaid : Prop := dataApartRow.holds Try.pinned (OpenSpec.ofChange dataApartSpec)

/-- ITS FALSE NEIGHBOUR: 'it returns false'. Refute it at one input. -/
def dataApartWrong : ChangeSpec := { name := "dataApart", fn := fun _ => fun
  | [d1, d2, d3] => { results := [.lit (.bool false)], args := [d1, d2, d3] }
  | _ => none }
def DataApartWrongFalsely : Prop := dataApartRow.holds Try.pinned (OpenSpec.ofChange dataApartWrong)

/-- 'strainerlaw05.DataTurns': WHATEVER THE INPUT: true; the input reads as it did. -/
def dataTurnsSpec : ChangeSpec := { name := "dataTurns", fn := fun _ => fun
  | [d] => { results := [.lit (.bool true)], args := [d] }
  | _ => none }
def dataTurnsRow : OpenClaim := { program := "ytlpakmlpnjfcoaa", sum := "459d6d489aced1cc8dbc16012622352bca1f2c793107e8d8806828606e49ada0", func := "strainer/strainerlaw05.DataTurns", spec := "dataTurns", unfollowed := true, recurses := true, apart := false }
def DataTurnsSaid : Prop := dataTurnsRow.holds Try.pinned (OpenSpec.ofChange dataTurnsSpec)

/-- ITS FALSE NEIGHBOUR: 'it returns false'. Refute it at one input. -/
def dataTurnsWrong : ChangeSpec := { name := "dataTurns", fn := fun _ => fun
  | [d] => { results := [.lit (.bool false)], args := [d] }
  | _ => none }
def DataTurnsWrongFalsely : Prop := dataTurnsRow.holds Try.pinned (OpenSpec.ofChange dataTurnsWrong)

/-- 'strainerlaw05.DataHalves': WHATEVER THE INPUT: true; the input reads as it did. -/
def dataHalvesSpec : ChangeSpec := { name := "dataHalves", fn := fun _ => fun
  | [d1, d2, d3] => { results := [.lit (.bool true)], args := [d1, d2, d3] }
  | _ => none }
def dataHalvesRow : OpenClaim := { program := "ytlpakmlpnjfcoaa", sum := "459d6d489aced1cc8dbc16012622352bca1f2c793107e8d8806828606e49ada0", func := "strainer/strainerlaw05.DataHalves", spec := "dataHalves", unfollowed := true, recurses := true, apart := false }
def DataHalvesSaid : Prop := dataHalvesRow.holds Try.pinned (OpenSpec.ofChange dataHalvesSpec)

/-- ITS FALSE NEIGHBOUR: 'it returns false'. Refute it at one input. -/
def dataHalvesWrong : ChangeSpec := { name := "dataHalves", fn := fun _ => fun
  | [d1, d2, d3] => { results := [.lit (.bool false)], args := [d1, d2, d3] }
  | _ => none }
def DataHalvesWrongFalsely : Prop := dataHalvesRow.holds Try.pinned (OpenSpec.ofChange dataHalvesWrong)

/-- 'strainerlaw02.InstReads': WHATEVER THE INPUT: true; the input reads as it did. -/
def instReadsSpec : ChangeSpec := { name := "instReads", fn := fun _ => fun
  | [d] => { results := [.lit (.bool true)], args := [d] }
  | _ => none }
def instReadsRow : OpenClaim := { program := "ytlpakmlpnjfcoaa", sum := "459d6d489aced1cc8dbc16012622352bca1f2c793107e8d8806828606e49ada0", func := "strainer/strainerlaw02.InstReads", spec := "instReads", unfollowed := true, recurses := true, apart := false }
def InstReadsSaid : Prop := instReadsRow.holds Try.pinned (OpenSpec.ofChange instReadsSpec)

/-- ITS FALSE NEIGHBOUR: 'it returns false'. Refute it at one input. -/
def instReadsWrong : ChangeSpec := { name := "instReads", fn := fun _ => fun
  | [d] => { results := [.lit (.bool false)], args := [d] }
  | _ => none }
def InstReadsWrongFalsely : Prop := instReadsRow.holds Try.pinned (OpenSpec.ofChange instReadsWrong)

/-- 'strainerlaw02.InstBack': WHATEVER THE INPUT: true; the input reads as it did. -/
def instBackSpec : ChangeSpec := { name := "instBack", fn := fun _ => fun
  | [d1, d2] => { results := [.lit (.bool true)], args := [d1, d2] }
  | _ => none }
def instBackRow : OpenClaim := { program := "ytlpakmlpnjfcoaa", sum := "459d6d489aced1cc8dbc16012622352bca1f2c793107e8d8806828606e49ada0", func := "strainer/strainerlaw02.InstBack", spec := "instBack", unfollowed := true, recurses := true, apart := false }
def InstBackSaid : Prop := instBackRow.holds Try.pinned (OpenSpec.ofChange instBackSpec)

/-- ITS FALSE NEIGHBOUR: 'it returns false'. Refute it at one input. -/
def instBackWrong : ChangeSpec := { name := "instBack", fn := fun _ => fun
  | [d1, d2] => { results := [.lit (.bool false)], args := [d1, d2] }
  | _ => none }
def InstBackWrongFalsely : Prop := instBackRow.holds Try.pinned (OpenSpec.ofChange instBackWrong)

/-- 'strainerlaw02.InstLong': WHATEVER THE INPUT: true; the input reads as it did. -/
def instLongSpec : ChangeSpec := { name := "instLong", fn := fun _ => fun
  | [d] => { results := [.lit (.bool true)], args := [d] }
  | _ => none }
def instLongRow : OpenClaim := { program := "ytlpakmlpnjfcoaa", sum := "459d6d489aced1cc8dbc16012622352bca1f2c793107e8d8806828606e49ada0", func := "strainer/strainerlaw02.InstLong", spec := "instLong", unfollowed := true, recurses := true, apart := false }
def InstLongSaid : Prop := instLongRow.holds Try.pinned (OpenSpec.ofChange instLongSpec)

/-- ITS FALSE NEIGHBOUR: 'it returns false'. Refute it at one input. -/
def instLongWrong : ChangeSpec := { name := "instLong", fn := fun _ => fun
  | [d] => { results := [.lit (.bool false)], args := [d] }
  | _ => none }
def InstLongWrongFalsely : Prop := instLongRow.holds Try.pinned (OpenSpec.ofChange instLongWrong)

/-- 'strainerlaw05.DataBack': WHATEVER THE INPUT: true; the input reads as it did. -/
def dataBackSpec : ChangeSpec := { name := "dataBack", fn := fun _ => fun
  | [d1, d2] => { results := [.lit (.bool true)], args := [d1, d2] }
  | _ => none }
def dataBackRow : OpenClaim := { program := "ytlpakmlpnjfcoaa", sum := "459d6d489aced1cc8dbc16012622352bca1f2c793107e8d8806828606e49ada0", func := "strainer/strainerlaw05.DataBack", spec := "dataBack", unfollowed := true, recurses := true, apart := false }
def DataBackSaid : Prop := dataBackRow.holds Try.pinned (OpenSpec.ofChange dataBackSpec)

/-- ITS FALSE NEIGHBOUR: 'it returns false'. Refute it at one input. -/
def dataBackWrong : ChangeSpec := { name := "dataBack", fn := fun _ => fun
  | [d1, d2] => { results := [.lit (.bool false)], args := [d1, d2] }
  | _ => none }
def DataBackWrongFalsely : Prop := dataBackRow.holds Try.pinned (OpenSpec.ofChange dataBackWrong)

/- THE SECOND FORM. 'bulk': how many values and letters a reading holds, each counted each time it is reached (what is shared counts as often as it is met; a slice's spare places count too). A statement '..UptoSaid' is the law's where the arguments, and the package variables that the reading takes, are together of bulk at most 1048576: NARROWER than '..Said'. Prove '..Said' where nothing that the law and all that it calls make is longer than what came in: it says more and counts as full. Else prove '..UptoSaid'. A law counts once. -/
mutual
def uptoBulk {H : Type} : DataW H → Nat
  | .lit (.string bytes) => bytes.length + 1
  | .lit _ => 1
  | .nil => 1
  | .ptr d => uptoBulk d + 1
  | .slice elems spare => uptoBulkAll elems + uptoBulkAll spare + 1
  | .agg parts => uptoBulkAll parts + 1
  | .iface _ d => uptoBulk d + 1
  | .map entries => uptoBulkEntries entries + 1
  | .held _ => 1
def uptoBulkAll {H : Type} : List (DataW H) → Nat
  | [] => 0
  | d :: r => uptoBulk d + uptoBulkAll r
def uptoBulkEntries {H : Type} : List (Lit × DataW H) → Nat
  | [] => 0
  | x :: r => uptoBulkEntry x + uptoBulkEntries r
def uptoBulkEntry {H : Type} : Lit × DataW H → Nat
  | (.string bytes, d) => bytes.length + uptoBulk d + 1
  | (_, d) => uptoBulk d + 1
 end
def uptoSmall : (H : Type) → List (DataW H) → Bool := fun _ ds => decide (uptoBulkAll ds ≤ 1048576)
def OpenSpec.upto (s : _root_.Go.ChangeSpec) : _root_.Go.OpenSpec := { _root_.Go.OpenSpec.ofChange s with cond := some uptoSmall }

/-- 'strainerlaw02.InstCodes', WHERE WHAT IT READS IS OF BULK AT MOST 1048576: true; the input reads as it did. -/
def instCodesUptoRow : OpenClaim := { program := "ytlpakmlpnjfcoaa", sum := "459d6d489aced1cc8dbc16012622352bca1f2c793107e8d8806828606e49ada0", func := "strainer/strainerlaw02.InstCodes", spec := "instCodes", apart := false, narrowed := true }
def InstCodesUptoSaid : Prop := instCodesUptoRow.holds Try.pinned (OpenSpec.upto instCodesSpec)

/-- 'strainerlaw02.InstWrites', WHERE WHAT IT READS IS OF BULK AT MOST 1048576: true; the input reads as it did. -/
def instWritesUptoRow : OpenClaim := { program := "ytlpakmlpnjfcoaa", sum := "459d6d489aced1cc8dbc16012622352bca1f2c793107e8d8806828606e49ada0", func := "strainer/strainerlaw02.InstWrites", spec := "instWrites", apart := false, narrowed := true }
def InstWritesUptoSaid : Prop := instWritesUptoRow.holds Try.pinned (OpenSpec.upto instWritesSpec)

/-- 'strainerlaw02.InstSources', WHERE WHAT IT READS IS OF BULK AT MOST 1048576: true; the input reads as it did. -/
def instSourcesUptoRow : OpenClaim := { program := "ytlpakmlpnjfcoaa", sum := "459d6d489aced1cc8dbc16012622352bca1f2c793107e8d8806828606e49ada0", func := "strainer/strainerlaw02.InstSources", spec := "instSources", apart := false, narrowed := true }
def InstSourcesUptoSaid : Prop := instSourcesUptoRow.holds Try.pinned (OpenSpec.upto instSourcesSpec)

/-- 'strainerlaw02.InstJoins', WHERE WHAT IT READS IS OF BULK AT MOST 1048576: true; the input reads as it did. -/
def instJoinsUptoRow : OpenClaim := { program := "ytlpakmlpnjfcoaa", sum := "459d6d489aced1cc8dbc16012622352bca1f2c793107e8d8806828606e49ada0", func := "strainer/strainerlaw02.InstJoins", spec := "instJoins", apart := false, narrowed := true }
def InstJoinsUptoSaid : Prop := instJoinsUptoRow.holds Try.pinned (OpenSpec.upto instJoinsSpec)

/-- 'strainerlaw01.WordGets', WHERE WHAT IT READS IS OF BULK AT MOST 1048576: true; the input reads as it did. -/
def wordGetsUptoRow : OpenClaim := { program := "ytlpakmlpnjfcoaa", sum := "459d6d489aced1cc8dbc16012622352bca1f2c793107e8d8806828606e49ada0", func := "strainer/strainerlaw01.WordGets", spec := "wordGets", unfollowed := true, recurses := true, apart := false, narrowed := true }
def WordGetsUptoSaid : Prop := wordGetsUptoRow.holds Try.pinned (OpenSpec.upto wordGetsSpec)

/-- 'strainerlaw01.WordTurns', WHERE WHAT IT READS IS OF BULK AT MOST 1048576: true; the input reads as it did. -/
def wordTurnsUptoRow : OpenClaim := { program := "ytlpakmlpnjfcoaa", sum := "459d6d489aced1cc8dbc16012622352bca1f2c793107e8d8806828606e49ada0", func := "strainer/strainerlaw01.WordTurns", spec := "wordTurns", unfollowed := true, recurses := true, apart := false, narrowed := true }
def WordTurnsUptoSaid : Prop := wordTurnsUptoRow.holds Try.pinned (OpenSpec.upto wordTurnsSpec)

/-- 'strainerlaw01.WordSplits', WHERE WHAT IT READS IS OF BULK AT MOST 1048576: true; the input reads as it did. -/
def wordSplitsUptoRow : OpenClaim := { program := "ytlpakmlpnjfcoaa", sum := "459d6d489aced1cc8dbc16012622352bca1f2c793107e8d8806828606e49ada0", func := "strainer/strainerlaw01.WordSplits", spec := "wordSplits", unfollowed := true, recurses := true, apart := false, narrowed := true }
def WordSplitsUptoSaid : Prop := wordSplitsUptoRow.holds Try.pinned (OpenSpec.upto wordSplitsSpec)

/-- 'strainerlaw01.WordHalves', WHERE WHAT IT READS IS OF BULK AT MOST 1048576: true; the input reads as it did. -/
def wordHalvesUptoRow : OpenClaim := { program := "ytlpakmlpnjfcoaa", sum := "459d6d489aced1cc8dbc16012622352bca1f2c793107e8d8806828606e49ada0", func := "strainer/strainerlaw01.WordHalves", spec := "wordHalves", unfollowed := true, recurses := true, apart := false, narrowed := true }
def WordHalvesUptoSaid : Prop := wordHalvesUptoRow.holds Try.pinned (OpenSpec.upto wordHalvesSpec)

/-- 'strainerlaw01.WordPuts', WHERE WHAT IT READS IS OF BULK AT MOST 1048576: true; the input reads as it did. -/
def wordPutsUptoRow : OpenClaim := { program := "ytlpakmlpnjfcoaa", sum := "459d6d489aced1cc8dbc16012622352bca1f2c793107e8d8806828606e49ada0", func := "strainer/strainerlaw01.WordPuts", spec := "wordPuts", unfollowed := true, recurses := true, apart := false, narrowed := true }
def WordPutsUptoSaid : Prop := wordPutsUptoRow.holds Try.pinned (OpenSpec.upto wordPutsSpec)

/-- 'strainerlaw01.WordBack', WHERE WHAT IT READS IS OF BULK AT MOST 1048576: true; the input reads as it did. -/
def wordBackUptoRow : OpenClaim := { program := "ytlpakmlpnjfcoaa", sum := "459d6d489aced1cc8dbc16012622352bca1f2c793107e8d8806828606e49ada0", func := "strainer/strainerlaw01.WordBack", spec := "wordBack", unfollowed := true, recurses := true, apart := false, narrowed := true }
def WordBackUptoSaid : Prop := wordBackUptoRow.holds Try.pinned (OpenSpec.upto wordBackSpec)

/-- 'strainerlaw05.DataReads', WHERE WHAT IT READS IS OF BULK AT MOST 1048576: true; the input reads as it did. -/
def dataReadsUptoRow : OpenClaim := { program := "ytlpakmlpnjfcoaa", sum := "459d6d489aced1cc8dbc16012622352bca1f2c793107e8d8806828606e49ada0", func := "strainer/strainerlaw05.DataReads", spec := "dataReads", unfollowed := true, recurses := true, apart := false, narrowed := true }
def DataReadsUptoSaid : Prop := dataReadsUptoRow.holds Try.pinned (OpenSpec.upto dataReadsSpec)

/-- 'strainerlaw05.DataWrites', WHERE WHAT IT READS IS OF BULK AT MOST 1048576: true; the input reads as it did. -/
def dataWritesUptoRow : OpenClaim := { program := "ytlpakmlpnjfcoaa", sum := "459d6d489aced1cc8dbc16012622352bca1f2c793107e8d8806828606e49ada0", func := "strainer/strainerlaw05.DataWrites", spec := "dataWrites", unfollowed := true, recurses := true, apart := false, narrowed := true }
def DataWritesUptoSaid : Prop := dataWritesUptoRow.holds Try.pinned (OpenSpec.upto dataWritesSpec)

/-- 'strainerlaw05.DataApart', WHERE WHAT IT READS IS OF BULK AT MOST 1048576: true; the input reads as it did. -/
def dataApartUptoRow : OpenClaim := { program := "ytlpakmlpnjfcoaa", sum := "459d6d489aced1cc8dbc16012622352bca1f2c793107e8d8806828606e49ada0", func := "strainer/strainerlaw05.DataApart", spec := "dataApart", unfollowed := true, recurses := true, apart := false, narrowed := true }
def DataApartUptoSaid : Prop := dataApartUptoRow.holds Try.pinned (OpenSpec.upto dataApartSpec)

/-- 'strainerlaw05.DataTurns', WHERE WHAT IT READS IS OF BULK AT MOST 1048576: true; the input reads as it did. -/
def dataTurnsUptoRow : OpenClaim := { program := "ytlpakmlpnjfcoaa", sum := "459d6d489aced1cc8dbc16012622352bca1f2c793107e8d8806828606e49ada0", func := "strainer/strainerlaw05.DataTurns", spec := "dataTurns", unfollowed := true, recurses := true, apart := false, narrowed := true }
def DataTurnsUptoSaid : Prop := dataTurnsUptoRow.holds Try.pinned (OpenSpec.upto dataTurnsSpec)

/-- 'strainerlaw05.DataHalves', WHERE WHAT IT READS IS OF BULK AT MOST 1048576: true; the input reads as it did. -/
def dataHalvesUptoRow : OpenClaim := { program := "ytlpakmlpnjfcoaa", sum := "459d6d489aced1cc8dbc16012622352bca1f2c793107e8d8806828606e49ada0", func := "strainer/strainerlaw05.DataHalves", spec := "dataHalves", unfollowed := true, recurses := true, apart := false, narrowed := true }
def DataHalvesUptoSaid : Prop := dataHalvesUptoRow.holds Try.pinned (OpenSpec.upto dataHalvesSpec)

/-- 'strainerlaw02.InstReads', WHERE WHAT IT READS IS OF BULK AT MOST 1048576: true; the input reads as it did. -/
def instReadsUptoRow : OpenClaim := { program := "ytlpakmlpnjfcoaa", sum := "459d6d489aced1cc8dbc16012622352bca1f2c793107e8d8806828606e49ada0", func := "strainer/strainerlaw02.InstReads", spec := "instReads", unfollowed := true, recurses := true, apart := false, narrowed := true }
def InstReadsUptoSaid : Prop := instReadsUptoRow.holds Try.pinned (OpenSpec.upto instReadsSpec)

/-- 'strainerlaw02.InstBack', WHERE WHAT IT READS IS OF BULK AT MOST 1048576: true; the input reads as it did. -/
def instBackUptoRow : OpenClaim := { program := "ytlpakmlpnjfcoaa", sum := "459d6d489aced1cc8dbc16012622352bca1f2c793107e8d8806828606e49ada0", func := "strainer/strainerlaw02.InstBack", spec := "instBack", unfollowed := true, recurses := true, apart := false, narrowed := true }
def InstBackUptoSaid : Prop := instBackUptoRow.holds Try.pinned (OpenSpec.upto instBackSpec)

/-- 'strainerlaw02.InstLong', WHERE WHAT IT READS IS OF BULK AT MOST 1048576: true; the input reads as it did. -/
def instLongUptoRow : OpenClaim := { program := "ytlpakmlpnjfcoaa", sum := "459d6d489aced1cc8dbc16012622352bca1f2c793107e8d8806828606e49ada0", func := "strainer/strainerlaw02.InstLong", spec := "instLong", unfollowed := true, recurses := true, apart := false, narrowed := true }
def InstLongUptoSaid : Prop := instLongUptoRow.holds Try.pinned (OpenSpec.upto instLongSpec)

/-- 'strainerlaw05.DataBack', WHERE WHAT IT READS IS OF BULK AT MOST 1048576: true; the input reads as it did. -/
def dataBackUptoRow : OpenClaim := { program := "ytlpakmlpnjfcoaa", sum := "459d6d489aced1cc8dbc16012622352bca1f2c793107e8d8806828606e49ada0", func := "strainer/strainerlaw05.DataBack", spec := "dataBack", unfollowed := true, recurses := true, apart := false, narrowed := true }
def DataBackUptoSaid : Prop := dataBackUptoRow.holds Try.pinned (OpenSpec.upto dataBackSpec)

end Rows
end Go.Proofs.Ytlpakmlpnjfcoaa
