/- A world in which the listed tables hold what the rows list: for the rows' witnesses. -/
import Derived.Test.YtajndnaeknfogaaDoorGm
import Derived.Test.YtajndnaeknfogaaDoorCards
import Derived.Test.YtajndnaeknfogaaDoorTie
import Derived.Deep.DeepHandedRow
import Derived.Deep.DeepLaidRun
import Derived.ProofKit
import Derived.OpenShut
import Derived.Lib.LaidTab
import Derived.Lib.LaidU8
namespace Go.Proofs.YtajndnaeknfogaaDoor.Q
open Go.RowKit
set_option linter.unusedVariables false

theorem own : ownKnob Tryd.prog.godebug = none := by kernel_rfl
def filled (cs : Array Value) : Obj → Obj
  | .cells _ t frozen => .cells cs t frozen
  | o => o
noncomputable def laidWorld (os : Os) : World :=
  { World.holding Tryd.prog os ⟨#[], #[], []⟩ with heap := ((World.holding Tryd.prog os ⟨#[], #[], []⟩).heap.modify 0 (filled (Lib.firstTab.map fun z => Value.int .u8 z).toArray)).modify 1 (filled ((List.range 16).flatMap fun i => [Value.int .u8 (Lib.accLo i), Value.int .u8 (Lib.accHi i)]).toArray) }
def zeroItem : Value := .agg #[.int .i64 0, .string ⟨#[]⟩, .string ⟨#[]⟩, .string ⟨#[]⟩, .string ⟨#[]⟩, .string ⟨#[]⟩, .string ⟨#[]⟩, .string ⟨#[]⟩, .int .u32 0, .int .i64 0, .bool false, .slice none 0 0]
def argsS : Array Value := #[.slice none 0 0, zeroItem, .string ⟨#[]⟩]
def laidRow : List (String × DataW Unit) := [("unicode/utf8.acceptRanges", Rows.laid_unicode_utf8_acceptRanges), ("unicode/utf8.first", Rows.laid_unicode_utf8_first)]
set_option maxRecDepth 100000 in
theorem laid_metS (os : Os) : laidMet Tryd.prog laidRow ((laidWorld os).forCall (fun _ _ => 0) ⟨#[], argsS, []⟩).memory :=
  laidMet_of_run' 8 (by kernel_rfl) (by kernel_rfl)
set_option maxRecDepth 100000 in
theorem readsS (os : Os) {H : Type} (enc : TypeId × Value → H) : ∃ places ds, DataW.whole enc Tryd.prog ((laidWorld os).forCall (fun _ _ => 0) ⟨#[], argsS, []⟩).memory [22, 26, 9] [] false argsS.toList 8 = some (ds, [], places) :=
  ⟨[], [.nil, .agg [.lit (.int .i64 0), .lit (.string []), .lit (.string []), .lit (.string []), .lit (.string []), .lit (.string []), .lit (.string []), .lit (.string []), .lit (.int .u32 0), .lit (.int .i64 0), .lit (.bool false), .nil], .lit (.string [])], by kernel_rfl⟩
end Go.Proofs.YtajndnaeknfogaaDoor.Q
