/-
  There is a world that holds what the row of RegexPlain lists. Conditions: none.
-/
import Derived.Test.YtkdnpaohlepjbaaGreatDoorCards
import Derived.Test.YtkdnpaohlepjbaaGreatDoorTie
import Derived.WalkKit
import Derived.ProofKit
import Derived.OpenShut
import Derived.Carry
import Derived.Lay
import Derived.LaidHandle
import Derived.LaidLaws
import Derived.Stop.Joined
import Derived.SevenTiedAt
namespace Go.Proofs.YtkdnpaohlepjbaaGreatDoor
open Go.ChangeShapes Go.WideShapes Go.ChangeAt Go.RowKit

theorem own : ownKnob Tryz.prog.godebug = none := by kernel_rfl
theorem laidOut : laidOutB Tryz.prog = true := by kernel_rfl

/-- What the row lists, without the handle. -/
def plainLaid : List (String × DataW Unit) := Rows.regexPlainRow.laid.filter fun x => x.2.handleName?.isNone
/-- The settled world, errors.errorType holding its handle. -/
noncomputable def handleWorld (os : Os) : World :=
  let w0 := World.holding Tryz.prog os ⟨#[], #[], []⟩
  { w0 with heap := w0.heap.modify 2 fun
      | .cells _ t frozen => .cells #[.iface 168 (.agg #[.pointer (some ⟨12, 50, none⟩)])] t frozen
      | o => o }
/-- .. and the listed variables laid. -/
noncomputable def rowWorld (os : Os) : World := (handleWorld os).layVars Tryz.prog plainLaid
theorem rowWorld_os (os : Os) : (rowWorld os).os = os := by unfold rowWorld; rw [World.layVars_os]; rfl

theorem plain_met (os : Os) (args : Array Value) : laidMet Tryz.prog plainLaid ((rowWorld os).forCall (fun _ _ => 0) ⟨#[], args, []⟩).memory := by
  have e1 : (plainLaid.filter fun x => (plainLaid.map (·.1)).contains x.1) = plainLaid := List.filter_eq_self.2 fun x hx => List.contains_iff_mem.2 (List.mem_map.2 ⟨x, hx, rfl⟩)
  have e2 : (plainLaid.filter fun x => !(plainLaid.map (·.1)).contains x.1) = [] := List.filter_eq_nil_iff.2 fun x hx => by rw [List.contains_iff_mem.2 (List.mem_map.2 ⟨x, hx, rfl⟩)]; simp
  have h : laidMet Tryz.prog plainLaid (rowWorld os) := laidMet_layVars (w0 := handleWorld os) (plainLaid.map (·.1)) [] (by rw [e1]; rfl) (by rw [e1]; kernel_rfl) (by rw [e1]; kernel_rfl) (by rw [e2]; exact LaidIn.none)
  exact h.of_heap (by simp [World.memory, World.forCall, Input.heap])

theorem row_met (os : Os) (args : Array Value) : laidMetH Tryz.prog Rows.regexPlainRow.laid ((rowWorld os).forCall (fun _ _ => 0) ⟨#[], args, []⟩).memory :=
  laidMetH_of_parts (plain_met os args) (by kernel_rfl)

end Go.Proofs.YtkdnpaohlepjbaaGreatDoor
