/-
  Repeating one number twice gives a new row of two. Conditions: none but the row's cell.
-/
import Derived.Test.YtkdnpaohlepjbaaGreatDoorPb
import Derived.Laws.CopyOwn
import Derived.Laws.IdiomCopy
import Derived.Deep.RegionLaw
import Derived.LoopN
namespace Go.Proofs.YtkdnpaohlepjbaaGreatDoor
open Go.RowKit

set_option maxRecDepth 100000 in
theorem mul_12 (w : World) : Calls Tryz.prog 73 #[.int .u64 1, .int .u64 2] w fun e w' => e = .returned (.tuple #[.int .u64 0, .int .u64 2]) ∧ w = w' := by
  go_enter Tryz.func73, Tryz.ntmps73
  go_wp2
  go_ret2
  exact ⟨by kernel_rfl, rfl⟩

set_option maxRecDepth 100000 in
set_option maxHeartbeats 1600000 in
theorem repeat_12 (xb : Nat) (w : World) (hx : Blk w xb #[.int .i64 (-1)] 3) :
    Calls Tryz.prog 49 #[.slice (some ⟨xb, 0, none⟩) 1 1, .int .i64 2] w fun e w' => ∃ cb, e = .returned (.slice (some ⟨cb, 0, none⟩) 2 2) ∧ w.heap.size ≤ cb ∧
      Blk w' cb #[.int .i64 (-1), .int .i64 (-1)] 3 ∧ Fr (fun _ => False) w w' := by
  have hmk : ∀ w, (Instr.makeSlice 39 (.int .i64 2) (.int .i64 2)).run Tryz.prog w = .ok (.slice (some ⟨w.heap.size, 0, none⟩) 2 2) (w.alloc (.cells #[.int .i64 0, .int .i64 0] 3)) := fun _ => by kernel_rfl
  have hxl := hx.lt
  have hcp := run_copy_cells (P := Tryz.prog) (w.alloc (.cells #[.int .i64 0, .int .i64 0] 3)) 39 39 3 3 w.heap.size 0 2 2 ⟨xb, 0, none⟩ 1 1 [.int .i64 (-1)] Tryz.underlying39 (by kernel_rfl) rfl
    (fun j v h => by
      match j, h with
      | 0, h =>
        obtain rfl : Value.int .i64 (-1) = v := by simpa using h
        exact (hx.alloc _).cell 0)
    (fun j h => by
      obtain rfl : j = 0 := by simpa using h
      exact Option.isSome_iff_exists.2 ⟨_, (Blk.new w _ _).cell 0⟩)
    (fun j h => (Blk.new w _ _).free _) (by simp [Value.oneCell'])
  simp only [World.setCells, List.length_singleton] at hcp
  have Hcp := Lib.hid hcp
  clear hcp
  go_enter Tryz.func49, Tryz.ntmps49
  go_wp2_with (go_at_call 73; refine (mul_12 _).mono ?_; rintro e w' ⟨rfl, rfl⟩)
  rw [Hcp.out]
  go_wp2_with fail
  refine wp_loop_rounds 2 ?_
  rw [rounds_succ]
  go_wp2_with fail
  have B1 : Blk (w.alloc (.cells #[.int .i64 (-1), .int .i64 0] 3)).drew w.heap.size #[.int .i64 (-1), .int .i64 0] 3 := (Blk.new w _ _).drew
  have S1 : ∀ (j : Nat) (v : Value), [Value.int .i64 (-1)][j]? = some v → (w.alloc (.cells #[.int .i64 (-1), .int .i64 0] 3)).drew.cell? ((⟨w.heap.size, 0, none⟩ : Addr).add j) = some v := fun j v h => by
    match j, h with
    | 0, h =>
      obtain rfl : Value.int .i64 (-1) = v := by simpa using h
      exact B1.cell 0
  have D1 : RowKit.Below w.heap.size w (w.alloc (.cells #[.int .i64 (-1), .int .i64 0] 3)).drew := ((Below.refl _ w).alloc (Nat.le_refl _) _).drew
  have HS := Lib.hid S1
  clear S1
  go_region_law ((refine step_copy_splice rfl (.tmp 41) (.tmp 44) 39 39 (by rfl) 3 Tryz.underlying39 (by kernel_rfl) (some ⟨w.heap.size, 1, none⟩) (some ⟨w.heap.size, 0, none⟩) 1 1 1 2 (by simp [Act.eval, Act.put]) (by simp [Act.eval, Act.put]) w.heap.size 1 [.int .i64 (-1), .int .i64 0] 3 B1 [.int .i64 (-1)] rfl (fun _ => ⟨rfl, _, rfl, HS.out⟩) (by simp) (by simp [Value.oneCell']) w.heap.size w D1 (Nat.le_refl _) ?_; intro w2 hg2 hb2))
  go_wp2_with fail
  rw [rounds_succ]
  go_wp2_with fail
  go_ret
  exact ⟨_, rfl, Nat.le_refl _, hg2.out, (Fr.of_below hb2).mono (fun k hk h => by omega)⟩

end Go.Proofs.YtkdnpaohlepjbaaGreatDoor
