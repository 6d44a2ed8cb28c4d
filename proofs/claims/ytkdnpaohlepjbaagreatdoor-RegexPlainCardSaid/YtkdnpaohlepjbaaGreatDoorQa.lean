/-
  A try's small steps (step, atom, fail) do what is said here. Conditions: the try's cells are as given.
-/
import Derived.Test.YtkdnpaohlepjbaaGreatDoorPi
namespace Go.Proofs.YtkdnpaohlepjbaaGreatDoor
open Go.RowKit

/-- A try's cells. -/
def tryCells (pb : Nat) (l caps tm st un ch : Value) (left : Int) : Array Value := #[.pointer (some ⟨pb, 0, none⟩), l, caps, tm, st, un, ch, .int .i64 left]

theorem step_any (t pb : Nat) (l caps tm st un ch : Value) (left : Int) (w : World) (hb : Blk w t (tryCells pb l caps tm st un ch left) 112) (h0 : 0 < left) (h1 : left ≤ 2000000000) :
    Calls Tryz.prog 48 #[.pointer (some ⟨t, 0, none⟩)] w fun e w' => e = .returned (.tuple #[]) ∧ Blk w' t (tryCells pb l caps tm st un ch (left - 1)) 112 ∧ Fr (· = t) w w' := by
  have h7 : w.cell? ⟨t, 7, none⟩ = some (.int .i64 left) := hb.cell 7
  have f7 : w.frozen? ⟨t, 7, none⟩ = false := hb.free 7
  have hn : (left == 0) = false := beq_eq_false_iff_ne.2 (by omega)
  go_enter Tryz.func48, Tryz.ntmps48
  go_wp2
  go_end0
  exact ⟨rfl, hb.set 7 _, (Fr.refl (· = t) w).setCell _ (fun _ => rfl) _⟩

theorem canon_same (pb : Nat) (u : Int) (w : World) (h3 : w.cell? ⟨pb, 3, none⟩ = some (.bool false)) :
    Calls Tryz.prog 62 #[.pointer (some ⟨pb, 0, none⟩), .int .u16 u] w fun e w' => e = .returned (.int .u16 u) ∧ w' = w :=
  (canon_plain pb u w h3).mono fun _ _ ⟨he, hw⟩ => ⟨he, hw.symm⟩

set_option maxRecDepth 100000 in
set_option maxHeartbeats 1600000 in
/-- atom, at a unit of the text. -/
theorem atom_at (t pb ob n cap at_ : Nat) (caps tm st un ch : Value) (left c x : Int) (w : World)
    (hb : Blk w t (tryCells pb (.slice (some ⟨ob, 0, none⟩) n cap) caps tm st un ch left) 112) (h0 : 0 < left) (h1 : left ≤ 2000000000)
    (hlt : at_ < n) (hn : n ≤ 5000) (hx0 : 0 ≤ x) (hx1 : x ≤ 65535) (hot : ob ≠ t) (hpt : pb ≠ t)
    (hc : w.cell? ⟨ob, at_, none⟩ = some (.int .u16 c)) (hp : w.cell? ⟨pb, 3, none⟩ = some (.bool false)) :
    Calls Tryz.prog 77 #[.pointer (some ⟨t, 0, none⟩), .agg #[.int .i64 0, .int .i64 x, .int .i64 0, .pointer none], .int .i64 at_] w fun e w' => e = .returned (.tuple #[.int .i64 (at_ + 1), .bool (c == x)]) ∧
      Blk w' t (tryCells pb (.slice (some ⟨ob, 0, none⟩) n cap) caps tm st un ch (left - 1)) 112 ∧ Fr (· = t) w w' := by
  have hmf : ∀ (fn : Fn) (first cap : Array Value) (w : World), (Instr.makeFunc fn first cap).run Tryz.prog w = .ok (.func fn first cap) w := fun _ _ _ _ => rfl
  have hw : IntKind.u16.wrap x = x := IntWalk.u16_in _ (by omega)
  have hol := World.block_lt_of_cell? w _ hc
  have hpl := World.block_lt_of_cell? w _ hp
  go_enter Tryz.func77, Tryz.ntmps77
  go_wp2_with fail
  generalize hW : ((w.alloc (.cells #[.pointer (some ⟨t, 0, none⟩)] 108)).alloc (.cells #[.int .i64 0, .int .i64 x, .int .i64 0, .pointer none] 95)) = W
  have W0 : Blk W w.heap.size #[.pointer (some ⟨t, 0, none⟩)] 108 := by rw [← hW]; exact (Blk.new w _ _).alloc _
  have W1 : Blk W (w.heap.size + 1) #[.int .i64 0, .int .i64 x, .int .i64 0, .pointer none] 95 := by rw [← hW]; exact two_blocks w _ _ _ _
  have Wb : Blk W t (tryCells pb (.slice (some ⟨ob, 0, none⟩) n cap) caps tm st un ch left) 112 := by rw [← hW]; exact (hb.alloc _).alloc _
  have Wc : W.cell? ⟨ob, at_, none⟩ = some (.int .u16 c) := by rw [← hW, World.cell?_alloc_lt _ _ _ (by simp; omega), World.cell?_alloc_lt _ _ _ hol]; exact hc
  have Wq : W.cell? ⟨pb, 3, none⟩ = some (.bool false) := by rw [← hW, World.cell?_alloc_lt _ _ _ (by simp; omega), World.cell?_alloc_lt _ _ _ hpl]; exact hp
  have Wf : Fr (· = t) w W := by rw [← hW]; exact ((Fr.refl _ w).alloc _).alloc _
  have htl := hb.lt
  clear hW hc hp hb
  refine (step_any t pb _ caps tm st un ch left W Wb h0 h1).mono ?_
  rintro e w2 ⟨rfl, hb2, hf2⟩
  have b0 : w2.cell? ⟨w.heap.size, 0, none⟩ = some (.pointer (some ⟨t, 0, none⟩)) := (hf2.blk W0 (by omega)).cell 0
  have i0 : w2.cell? ⟨w.heap.size + 1, 0, none⟩ = some (.int .i64 0) := (hf2.blk W1 (by omega)).cell 0
  have i1 : w2.cell? ⟨w.heap.size + 1, 1, none⟩ = some (.int .i64 x) := (hf2.blk W1 (by omega)).cell 1
  have m0 : w2.cell? ⟨t, 0, none⟩ = some (.pointer (some ⟨pb, 0, none⟩)) := hb2.cell 0
  have m1 : w2.cell? ⟨t, 1, none⟩ = some (.slice (some ⟨ob, 0, none⟩) n cap) := hb2.cell 1
  have c2 : w2.cell? ⟨ob, at_, none⟩ = some (.int .u16 c) := by
    rw [World.cell?_of_block (hf2.block ob (World.block_lt_of_cell? W _ Wc) hot)]; exact Wc
  have p2 : w2.cell? ⟨pb, 3, none⟩ = some (.bool false) := by
    rw [World.cell?_of_block (hf2.block pb (World.block_lt_of_cell? W _ Wq) hpt)]; exact Wq
  clear W0 W1 Wb Wc Wq
  go_wp2_with fail
  go_quiet ((go_at_call 62; exact Calls.quiet_of_same (canon_same pb _ _ p2)))
  go_wp2
  go_ret2
  exact ⟨rfl, hb2.drewN _, (Wf.trans hf2).drewN _⟩

set_option maxRecDepth 100000 in
set_option maxHeartbeats 1600000 in
/-- atom, at the end of the text. -/
theorem atom_end (t pb n cap : Nat) (a : Option Addr) (caps tm st un ch : Value) (left x : Int) (w : World)
    (hb : Blk w t (tryCells pb (.slice a n cap) caps tm st un ch left) 112) (h0 : 0 < left) (h1 : left ≤ 2000000000) (hn : n ≤ 5000) :
    Calls Tryz.prog 77 #[.pointer (some ⟨t, 0, none⟩), .agg #[.int .i64 0, .int .i64 x, .int .i64 0, .pointer none], .int .i64 n] w fun e w' => e = .returned (.tuple #[.int .i64 (n + 1), .bool false]) ∧
      Blk w' t (tryCells pb (.slice a n cap) caps tm st un ch (left - 1)) 112 ∧ Fr (· = t) w w' := by
  have hmf : ∀ (fn : Fn) (first cap : Array Value) (w : World), (Instr.makeFunc fn first cap).run Tryz.prog w = .ok (.func fn first cap) w := fun _ _ _ _ => rfl
  go_enter Tryz.func77, Tryz.ntmps77
  go_wp2_with fail
  generalize hW : ((w.alloc (.cells #[.pointer (some ⟨t, 0, none⟩)] 108)).alloc (.cells #[.int .i64 0, .int .i64 x, .int .i64 0, .pointer none] 95)) = W
  have W0 : Blk W w.heap.size #[.pointer (some ⟨t, 0, none⟩)] 108 := by rw [← hW]; exact (Blk.new w _ _).alloc _
  have W1 : Blk W (w.heap.size + 1) #[.int .i64 0, .int .i64 x, .int .i64 0, .pointer none] 95 := by rw [← hW]; exact two_blocks w _ _ _ _
  have Wb : Blk W t (tryCells pb (.slice a n cap) caps tm st un ch left) 112 := by rw [← hW]; exact (hb.alloc _).alloc _
  have Wf : Fr (· = t) w W := by rw [← hW]; exact ((Fr.refl _ w).alloc _).alloc _
  have htl := hb.lt
  clear hW hb
  refine (step_any t pb _ caps tm st un ch left W Wb h0 h1).mono ?_
  rintro e w2 ⟨rfl, hb2, hf2⟩
  have b0 : w2.cell? ⟨w.heap.size, 0, none⟩ = some (.pointer (some ⟨t, 0, none⟩)) := (hf2.blk W0 (by omega)).cell 0
  have i0 : w2.cell? ⟨w.heap.size + 1, 0, none⟩ = some (.int .i64 0) := (hf2.blk W1 (by omega)).cell 0
  have m1 : w2.cell? ⟨t, 1, none⟩ = some (.slice a n cap) := hb2.cell 1
  clear W0 W1 Wb
  go_wp2_with fail
  go_quiet (fail)
  go_wp2
  go_ret2
  exact ⟨rfl, hb2.drewN _, (Wf.trans hf2).drewN _⟩

theorem fail_none (t pb : Nat) (l caps tm st un : Value) (left : Int) (w : World) (hb : Blk w t (tryCells pb l caps tm st un (.slice none 0 0) left) 112) :
    Calls Tryz.prog 78 #[.pointer (some ⟨t, 0, none⟩), .int .i64 0] w fun e w' => e = .returned (.tuple #[.int .i64 0, .int .i64 0, .bool false]) ∧ w = w' := by
  have h6 : w.cell? ⟨t, 6, none⟩ = some (.slice none 0 0) := hb.cell 6
  go_enter Tryz.func78, Tryz.ntmps78
  go_wp2
  go_ret3
  exact ⟨rfl, rfl⟩

end Go.Proofs.YtkdnpaohlepjbaaGreatDoor
