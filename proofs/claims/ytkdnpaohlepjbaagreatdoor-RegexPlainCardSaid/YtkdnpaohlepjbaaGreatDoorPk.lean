/-
  Compiling a pattern of escapes gives its code. Conditions: at most 300 escapes, no flags.
-/
import Derived.Test.YtkdnpaohlepjbaaGreatDoorPi
import Derived.Test.YtkdnpaohlepjbaaGreatDoorPj
import Derived.LoopN
namespace Go.Proofs.YtkdnpaohlepjbaaGreatDoor
open Go.RowKit

/-- The last instruction. -/
def doneIns : List Value := [.int .i64 17, .int .i64 0, .int .i64 0, .pointer none]

set_option maxRecDepth 100000 in
set_option maxHeartbeats 1600000 in
theorem compile_u (a : Option Addr) (cap m : Nat) (ds : Nat → Nat → Nat) (w : World) (hm : m ≤ 300) (hds : ∀ i, hv (ds i) 4 ≤ 65535)
    (cur : Array Value) (hl : 0 < m → ∃ lb, a = some ⟨lb, 0, none⟩ ∧ Blk w lb cur 37) (hpu : PatUnits cur m ds) :
    Calls Tryz.prog 27 #[.slice a (6 * m) cap, .string ⟨#[]⟩] w fun e w' => ∃ pb c, e = .returned (.tuple #[.pointer (some ⟨pb, 0, none⟩), .nilIface]) ∧
      Blk w' pb (patCells c 0 0 false false false) 62 ∧ w'.ownsRow w.heap.size 95 4 c (m + 1) (codeL (fun i => hv (ds i) 4) m ++ doneIns) ∧
      w.heap.size ≤ pb ∧ c.ownBlock ≠ some pb ∧ Fr (fun _ => False) w w' := by
  have hnx : ∀ ty, (Instr.next (.pointer (some ⟨w.heap.size + 1, 0, none⟩)) true ty).run Tryz.prog ((w.alloc (.cells (patCells (.slice none 0 0) 0 0 false false false) 62)).iter ⟨#[]⟩ 0) = .ok (.tuple #[.bool false]) ((w.alloc (.cells (patCells (.slice none 0 0) 0 0 false false false) 62)).iter ⟨#[]⟩ 0) := fun ty => by
    have h := run_next_end (P := Tryz.prog) (w.alloc (.cells (patCells (.slice none 0 0) 0 0 false false false) 62)) ⟨#[]⟩ 0 ty (by simp [ByteArray.size])
    rwa [World.size_alloc] at h
  have Wp : Blk ((w.alloc (.cells (patCells (.slice none 0 0) 0 0 false false false) 62)).iter ⟨#[]⟩ 0) w.heap.size (patCells (.slice none 0 0) 0 0 false false false) 62 := (Blk.new w _ _).alloc _
  have Wl : 0 < m → ∃ lb, a = some ⟨lb, 0, none⟩ ∧ Blk ((w.alloc (.cells (patCells (.slice none 0 0) 0 0 false false false) 62)).iter ⟨#[]⟩ 0) lb cur 37 := fun h0 => by
    obtain ⟨lb, e, h⟩ := hl h0
    exact ⟨lb, e, (h.alloc _).alloc _⟩
  have Wf : Fr (fun _ => False) w ((w.alloc (.cells (patCells (.slice none 0 0) 0 0 false false false) 62)).iter ⟨#[]⟩ 0) := ((Fr.refl _ w).alloc _).alloc _
  have Ws : ((w.alloc (.cells (patCells (.slice none 0 0) 0 0 false false false) 62)).iter ⟨#[]⟩ 0).heap.size = w.heap.size + 2 := by
    show ((w.alloc _).alloc _).heap.size = _
    simp
  have HW := Lib.hid Ws
  clear Ws
  unfold patCells at hnx
  go_enter Tryz.func27, Tryz.ntmps27
  go_wp2_with fail
  refine wp_loop_rounds 1 ?_
  rw [rounds_succ]
  go_wp2_with fail
  refine (read_u a cap m ds _ hm cur Wl hpu).mono ?_
  rintro e w2 ⟨tb, v, al, rfl, hlen, R, hf⟩
  have Wp2 : Blk w2 w.heap.size (patCells (.slice none 0 0) 0 0 false false false) 62 := hf.blk Wp (fun h => h)
  have hf2 : Fr (fun _ => False) w w2 := Wf.trans hf
  have R2 : RowB (w.heap.size + 2) tb (fun i => hv (ds i) 4) v al w2 := R.base (Nat.le_of_eq HW.out.symm)
  have c1 : w2.cell? ⟨w.heap.size, 1, none⟩ = some (.int .i64 0) := Wp2.cell 1
  have f1 : w2.frozen? ⟨w.heap.size, 1, none⟩ = false := Wp2.free 1
  have hs2 := Wp2.lt
  clear hnx Wp Wl Wf R hf hl
  go_wp2_with fail
  refine (gen_seq w.heap.size (w.heap.size + 2) tb m (fun i => hv (ds i) 4) v al _ hds hm hlen (Wp2.set 1 _) (R2.set _ (by omega) _ _) (by omega)).mono ?_
  rintro e w4 ⟨c, rfl, hp4, own4, hc4, hf4⟩
  go_wp2_with fail
  refine (emit_any w.heap.size w.heap.size m c _ 0 0 false false false 17 0 0 (.pointer none) _ hp4 (own_base own4 (by simp; omega)) ?_ (by omega) hc4 rfl).mono ?_
  · have := hf4.size
    simp at this
    omega
  rintro e w5 ⟨gg, cap', rfl, hp5, own5, hat, hgp, hf5⟩
  go_wp2_with fail
  go_ret2
  refine ⟨_, _, rfl, hp5, own5, Nat.le_refl _, fun e => hgp (Option.some.inj e), ?_⟩
  refine ((hf2.setNew _ _ _ (Nat.le_refl _)).then hf4 (fun k hk e => by omega)).then hf5 (fun k hk e => ?_)
  rcases e with e | e
  · omega
  · have := (own4.lt k e).1
    simp at this
    omega

theorem told_nil (w : World) : Calls Tryz.prog 29 #[.nilIface] w fun e w' => e = .returned (.tuple #[.int .i64 0, .int .i64 (-1)]) ∧ Fr (fun _ => False) w w' := by
  go_enter Tryz.func29, Tryz.ntmps29
  go_wp2_with fail
  go_ret2
  exact ⟨rfl, ((Fr.refl _ w).alloc _).alloc _⟩

theorem number_nil (w : World) : Calls Tryz.prog 19 #[.nilIface] w fun e w' => e = .returned (.int .i64 0) ∧ Fr (fun _ => False) w w' := by
  go_enter Tryz.func19, Tryz.ntmps19
  go_wp2_with (go_at_call 29; refine (told_nil _).mono ?_; rintro e w' ⟨rfl, hf⟩)
  go_ret
  exact ⟨rfl, hf⟩

end Go.Proofs.YtkdnpaohlepjbaaGreatDoor
