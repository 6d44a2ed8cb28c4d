/-
  The pattern reader's small steps (more, is, eat, next) return what is said here. Conditions: the reader's cells are as given.
-/
import Derived.Test.YtkdnpaohlepjbaaGreatDoorProg
import Derived.Test.YtkdnpaohlepjbaaGreatDoorMem
import Derived.WalkKit
import Derived.WalkSpells
import Derived.WalkLawsBesides
import Derived.Handy
import Derived.PlainAid
import Derived.Deep.QuietTactic
import Derived.BigQuiet
import Derived.Deep.DeepFit
import Derived.Lib.Hide
namespace Go.Proofs.YtkdnpaohlepjbaaGreatDoor
open Go.RowKit

/-- A reader's cells: its list at block lb, n long, and its numbers. -/
def rdCells (a : Option Addr) (n cap k : Nat) (g b p d : Int) : Array Value :=
  #[.slice a n cap, .int .i64 k, .int .i64 g, .int .i64 b, .int .i64 p, .int .i64 d]

theorem more_any (r : Nat) (a : Option Addr) (n cap k : Nat) (w : World) 
    (h0 : w.cell? ⟨r, 0, none⟩ = some (.slice a n cap)) (h1 : w.cell? ⟨r, 1, none⟩ = some (.int .i64 k)) :
    Calls Tryz.prog 60 #[.pointer (some ⟨r, 0, none⟩)] w fun e w' => e = .returned (.bool (decide (k < n))) ∧ ∃ q, w' = w.drewN q := by
  go_enter Tryz.func60, Tryz.ntmps60
  go_wp2
  go_quiet (fail)
  go_wp2
  go_ret
  exact ⟨by simp, nq, rfl⟩



theorem more_yes (r : Nat) (a : Option Addr) (n cap k : Nat) (w : World) (hk : k < n)
    (h0 : w.cell? ⟨r, 0, none⟩ = some (.slice a n cap)) (h1 : w.cell? ⟨r, 1, none⟩ = some (.int .i64 k)) :
    Calls Tryz.prog 60 #[.pointer (some ⟨r, 0, none⟩)] w fun e w' => e = .returned (.bool true) ∧ ∃ q, w' = w.drewN q :=
  (more_any r a n cap k w h0 h1).mono fun _ _ ⟨he, hq⟩ => ⟨by rw [he, decide_eq_true hk], hq⟩

theorem more_no (r : Nat) (a : Option Addr) (n cap : Nat) (w : World)
    (h0 : w.cell? ⟨r, 0, none⟩ = some (.slice a n cap)) (h1 : w.cell? ⟨r, 1, none⟩ = some (.int .i64 n)) :
    Calls Tryz.prog 60 #[.pointer (some ⟨r, 0, none⟩)] w fun e w' => e = .returned (.bool false) ∧ ∃ q, w' = w.drewN q :=
  (more_any r a n cap n w h0 h1).mono fun _ _ ⟨he, hq⟩ => ⟨by rw [he, decide_eq_false (Nat.lt_irrefl n)], hq⟩

/-- is: no, at the end. -/
theorem is_end (r : Nat) (a : Option Addr) (n cap : Nat) (u : Int) (w : World)
    (h0 : w.cell? ⟨r, 0, none⟩ = some (.slice a n cap)) (h1 : w.cell? ⟨r, 1, none⟩ = some (.int .i64 n)) :
    Calls Tryz.prog 87 #[.pointer (some ⟨r, 0, none⟩), .int .i32 u] w fun e w' => e = .returned (.bool false) ∧ ∃ q, w' = w.drewN q := by
  go_enter Tryz.func87, Tryz.ntmps87
  go_wp2
  go_quiet ((go_at_call 60; exact Calls.quiet_of (more_no r _ n cap _ h0 h1)))
  go_wp2
  go_ret
  exact ⟨by simp, nq, rfl⟩

/-- is: no, at another unit. -/
theorem is_no (r lb n cap k : Nat) (c u : Int) (w : World) (hk : k < n)
    (h0 : w.cell? ⟨r, 0, none⟩ = some (.slice (some ⟨lb, 0, none⟩) n cap)) (h1 : w.cell? ⟨r, 1, none⟩ = some (.int .i64 k))
    (hc : w.cell? ⟨lb, k, none⟩ = some (.int .u16 c)) (hu : 0 ≤ u) (hu2 : u ≤ 127) (hne : (c == u) = false) :
    Calls Tryz.prog 87 #[.pointer (some ⟨r, 0, none⟩), .int .i32 u] w fun e w' => e = .returned (.bool false) ∧ ∃ q, w' = w.drewN q := by
  have hw : IntKind.u16.wrap u = u := IntWalk.u16_in _ (by omega)
  go_enter Tryz.func87, Tryz.ntmps87
  go_wp2
  go_quiet ((go_at_call 60; exact Calls.quiet_of (more_yes r _ n cap k _ hk h0 h1)))
  go_wp2
  go_ret
  exact ⟨rfl, nq, rfl⟩

/-- eat: no. -/
theorem eat_end (r : Nat) (a : Option Addr) (n cap : Nat) (u : Int) (w : World)
    (h0 : w.cell? ⟨r, 0, none⟩ = some (.slice a n cap)) (h1 : w.cell? ⟨r, 1, none⟩ = some (.int .i64 n)) :
    Calls Tryz.prog 88 #[.pointer (some ⟨r, 0, none⟩), .int .i32 u] w fun e w' => e = .returned (.bool false) ∧ ∃ q, w' = w.drewN q := by
  go_enter Tryz.func88, Tryz.ntmps88
  go_wp2_with (go_at_call 87; refine (is_end r _ n cap _ _ h0 h1).mono ?_; rintro e w' ⟨rfl, q, rfl⟩)
  go_ret
  exact ⟨rfl, _, rfl⟩

theorem eat_no (r lb n cap k : Nat) (c u : Int) (w : World) (hk : k < n)
    (h0 : w.cell? ⟨r, 0, none⟩ = some (.slice (some ⟨lb, 0, none⟩) n cap)) (h1 : w.cell? ⟨r, 1, none⟩ = some (.int .i64 k))
    (hc : w.cell? ⟨lb, k, none⟩ = some (.int .u16 c)) (hu : 0 ≤ u) (hu2 : u ≤ 127) (hne : (c == u) = false) :
    Calls Tryz.prog 88 #[.pointer (some ⟨r, 0, none⟩), .int .i32 u] w fun e w' => e = .returned (.bool false) ∧ ∃ q, w' = w.drewN q := by
  go_enter Tryz.func88, Tryz.ntmps88
  go_wp2_with (go_at_call 87; refine (is_no r lb n cap k c _ _ hk h0 h1 hc hu hu2 hne).mono ?_; rintro e w' ⟨rfl, q, rfl⟩)
  go_ret
  exact ⟨rfl, _, rfl⟩

/-- next. -/
theorem next_any (r lb n cap k : Nat) (g b p d c : Int) (w : World) (hk : k < n) (hn : n ≤ 5000) (hne : lb ≠ r)
    (hr : Blk w r (rdCells (some ⟨lb, 0, none⟩) n cap k g b p d) 125) (hc : w.cell? ⟨lb, k, none⟩ = some (.int .u16 c)) :
    Calls Tryz.prog 122 #[.pointer (some ⟨r, 0, none⟩)] w fun e w' => e = .returned (.int .u16 c) ∧ Blk w' r (rdCells (some ⟨lb, 0, none⟩) n cap (k + 1) g b p d) 125 ∧ Fr (· = r) w w' := by
  have h0 : w.cell? ⟨r, 0, none⟩ = some (.slice (some ⟨lb, 0, none⟩) n cap) := hr.cell 0
  have h1 : w.cell? ⟨r, 1, none⟩ = some (.int .i64 k) := hr.cell 1
  have f1 : w.frozen? ⟨r, 1, none⟩ = false := hr.free 1
  go_enter Tryz.func122, Tryz.ntmps122
  go_wp2_with (go_at_call 60; refine (more_yes r _ n cap k _ hk h0 h1).mono ?_; rintro e w' ⟨rfl, q, rfl⟩)
  go_quiet (fail)
  go_wp2
  go_ret
  exact ⟨rfl, ((hr.drewN _).set 1 _).drewN _, (((Fr.refl (· = r) w).drewN _).setCell _ (fun _ => rfl) _).drewN _⟩

end Go.Proofs.YtkdnpaohlepjbaaGreatDoor
