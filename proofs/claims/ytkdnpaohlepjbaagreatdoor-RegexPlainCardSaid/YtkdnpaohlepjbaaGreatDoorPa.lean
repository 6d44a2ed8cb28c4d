/-
  The law's helpers pick and hex return what is said here. Conditions: pick's second argument lies between 1 and 3000; hex's argument is a unit.
-/
import Derived.Test.YtkdnpaohlepjbaaGreatDoorProg
import Derived.WalkKit
import Derived.WalkSpells
import Derived.WalkLawsBesides
import Derived.Handy
import Derived.PlainAid
import Derived.Deep.QuietTactic
import Derived.BigQuiet
namespace Go.Proofs.YtkdnpaohlepjbaaGreatDoor
open Go.RowKit

/-- What pick gives. -/
def pk (c n : Int) : Int := if c < 0 then (-(c + 1)).tmod n else c.tmod n

theorem pk_bd (c n : Int) (hn : 1 ≤ n) : 0 ≤ pk c n ∧ pk c n < n := by
  unfold pk
  split
  · exact ⟨Int.tmod_nonneg _ (by omega), Int.tmod_lt_of_pos _ (by omega)⟩
  · exact ⟨Int.tmod_nonneg _ (by omega), Int.tmod_lt_of_pos _ (by omega)⟩

/-- pick. -/
theorem pick_any (c n : Int) (w : World) (hc1 : -9223372036854775808 ≤ c) (hc2 : c ≤ 9223372036854775807) (hn : 1 ≤ n) (hn2 : n ≤ 3000) :
    Calls Tryz.prog 13 #[.int .i64 c, .int .i64 n] w fun e w' => e = .returned (.int .i64 (pk c n)) ∧ w = w' := by
  by_cases h : c < 0
  · go_enter Tryz.func13, Tryz.ntmps13
    go_wp2
    go_ret
    exact ⟨by simp [pk, h], rfl⟩
  · go_enter Tryz.func13, Tryz.ntmps13
    go_wp2
    go_ret
    refine ⟨?_, rfl⟩
    have h0 : 0 ≤ c := by omega
    simp [pk, Int.not_lt.2 h0, Int.tmod_eq_emod_of_nonneg h0]

/-- The sign of a digit to the base 16. -/
def dg (n : Nat) : UInt8 := if n < 10 then UInt8.ofNat (48 + n) else UInt8.ofNat (87 + n)

theorem digs_at : ∀ a : Nat, a < 16 → ({ data := #[48, 49, 50, 51, 52, 53, 54, 55, 56, 57, 97, 98, 99, 100, 101, 102] } : ByteArray).extract a (a + 1) = ⟨#[dg a]⟩ := by decide

theorem u16_in (x : Int) (h0 : 0 ≤ x) (h1 : x ≤ 65535) : IntKind.u16.wrap x = x := IntWalk.u16_in _ (by omega)

set_option maxHeartbeats 400000 in
theorem hex_any (u : Int) (a b c d : Nat) (w : World) (ha : a < 16) (hb : b < 16) (hc : c < 16) (hd : d < 16) (hu : u = 4096 * a + 256 * b + 16 * c + d) :
    Calls Tryz.prog 12 #[.int .u16 u] w fun e w' => ∃ n, e = .returned (.string ⟨#[92, 117, dg a, dg b, dg c, dg d]⟩) ∧ w' = w.drewN n := by
  have t1 : u.tdiv 4096 = a := by rw [Int.tdiv_eq_ediv_of_nonneg (by omega)]; omega
  have t2 : u.tdiv 256 = 16 * a + b := by rw [Int.tdiv_eq_ediv_of_nonneg (by omega)]; omega
  have t3 : u.tdiv 16 = 256 * a + 16 * b + c := by rw [Int.tdiv_eq_ediv_of_nonneg (by omega)]; omega
  have e1 : IntKind.u16.wrap (u.tdiv 4096) = a := by rw [t1, u16_in _ (by omega) (by omega)]
  have e2 : IntKind.u16.wrap ((a : Int) + 1) = (a : Int) + 1 := u16_in _ (by omega) (by omega)
  have e3 : (IntKind.u16.wrap (u.tdiv 256)).tmod 16 = b := by
    have s : IntKind.u16.wrap (u.tdiv 256) = 16 * a + b := by rw [t2]; exact u16_in _ (by omega) (by omega)
    have m : (16 * (a : Int) + b) % 16 = b := by omega
    rw [s, Int.tmod_eq_emod_of_nonneg (by omega), m]
  have e4 : IntKind.u16.wrap ((b : Int) + 1) = (b : Int) + 1 := u16_in _ (by omega) (by omega)
  have e5 : (IntKind.u16.wrap (u.tdiv 16)).tmod 16 = c := by
    have s : IntKind.u16.wrap (u.tdiv 16) = 256 * a + 16 * b + c := by rw [t3]; exact u16_in _ (by omega) (by omega)
    have m : (256 * (a : Int) + 16 * b + c) % 16 = c := by omega
    rw [s, Int.tmod_eq_emod_of_nonneg (by omega), m]
  have e6 : IntKind.u16.wrap ((c : Int) + 1) = (c : Int) + 1 := u16_in _ (by omega) (by omega)
  have e7 : u.tmod 16 = d := by
    have m : u % 16 = d := by omega
    rw [Int.tmod_eq_emod_of_nonneg (by omega), m]
  have e8 : IntKind.u16.wrap ((d : Int) + 1) = (d : Int) + 1 := u16_in _ (by omega) (by omega)
  have f1 : IntKind.u16.wrap (b : Int) = b := u16_in _ (by omega) (by omega)
  have f2 : IntKind.u16.wrap (c : Int) = c := u16_in _ (by omega) (by omega)
  have f3 : IntKind.u16.wrap (d : Int) = d := u16_in _ (by omega) (by omega)
  have xa := digs_at a ha
  have xb := digs_at b hb
  have xc := digs_at c hc
  have xd := digs_at d hd
  have l1 : 0 ≤ (a : Int) + 1 ∧ (a : Int) + 1 ≤ 16 ∧ (a : Int) ≤ a + 1 := by omega
  have l2 : 0 ≤ (b : Int) + 1 ∧ (b : Int) + 1 ≤ 16 ∧ (b : Int) ≤ b + 1 := by omega
  have l3 : 0 ≤ (c : Int) + 1 ∧ (c : Int) + 1 ≤ 16 ∧ (c : Int) ≤ c + 1 := by omega
  have l4 : 0 ≤ (d : Int) + 1 ∧ (d : Int) + 1 ≤ 16 ∧ (d : Int) ≤ d + 1 := by omega
  clear hu t1 t2 t3
  go_enter Tryz.func12, Tryz.ntmps12
  go_wp2
  go_quiet (fail)
  go_wp2
  go_ret
  exact ⟨nq, rfl, rfl⟩
end Go.Proofs.YtkdnpaohlepjbaaGreatDoor
