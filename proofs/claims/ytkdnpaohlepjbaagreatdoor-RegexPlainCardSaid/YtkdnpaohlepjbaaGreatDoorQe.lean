/-
  Pattern.Find finds the first place where the units stand, or none. Conditions: as the search's.
-/
import Derived.Test.YtkdnpaohlepjbaaGreatDoorQd
namespace Go.Proofs.YtkdnpaohlepjbaaGreatDoor
open Go.RowKit

/-- What a search comes to: the first place, or none. -/
def Found (n m st : Nat) (f : Nat → Int) (us : Nat → Nat) (b : Nat) (w : World) (v : Value) : Prop :=
  ((∀ k, st ≤ k → k ≤ n → ¬ Mat n f us k m) ∧ v = .slice none 0 0) ∨
  (∃ k cb, st ≤ k ∧ k ≤ n ∧ Mat n f us k m ∧ (∀ i, st ≤ i → i < k → ¬ Mat n f us i m) ∧ b ≤ cb ∧ Blk w cb #[.int .i64 k, .int .i64 (k + m : Nat)] 3 ∧ v = .slice (some ⟨cb, 0, none⟩) 2 2)

theorem Found.fr {n m st b : Nat} {f : Nat → Int} {us : Nat → Nat} {w w' : World} {v : Value} {S : Nat → Prop} (h : Found n m st f us b w v) (hf : Fr S w w') (hs : ∀ k, b ≤ k → ¬ S k) : Found n m st f us b w' v := by
  rcases h with h | ⟨k, cb, h1, h2, h3, h4, h5, h6, h7⟩
  · exact .inl h
  · exact .inr ⟨k, cb, h1, h2, h3, h4, h5, hf.blk h6 (hs _ h5), h7⟩
theorem Found.base {n m st b b' : Nat} {f : Nat → Int} {us : Nat → Nat} {w : World} {v : Value} (h : Found n m st f us b w v) (hb : b' ≤ b) : Found n m st f us b' w v := by
  rcases h with h | ⟨k, cb, h1, h2, h3, h4, h5, h6, h7⟩
  · exact .inl h
  · exact .inr ⟨k, cb, h1, h2, h3, h4, by omega, h6, h7⟩

set_option maxRecDepth 100000 in
theorem find_u (pb gg ccap m n cap st : Nat) (us : Nat → Nat) (ccur : Array Value) (a : Option Addr) (f : Nat → Int) (w : World)
    (C : CodeAt w pb gg ccap m us ccur) (T : TextAt w a n f w.heap.size) (hus : ∀ i, us i ≤ 65535) (hm : m ≤ 300) (hn : n ≤ 2000) (hst : st ≤ n) :
    Calls Tryz.prog 23 #[.pointer (some ⟨pb, 0, none⟩), .slice a n cap, .int .i64 st, .int .i64 1073741824] w fun e w' => ∃ (took : Int) (v : Value),
      Found n m st f us w.heap.size w' v ∧ e = .returned (.tuple #[v, .int .i64 took, .nilIface]) ∧ Fr (fun _ => False) w w' := by
  have h0 : ¬ ((st : Int) < 0) := by omega
  go_enter Tryz.func23, Tryz.ntmps23
  go_wp2_with fail
  refine (search_u pb gg ccap m n cap st us ccur a f w C T hus hm hn hst).mono ?_
  rintro e w' ⟨took, hor, hf⟩
  have hh : ∃ v, e = .returned (.tuple #[v, .int .i64 took, .nilIface]) ∧ Found n m st f us w.heap.size w' v := by
    rcases hor with ⟨h1, h2⟩ | ⟨k, cb, h1, h2, h3, h4, h5, h6, h7⟩
    · exact ⟨_, h2, .inl ⟨h1, rfl⟩⟩
    · exact ⟨_, h7, .inr ⟨k, cb, h1, h2, h3, h4, h5, h6, rfl⟩⟩
  obtain ⟨v, rfl, hF⟩ := hh
  go_wp2_with fail
  go_ret3
  exact ⟨took, v, hF, rfl, hf⟩

end Go.Proofs.YtkdnpaohlepjbaaGreatDoor
