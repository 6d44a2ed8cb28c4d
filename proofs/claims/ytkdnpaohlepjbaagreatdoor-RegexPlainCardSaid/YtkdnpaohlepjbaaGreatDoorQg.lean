/-
  The text that the law builds holds the units' escapes, and the code holds the units. Conditions: each unit is at most 65535.
-/
import Derived.Test.YtkdnpaohlepjbaaGreatDoorQf
import Derived.Test.YtkdnpaohlepjbaaGreatDoorPa
namespace Go.Proofs.YtkdnpaohlepjbaaGreatDoor
open Go.RowKit

/-- A unit's four digits. -/
def nib (u : Nat) (j : Nat) : Nat := if j = 0 then u / 4096 else if j = 1 then u / 256 % 16 else if j = 2 then u / 16 % 16 else u % 16

theorem nib_lt (u j : Nat) (h : u ≤ 65535) : nib u j < 16 := by
  unfold nib
  split
  · omega
  · split
    · omega
    · split <;> omega

theorem hv_nib (u : Nat) : hv (nib u) 4 = u := by
  simp only [hv, nib]
  simp
  omega

/-- One unit's escape. -/
def escOf (u : Nat) : ByteArray := ⟨#[92, 117, dg (nib u 0), dg (nib u 1), dg (nib u 2), dg (nib u 3)]⟩

/-- The pattern of the first k units. -/
def patOf (g : Nat → Nat) : Nat → ByteArray
  | 0 => ⟨#[]⟩
  | k + 1 => patOf g k ++ escOf (g k)

theorem patOf_size (g : Nat → Nat) : ∀ k, (patOf g k).size = 6 * k
  | 0 => rfl
  | k + 1 => by
    rw [patOf, ByteArray.size_append, patOf_size g k]
    have : (escOf (g k)).size = 6 := rfl
    omega

theorem bt_app_left (s t : ByteArray) (k : Nat) (h : k < s.size) : PlainAid.bt (s ++ t) k = PlainAid.bt s k := by
  have h2 : k < (s ++ t).size := by rw [ByteArray.size_append]; omega
  rw [← PlainAid.get_bt _ k h2, ← PlainAid.get_bt _ k h, ByteArray.getElem_append_left h]

theorem bt_app_right (s t : ByteArray) (k : Nat) (h : k < t.size) : PlainAid.bt (s ++ t) (s.size + k) = PlainAid.bt t k := by
  have h2 : s.size + k < (s ++ t).size := by rw [ByteArray.size_append]; omega
  rw [← PlainAid.get_bt _ _ h2, ← PlainAid.get_bt _ k h, ByteArray.getElem_append_right (by omega)]
  simp

theorem dg_hx : ∀ n : Nat, n < 16 → ((dg n).toNat : Int) = hx n := by decide

theorem patOf_at (g : Nat → Nat) : ∀ k i, i < k → ∀ j, j < 6 → PlainAid.bt (patOf g k) (6 * i + j) = PlainAid.bt (escOf (g i)) j
  | k + 1, i, hi, j, hj => by
    rw [patOf]
    rcases Nat.lt_or_ge i k with h | h
    · rw [bt_app_left _ _ _ (by rw [patOf_size]; omega)]
      exact patOf_at g k i h j hj
    · obtain rfl : i = k := by omega
      have := bt_app_right (patOf g i) (escOf (g i)) j hj
      rwa [patOf_size] at this

theorem patOf_bytes (g : Nat → Nat) (m : Nat) (hg : ∀ i, g i ≤ 65535) : PatBytes (patOf g m) m (fun i => nib (g i)) := by
  refine ⟨patOf_size g m, fun i _ j _ => nib_lt _ _ (hg i), fun i hi => ?_, fun i hi => ?_, fun i hi j hj => ?_⟩
  · exact patOf_at g m i hi 0 (by omega)
  · exact patOf_at g m i hi 1 (by omega)
  · have h := patOf_at g m i hi (2 + j) (by omega)
    rw [show 6 * i + 1 + 1 + j = 6 * i + (2 + j) by omega, h, ← dg_hx _ (nib_lt _ _ (hg i))]
    match j, hj with
    | 0, _ => rfl
    | 1, _ => rfl
    | 2, _ => rfl
    | 3, _ => rfl

theorem codeL_len (us : Nat → Nat) : ∀ m, (codeL us m).length = 4 * m
  | 0 => rfl
  | m + 1 => by rw [codeL, List.length_append, codeL_len us m]; rfl

theorem codeL_at (us : Nat → Nat) : ∀ m j, j < m → ∀ r, r < 4 → (codeL us m)[j * 4 + r]? = (charIns (us j))[r]?
  | m + 1, j, hj, r, hr => by
    rw [codeL]
    rcases Nat.lt_or_ge j m with h | h
    · rw [List.getElem?_append_left (by rw [codeL_len]; omega)]
      exact codeL_at us m j h r hr
    · obtain rfl : j = m := by omega
      rw [List.getElem?_append_right (by rw [codeL_len]; omega), codeL_len, show j * 4 + r - 4 * j = r by omega]

/-- The code that Compile lays. -/
theorem code_at {w : World} {b pb m : Nat} {c : Value} {us : Nat → Nat} (hp : Blk w pb (patCells c 0 0 false false false) 62) (ho : w.ownsRow b 95 4 c (m + 1) (codeL us m ++ doneIns)) :
    ∃ gg ccap ccur, b ≤ gg ∧ CodeAt w pb gg ccap m us ccur := by
  rcases ho.2 with ⟨_, h⟩ | ⟨g, cap, cur, rfl, hb, hg, h1, h2, h3, h4⟩
  · omega
  · have key : ∀ i, i < (m + 1) * 4 → cur[i]? = (codeL us m ++ doneIns)[i]? := fun i hi => by
      rw [← h4, List.getElem?_take_of_lt hi]
      simp
    have kl : ∀ j, j < m → ∀ r, r < 4 → cur[j * 4 + r]? = (charIns (us j))[r]? := fun j hj r hr => by
      rw [key _ (by omega), List.getElem?_append_left (by rw [codeL_len]; omega)]
      exact codeL_at us m j hj r hr
    have kd : ∀ r, r < 4 → cur[m * 4 + r]? = doneIns[r]? := fun r hr => by
      rw [key _ (by omega), List.getElem?_append_right (by rw [codeL_len]; omega), codeL_len, show m * 4 + r - 4 * m = r by omega]
    exact ⟨g, cap, cur, hb, hp, hg, h1, h2, fun j hj => kl j hj 0 (by omega), fun j hj => kl j hj 1 (by omega), fun j hj => kl j hj 2 (by omega), fun j hj => kl j hj 3 (by omega), kd 0 (by omega), kd 1 (by omega), kd 2 (by omega), kd 3 (by omega)⟩

end Go.Proofs.YtkdnpaohlepjbaaGreatDoor
