/-
  The reader takes a run of hexadecimal digits for their value. Conditions: the digits stand in the text.
-/
import Derived.Test.YtkdnpaohlepjbaaGreatDoorPb
namespace Go.Proofs.YtkdnpaohlepjbaaGreatDoor
open Go.RowKit

/-- A digit's unit, to the base 16. -/
def hx (n : Nat) : Int := if n < 10 then (n : Int) + 48 else (n : Int) + 87
/-- The first i digits as a number. -/
def hv (ds : Nat → Nat) : Nat → Nat
  | 0 => 0
  | i + 1 => hv ds i * 16 + ds i

theorem hv_le (ds : Nat → Nat) (h : ∀ i, i < 4 → ds i < 16) : hv ds 1 ≤ 15 ∧ hv ds 2 ≤ 255 ∧ hv ds 3 ≤ 4095 ∧ hv ds 4 ≤ 65535 := by
  have h0 := h 0 (by omega)
  have h1 := h 1 (by omega)
  have h2 := h 2 (by omega)
  have h3 := h 3 (by omega)
  simp only [hv]
  omega
theorem hv_bd (ds : Nat → Nat) (h : ∀ i, i < 4 → ds i < 16) (i : Nat) (hi : i ≤ 4) : hv ds i ≤ 65535 := by
  have := hv_le ds h
  match i, hi with
  | 0, _ => simp [hv]
  | 1, _ => omega
  | 2, _ => omega
  | 3, _ => omega
  | 4, _ => omega

set_option maxHeartbeats 1000000 in
theorem hexes_any (r lb n cap k : Nat) (g b p d : Int) (ds : Nat → Nat) (w : World) (hk : k + 4 ≤ n) (hn : n ≤ 5000) (hne : lb ≠ r)
    (hds : ∀ i, i < 4 → ds i < 16) (cur : Array Value) (hl : Blk w lb cur 37)
    (hr : Blk w r (rdCells (some ⟨lb, 0, none⟩) n cap k g b p d) 125) (hc : ∀ i, i < 4 → cur[k + i]? = some (.int .u16 (hx (ds i)))) :
    Calls Tryz.prog 136 #[.pointer (some ⟨r, 0, none⟩), .int .i64 4] w fun e w' => e = .returned (.int .u16 (hv ds 4 : Nat)) ∧ Blk w' r (rdCells (some ⟨lb, 0, none⟩) n cap (k + 4) g b p d) 125 ∧ Fr (· = r) w w' := by
  have hvb := hv_bd ds hds
  go_enter Tryz.func136, Tryz.ntmps136
  go_wp2
  go_loopw [5, 9] (fun x i wr => ∃ j : Nat, j ≤ 4 ∧ x = .int .i64 (hv ds j : Nat) ∧ i = .int .i64 j ∧ Blk wr r (rdCells (some ⟨lb, 0, none⟩) n cap (k + j) g b p d) 125 ∧ Fr (· = r) w wr) (fun _ i _ => 4 - (intOf i).toNat)
  case atStart => exact ⟨0, by omega, rfl, rfl, hr, Fr.refl _ _⟩
  case round =>
    obtain ⟨j, hj, rfl, rfl, hrj, hf⟩ := hrel
    by_cases hlt : j < 4
    · have hdj := hds j hlt
      have hlj : Blk wr lb cur 37 := hf.blk hl hne
      have hcj : wr.cell? ⟨lb, k + j, none⟩ = some (.int .u16 (hx (ds j))) := (hlj.cell _).trans (hc j hlt)
      have hb1 := hvb j hj
      have hb2 := hvb (j + 1) (by omega)
      simp only [hv] at hb2
      clear hvb hc hds
      generalize hX : hv ds j = X at *
      have HX := Lib.hid hX
      clear hX
      by_cases h10 : ds j < 10
      · have e : hx (ds j) = (ds j : Int) + 48 := if_pos h10
        rw [e] at hcj
        clear e
        generalize hD : ds j = D at *
        have HD := Lib.hid hD
        clear hD
        have w1 : IntKind.u16.wrap (D : Int) = D := IntWalk.u16_in _ (by omega)
        go_wp2_with (go_at_call 122; refine (next_any r lb n cap (k + j) g b p d _ _ (by omega) hn hne hrj hcj).mono ?_; rintro e w' ⟨rfl, hr', hf'⟩)
        refine ⟨⟨j + 1, by omega, ?_, by go_num, hr', hf.trans hf'⟩, by simp [intOf]; omega⟩
        simp only [hv, HX.out, HD.out]; rfl
      · obtain ⟨D, hD⟩ : ∃ D : Nat, ds j = D + 10 := ⟨ds j - 10, by omega⟩
        have e : hx (ds j) = (D : Int) + 97 := by unfold hx; rw [if_neg h10, hD]; omega
        rw [e] at hcj
        rw [hD] at hb2 hdj
        have HD := Lib.hid hD
        clear e hD h10
        have w1 : IntKind.u16.wrap (D : Int) = D := IntWalk.u16_in _ (by omega)
        go_wp2_with (go_at_call 122; refine (next_any r lb n cap (k + j) g b p d _ _ (by omega) hn hne hrj hcj).mono ?_; rintro e w' ⟨rfl, hr', hf'⟩)
        refine ⟨⟨j + 1, by omega, ?_, by go_num, hr', hf.trans hf'⟩, by simp [intOf]; omega⟩
        simp only [hv, HX.out, HD.out]
        have e2 : ((X * 16 + (D + 10) : Nat) : Int) = (X : Int) * 16 + ((D : Int) + 10) := by omega
        rw [e2]
    · have hj4 : j = 4 := by omega
      subst hj4
      have hw := hvb 4 (by omega)
      have e4 : IntKind.u16.wrap ((hv ds 4 : Nat) : Int) = (hv ds 4 : Nat) := IntWalk.u16_in _ (by omega)
      go_wp2
      go_ret
      exact ⟨rfl, hrj, hf⟩

end Go.Proofs.YtkdnpaohlepjbaaGreatDoor
