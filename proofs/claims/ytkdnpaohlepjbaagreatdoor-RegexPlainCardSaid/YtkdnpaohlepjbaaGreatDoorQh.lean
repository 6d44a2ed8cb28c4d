/-
  The law RegexPlain returns true for every input. Conditions: none but the arguments' types.
-/
import Derived.Test.YtkdnpaohlepjbaaGreatDoorQg
namespace Go.Proofs.YtkdnpaohlepjbaaGreatDoor
open Go.RowKit

theorem SliceIn.form {w : World} {v : Value} {n : Nat} {f : Nat → Int} (V : SliceIn w v n f) :
    ∃ oa c, v = .slice oa n c ∧ n ≤ c ∧ c ≤ maxLen := by
  rcases V with ⟨rfl, rfl⟩ | ⟨a, c, rfl, h1, h2, _⟩
  · exact ⟨none, 0, rfl, Nat.le_refl _, by unfold maxLen; omega⟩
  · exact ⟨_, _, rfl, h1, h2⟩

theorem SliceIn.at_ {w : World} {oa : Option Addr} {c n : Nat} {f : Nat → Int} (V : SliceIn w (.slice oa n c) n f) (k : Nat) (hk : k < n) :
    ∃ a, oa = some a ∧ w.cell? (a.add k) = some (.int .u16 (f k)) := by
  rcases V with ⟨_, rfl⟩ | ⟨a, c, h, h1, h2, hc⟩
  · omega
  · simp at h
    exact ⟨a, h.1, hc k hk⟩

theorem nib_sum (u : Nat) : (u : Int) = 4096 * (nib u 0 : Nat) + 256 * (nib u 1 : Nat) + 16 * (nib u 2 : Nat) + (nib u 3 : Nat) := by
  simp only [nib]
  simp
  omega

theorem mat_none {n m st i : Nat} {f : Nat → Int} {g : Nat → Nat} (hno : ∀ j, st ≤ j → j < i → ¬ Mat n f g j m) (h : n < i + m) : ∀ k, st ≤ k → k ≤ n → ¬ Mat n f g k m := fun k h1 h2 hM => by
  rcases Nat.lt_or_ge k i with hk | hk
  · exact hno k h1 hk hM
  · rcases Nat.eq_zero_or_pos m with rfl | hp
    · omega
    · have := (hM (m - 1) (by omega)).1
      omega

theorem found_none {n m st b : Nat} {f : Nat → Int} {g : Nat → Nat} {w : World} {v : Value} (h : Found n m st f g b w v) (hno : ∀ k, st ≤ k → k ≤ n → ¬ Mat n f g k m) : v = .slice none 0 0 := by
  rcases h with ⟨_, h⟩ | ⟨k, cb, h1, h2, h3, _⟩
  · exact h
  · exact absurd h3 (hno k h1 h2)

theorem found_some {n m st b k : Nat} {f : Nat → Int} {g : Nat → Nat} {w : World} {v : Value} (h : Found n m st f g b w v) (h1 : st ≤ k) (h2 : k ≤ n) (hM : Mat n f g k m) (hno : ∀ j, st ≤ j → j < k → ¬ Mat n f g j m) :
    ∃ cb, v = .slice (some ⟨cb, 0, none⟩) 2 2 ∧ w.cell? ⟨cb, 0, none⟩ = some (.int .i64 k) ∧ w.cell? ⟨cb, 1, none⟩ = some (.int .i64 ((k : Int) + m)) := by
  rcases h with ⟨h, _⟩ | ⟨k', cb, a1, a2, a3, a4, _, a6, a7⟩
  · exact absurd hM (h k h1 h2)
  · have : k' = k := by
      rcases Nat.lt_trichotomy k k' with h | h | h
      · exact absurd hM (a4 k h1 h)
      · exact h.symm
      · exact absurd a3 (hno k' a1 h)
    subst this
    refine ⟨cb, a7, a6.cell 0, ?_⟩
    rw [a6.cell 1]
    simp

set_option maxRecDepth 100000 in
set_option maxHeartbeats 3200000 in
theorem law_u (vw vt : Value) (m n : Nat) (g : Nat → Nat) (f : Nat → Int) (frm : Int) (w : World) (Vw : SliceIn w vw m (fun i => g i)) (Vt : SliceIn w vt n f) (hg : ∀ i, g i ≤ 65535)
    (hf1 : -9223372036854775808 ≤ frm) (hf2' : frm ≤ 9223372036854775807) :
    Calls Tryz.prog 4 #[vw, vt, .int .i64 frm] w fun e w' => e = .returned (.bool true) ∧ Fr (fun _ => False) w w' := by
  obtain ⟨ow, cw, rfl, hmc, hcw⟩ := Vw.form
  obtain ⟨ot, ct, rfl, hnc, hct⟩ := Vt.form
  have hml : m ≤ 9223372036854775807 := by unfold maxLen at hcw; omega
  have hnl : n ≤ 9223372036854775807 := by unfold maxLen at hct; omega
  clear hcw hct
  have hnn : ∀ w, (binOp .eql 39 (.slice none 0 0) (.slice none 0 0)).run Tryz.prog w = .ok (.bool true) w := fun _ => by kernel_rfl
  have HW := Lib.hid Vw
  have HT := Lib.hid Vt
  clear Vw Vt
  by_cases hm : m ≤ 300
  · by_cases hn : n ≤ 2000
    · have hm1 : ¬ (300 < (m : Int)) := by omega
      have hn1 : ¬ (2000 < (n : Int)) := by omega
      go_enter Tryz.func4, Tryz.ntmps4
      go_wp2_with fail
      go_loopg [8, 7, 9] m (fun gk i8 s7 s9 wr => ∃ k : Nat, k + gk = m ∧ i8 = .int .i64 k ∧ s7 = .string (patOf g k) ∧ Fr (fun _ => False) w wr)
      case atStart => exact ⟨0, by omega, rfl, rfl, Fr.refl _ _⟩
      case round =>
        obtain ⟨k, hk, rfl, rfl, gf⟩ := hrel
        by_cases hg0 : gk = 0
        · obtain rfl : m = k := by omega
          go_wp2_with fail
          refine (pcompile_u (patOf g m) m (fun i => nib (g i)) wr hm (fun i => by rw [hv_nib]; exact hg i) (patOf_bytes g m hg)).mono ?_
          rintro e w2 ⟨pb, cv, rfl, hpb, hown, hpbs, hcp, hf2⟩
          have hus : (fun i => hv (nib (g i)) 4) = g := funext fun i => hv_nib (g i)
          rw [hus] at hown
          obtain ⟨gg, ccap, ccur, hggb, C2⟩ := code_at hpb hown
          have HC := Lib.hid C2
          have gf2 := gf.trans hf2
          obtain ⟨hpk0, hpk1⟩ := pk_bd frm ((n : Int) + 1) (by omega)
          generalize hst : pk frm ((n : Int) + 1) = sti at hpk0 hpk1
          have HST := Lib.hid hst
          obtain ⟨st, rfl⟩ : ∃ st : Nat, sti = st := ⟨sti.toNat, by omega⟩
          clear hst hpb hown hcp hpbs C2 hus gf hf2 hggb
          go_wp2_with (go_at_call 13; refine (pick_any frm ((n : Int) + 1) _ hf1 hf2' (by omega) (by omega)).mono ?_; rintro e w3 ⟨rfl, rfl⟩; rw [HST.out])
          have hstn : st ≤ n := by omega
          go_loopg [14, 13, 15, 16] (n + 1 - st) (fun gk i14 a13 i15 i16 wr => ∃ i : Nat, st ≤ i ∧ i + gk = n + 1 ∧ i14 = .int .i64 i ∧ Fr (fun _ => False) w2 wr ∧
            ((a13 = .int .i64 (-1) ∧ ∀ j, st ≤ j → j < i → ¬ Mat n f g j m) ∨ (∃ k : Nat, a13 = .int .i64 k ∧ st ≤ k ∧ k + m ≤ n ∧ Mat n f g k m ∧ ∀ j, st ≤ j → j < k → ¬ Mat n f g j m)))
          case atStart => exact ⟨st, by omega, by omega, rfl, Fr.refl _ _, .inl ⟨rfl, fun j h1 h2 => by omega⟩⟩
          case round =>
            obtain ⟨go, hgo⟩ : ∃ go, go = gk := ⟨_, rfl⟩
            obtain ⟨i, hi1, hi2, rfl, wf, hor⟩ := hrel
            rcases hor with ⟨rfl, hno⟩ | ⟨k, rfl, hk1, hk2, hM, hno⟩
            · have Hno := Lib.hid hno
              clear hno
              by_cases hin : i + m ≤ n
              · have hin' : (i : Int) + m ≤ n := by omega
                go_wp2_with fail
                go_loopg [16, 15] m (fun gj j16 h15 wj => ∃ (j : Nat) (hb : Bool), j + gj = m ∧ j16 = .int .i64 j ∧ h15 = .bool hb ∧ Fr (fun _ => False) w2 wj ∧
                  (hb = true → Mat n f g i j) ∧ (hb = false → ¬ Mat n f g i m))
                case atStart => exact ⟨0, true, by omega, rfl, rfl, wf, fun _ q hq => by omega, fun h => by simp at h⟩
                case round =>
                  obtain ⟨j, hb, hj, rfl, rfl, jf, hy, hz⟩ := hrel
                  have HY := Lib.hid hy
                  have HZ := Lib.hid hz
                  clear hy hz
                  by_cases hjm : j < m
                  · have hjm' : (j : Int) < m := by omega
                    cases hb with
                    | true =>
                      obtain ⟨a1, rfl, h1⟩ := (HT.out.fr (gf2.trans jf)).at_ (i + j) (by omega)
                      obtain ⟨a2, rfl, h2⟩ := (HW.out.fr (gf2.trans jf)).at_ j hjm
                      have hij : (i : Int) + j < n := by omega
                      go_wp2_with fail
                      go_quiet (fail)
                      go_wp2_with fail
                      go_roundg (gk - 1)
                      case measure => omega
                      case rel =>
                        refine ⟨j + 1, _, by omega, by go_num, rfl, jf.drewN _, fun hb q hq => ?_, fun hb hM => ?_⟩
                        · rcases Nat.lt_or_ge q j with h | h
                          · exact HY.out (by simp) q h
                          · obtain rfl : j = q := by omega
                            exact ⟨by omega, eq_of_beq hb⟩
                        · have h := (hM j hjm).2
                          rw [h] at hb
                          simp at hb
                    | false =>
                      go_wp2_with fail
                      go_roundg (go - 1)
                      case measure => omega
                      case rel =>
                        refine ⟨i + 1, by omega, by omega, by go_num, jf, .inl ⟨rfl, fun q h1 h2 => ?_⟩⟩
                        rcases Nat.lt_or_ge q i with h | h
                        · exact Hno.out q h1 h
                        · obtain rfl : i = q := by omega
                          exact HZ.out (by simp)
                  · obtain rfl : m = j := by omega
                    cases hb with
                    | true =>
                      go_wp2_with fail
                      go_roundg (go - 1)
                      case measure => omega
                      case rel =>
                        exact ⟨i + 1, by omega, by omega, by go_num, jf, .inr ⟨i, rfl, hi1, hin, HY.out (by simp), Hno.out⟩⟩
                    | false =>
                      go_wp2_with fail
                      go_roundg (go - 1)
                      case measure => omega
                      case rel =>
                        refine ⟨i + 1, by omega, by omega, by go_num, jf, .inl ⟨rfl, fun q h1 h2 => ?_⟩⟩
                        rcases Nat.lt_or_ge q i with h | h
                        · exact Hno.out q h1 h
                        · obtain rfl : i = q := by omega
                          exact HZ.out (by simp)
              · have hin' : ¬ ((i : Int) + m ≤ n) := by omega
                go_wp2_with fail
                refine (plain_find_u pb gg ccap m n st g ccur _ f _ (HC.out.fr wf (fun h => h) (fun h => h)) ((HT.out.fr gf2).fr wf) hg hm hn hstn).mono ?_
                rintro e w4 ⟨took, x, hF, rfl, hf4⟩
                obtain rfl := found_none hF (mat_none Hno.out (by omega))
                clear hF
                go_wp2_with fail
                go_ret
                exact ⟨rfl, (gf2.trans wf).trans hf4⟩
            · have Hno := Lib.hid hno
              have HM := Lib.hid hM
              clear hno hM
              have hk0 : ¬ ((k : Int) < 0) := by omega
              by_cases hin : i + m ≤ n
              · have hin' : (i : Int) + m ≤ n := by omega
                go_wp2_with fail
                refine (plain_find_u pb gg ccap m n st g ccur _ f _ (HC.out.fr wf (fun h => h) (fun h => h)) ((HT.out.fr gf2).fr wf) hg hm hn hstn).mono ?_
                rintro e w4 ⟨took, x, hF, rfl, hf4⟩
                obtain ⟨cb, rfl, c0, c1⟩ := found_some hF hk1 (by omega) HM.out Hno.out
                clear hF
                go_wp2_with fail
                go_ret
                exact ⟨rfl, (gf2.trans wf).trans hf4⟩
              · have hin' : ¬ ((i : Int) + m ≤ n) := by omega
                go_wp2_with fail
                refine (plain_find_u pb gg ccap m n st g ccur _ f _ (HC.out.fr wf (fun h => h) (fun h => h)) ((HT.out.fr gf2).fr wf) hg hm hn hstn).mono ?_
                rintro e w4 ⟨took, x, hF, rfl, hf4⟩
                obtain ⟨cb, rfl, c0, c1⟩ := found_some hF hk1 (by omega) HM.out Hno.out
                clear hF
                go_wp2_with fail
                go_ret
                exact ⟨rfl, (gf2.trans wf).trans hf4⟩
        · have hkm : (k : Int) < m := by omega
          obtain ⟨a, rfl, hak⟩ := (HW.out.fr gf).at_ k (by omega)
          have hg16 := hg k
          have n0 := nib_lt (g k) 0 hg16
          have n1 := nib_lt (g k) 1 hg16
          have n2 := nib_lt (g k) 2 hg16
          have n3 := nib_lt (g k) 3 hg16
          have hps := patOf_size g k
          go_wp2_with (go_at_call 12; refine (hex_any (g k) _ _ _ _ _ n0 n1 n2 n3 (nib_sum (g k))).mono ?_; rintro e w2 ⟨q, rfl, rfl⟩)
          go_roundg (gk - 1)
          case measure => omega
          case rel => exact ⟨k + 1, by omega, by go_num, rfl, gf.drewN _⟩
    · have hm1 : ¬ (300 < (m : Int)) := by omega
      have hn1 : (2000 < (n : Int)) := by omega
      go_enter Tryz.func4, Tryz.ntmps4
      go_wp2_with fail
      go_ret
      exact ⟨rfl, Fr.refl _ _⟩
  · have hm1 : (300 < (m : Int)) := by omega
    go_enter Tryz.func4, Tryz.ntmps4
    go_wp2_with fail
    go_ret
    exact ⟨rfl, Fr.refl _ _⟩

end Go.Proofs.YtkdnpaohlepjbaaGreatDoor
