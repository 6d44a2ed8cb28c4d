/-
  Compile, asked by its text, gives a pattern whose code matches just the units. Conditions: at most 300 escapes, no flags.
-/
import Derived.Test.YtkdnpaohlepjbaaGreatDoorPk
namespace Go.Proofs.YtkdnpaohlepjbaaGreatDoor
open Go.RowKit

/-- The pattern's bytes: six a unit of the text. -/
structure PatBytes (s : ByteArray) (m : Nat) (ds : Nat → Nat → Nat) : Prop where
  size : s.size = 6 * m
  dig : ∀ i, i < m → ∀ j, j < 4 → ds i j < 16
  bs : ∀ i, i < m → PlainAid.bt s (6 * i) = 92
  uu : ∀ i, i < m → PlainAid.bt s (6 * i + 1) = 117
  hx : ∀ i, i < m → ∀ j, j < 4 → PlainAid.bt s (6 * i + 1 + 1 + j) = hx (ds i j)

theorem hx_lt (n : Nat) (h : n < 16) : hx n < 128 := by unfold hx; split <;> omega

theorem PatBytes.ascii {s : ByteArray} {m : Nat} {ds : Nat → Nat → Nat} (h : PatBytes s m ds) (k : Nat) : PlainAid.bt s k < 128 := by
  rcases Nat.lt_or_ge k s.size with hk | hk
  · have hs := h.size
    obtain ⟨i, r, hr, rfl⟩ : ∃ i r, r < 6 ∧ k = 6 * i + r := ⟨k / 6, k % 6, Nat.mod_lt _ (by omega), by omega⟩
    have hi : i < m := by omega
    match r, hr with
    | 0, _ => rw [Nat.add_zero, h.bs i hi]; omega
    | 1, _ => rw [h.uu i hi]; omega
    | j + 2, hr =>
      rw [show 6 * i + (j + 2) = 6 * i + 1 + 1 + j by omega, h.hx i hi j (by omega)]
      exact hx_lt _ (h.dig i hi j (by omega))
  · rw [PlainAid.bt_end s hk]; omega

theorem unitsL_len (f : Nat → Int) : ∀ n, (unitsL f n).length = n
  | 0 => rfl
  | n + 1 => by simp [unitsL, unitsL_len f n]
theorem unitsL_get (f : Nat → Int) : ∀ n k, k < n → (unitsL f n)[k]? = some (.int .u16 (f k))
  | n + 1, k, h => by
    rw [unitsL]
    rcases Nat.lt_or_ge k n with hk | hk
    · rw [List.getElem?_append_left (by rw [unitsL_len]; exact hk), unitsL_get f n k hk]
    · obtain rfl : k = n := by omega
      rw [List.getElem?_append_right (by rw [unitsL_len]; exact Nat.le_refl _), unitsL_len]
      simp

set_option maxRecDepth 100000 in
set_option maxHeartbeats 1600000 in
theorem rcompile_u (s : ByteArray) (m : Nat) (ds : Nat → Nat → Nat) (w : World) (hm : m ≤ 300) (hds : ∀ i, hv (ds i) 4 ≤ 65535) (hpb : PatBytes s m ds) :
    Calls Tryz.prog 18 #[.string s, .string ⟨#[]⟩] w fun e w' => ∃ pb c, e = .returned (.tuple #[.pointer (some ⟨pb, 0, none⟩), .nilIface]) ∧
      Blk w' pb (patCells c 0 0 false false false) 62 ∧ w'.ownsRow w.heap.size 95 4 c (m + 1) (codeL (fun i => hv (ds i) 4) m ++ doneIns) ∧
      w.heap.size ≤ pb ∧ c.ownBlock ≠ some pb ∧ Fr (fun _ => False) w w' := by
  have hsz := hpb.size
  have H := Lib.hid (units_ascii s w (by omega) hpb.ascii)
  have Hs := Lib.hid hsz
  clear hsz
  go_enter Tryz.func18, Tryz.ntmps18
  go_wp2_with fail
  refine H.out.mono ?_
  rintro e w1 ⟨v, rfl, own, hf⟩
  have key : ∃ (a : Option Addr) (cap : Nat) (cur : Array Value), v = .slice a (6 * m) cap ∧ (0 < m → ∃ lb, a = some ⟨lb, 0, none⟩ ∧ Blk w1 lb cur 37) ∧ PatUnits cur m ds := by
    rw [Hs.out] at own
    by_cases h0 : m = 0
    · subst h0
      rcases own.2 with h | ⟨g, cap, cur, h, _⟩
      · exact ⟨none, 0, #[], h.1, fun h => by omega, ⟨fun i h => by omega, fun i h => by omega, fun i h => by omega, fun i h => by omega⟩⟩
      · exact ⟨_, cap, #[], h, fun h => by omega, ⟨fun i h => by omega, fun i h => by omega, fun i h => by omega, fun i h => by omega⟩⟩
    · obtain ⟨g, cap, cur, h, _, hg, _, _, hcur⟩ := own_blk own (by omega)
      refine ⟨_, cap, cur, h, fun _ => ⟨g, rfl, hg⟩, hpb.dig, fun i hi => ?_, fun i hi => ?_, fun i hi j hj => ?_⟩
      · rw [hcur _ (by omega), unitsL_get _ _ _ (by omega), hpb.bs i hi]
      · rw [hcur _ (by omega), unitsL_get _ _ _ (by omega), hpb.uu i hi]
      · rw [hcur _ (by omega), unitsL_get _ _ _ (by omega), hpb.hx i hi j hj]
  obtain ⟨a, cap, cur, rfl, hl, hpu⟩ := key
  go_wp2_with fail
  refine (compile_u a cap m ds w1 hm hds cur hl hpu).mono ?_
  rintro e w2 ⟨pb, c, rfl, hp, ownc, hpz, hcp, hf2⟩
  have hs1 := hf.size
  go_wp2_with fail
  go_ret2
  exact ⟨pb, c, rfl, hp, own_base ownc hs1, by omega, hcp, hf.trans hf2⟩

set_option maxRecDepth 100000 in
set_option maxHeartbeats 1600000 in
theorem pcompile_u (s : ByteArray) (m : Nat) (ds : Nat → Nat → Nat) (w : World) (hm : m ≤ 300) (hds : ∀ i, hv (ds i) 4 ≤ 65535) (hpb : PatBytes s m ds) :
    Calls Tryz.prog 8 #[.string s, .string ⟨#[]⟩] w fun e w' => ∃ pb c, e = .returned (.tuple #[.pointer (some ⟨pb, 0, none⟩), .int .i64 0]) ∧
      Blk w' pb (patCells c 0 0 false false false) 62 ∧ w'.ownsRow w.heap.size 95 4 c (m + 1) (codeL (fun i => hv (ds i) 4) m ++ doneIns) ∧
      w.heap.size ≤ pb ∧ c.ownBlock ≠ some pb ∧ Fr (fun _ => False) w w' := by
  go_enter Tryz.func8, Tryz.ntmps8
  go_wp2_with fail
  refine (rcompile_u s m ds w hm hds hpb).mono ?_
  rintro e w2 ⟨pb, c, rfl, hp, ownc, hpz, hcp, hf⟩
  go_wp2_with (go_at_call 19; refine (number_nil _).mono ?_; rintro e w' ⟨rfl, hf2⟩)
  go_ret2
  exact ⟨pb, c, rfl, hf2.blk hp (fun h => h), own_fr ownc hf2 (fun _ _ h => h), hpz, hcp, hf.trans hf2⟩

end Go.Proofs.YtkdnpaohlepjbaaGreatDoor
