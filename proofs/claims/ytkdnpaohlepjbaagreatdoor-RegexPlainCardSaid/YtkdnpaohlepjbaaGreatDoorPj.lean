/-
  The units of an ASCII string are its bytes. Conditions: every byte is below 128; the string's length is bounded.
-/
import Derived.Test.YtkdnpaohlepjbaaGreatDoorPb
import Derived.Deep.AppendLies
import Derived.Deep.LoopGhost
namespace Go.Proofs.YtkdnpaohlepjbaaGreatDoor
open Go.RowKit

theorem decode_ascii (s : ByteArray) (c : Int) (w : World) (hne : s.toList.isEmpty = false) (hsz : 0 < s.size) (hc : PlainAid.bt s 0 = c) (h1 : c < 128) (h0 : 0 ≤ c) :
    Calls Tryz.prog 20 #[.string s] w fun e w' => e = .returned (.tuple #[.int .i32 c, .int .i64 1]) ∧ w = w' := by
  have hb := PlainAid.get_bt s
  have hn2 : (!s.toList.isEmpty) = true := by rw [hne]; rfl
  go_enter Tryz.func20, Tryz.ntmps20
  go_wp2
  go_ret2
  exact ⟨rfl, rfl⟩

theorem next_ascii (s : ByteArray) (c : Int) (w : World) (hne : s.toList.isEmpty = false) (hsz : 0 < s.size) (hc : PlainAid.bt s 0 = c) (h1 : c < 128) (h0 : 0 ≤ c) :
    Calls Tryz.prog 42 #[.string s] w fun e w' => e = .returned (.tuple #[.int .i32 c, .int .i64 1]) ∧ w = w' := by
  have H := Lib.hid (decode_ascii s c w hne hsz hc h1 h0)
  have h3 : (c == 65533) = false := beq_eq_false_iff_ne.2 (by omega)
  clear hne hsz hc
  go_enter Tryz.func42, Tryz.ntmps42
  go_wp2_with (go_at_call 20; refine H.out.mono ?_; rintro e w' ⟨rfl, rfl⟩)
  go_ret2
  exact ⟨rfl, rfl⟩

theorem info37 : (Tryz.prog.info? 37).map (fun i => (i.zero, i.size, i.bytes)) = some (some (.int .u16 0), 1, 2) := by kernel_rfl

theorem not_empty (s : ByteArray) (h : 0 < s.size) : s.toList.isEmpty = false := by
  rw [ByteArray.toList_eq]
  cases hl : s.data.toList with
  | nil =>
    exfalso
    have h2 : s.data.toList.length = s.size := rfl
    rw [hl] at h2
    simp at h2
    omega
  | cons a b => rfl

theorem bt_drop (s : ByteArray) (j : Nat) : PlainAid.bt (s.extract 1 s.size) j = PlainAid.bt s (1 + j) := by
  unfold PlainAid.bt
  have hz : (s.extract 1 s.size).size = s.size - 1 := by simp [ByteArray.size_extract]
  by_cases h : 1 + j < s.size
  · rw [dif_pos h, dif_pos (by omega)]
    simp [ByteArray.getElem_extract]
  · rw [dif_neg h, dif_neg (by omega)]

/-- The units of an ASCII text's first k bytes. -/
def unitsL (f : Nat → Int) : Nat → List Value
  | 0 => []
  | k + 1 => unitsL f k ++ [.int .u16 (f k)]

set_option maxRecDepth 100000 in
set_option maxHeartbeats 1600000 in
theorem units_ascii (s : ByteArray) (w : World) (hn : s.size ≤ 10000) (ha : ∀ k, PlainAid.bt s k < 128) :
    Calls Tryz.prog 28 #[.string s] w fun e w' => ∃ v, e = .returned v ∧ w'.ownsRow w.heap.size 37 1 v s.size (unitsL (PlainAid.bt s) s.size) ∧ Fr (fun _ => False) w w' := by
  obtain ⟨i0, hi0, hz0, hz1, hz2⟩ := info_parts info37
  go_enter Tryz.func28, Tryz.ntmps28
  go_wp2_with fail
  go_loopg [0, 3, 4, 5] s.size (fun gk x v _ _ wr => ∃ (k : Nat) (t : ByteArray), k + gk = s.size ∧ x = .string t ∧ t.size = gk ∧ (∀ j, PlainAid.bt t j = PlainAid.bt s (k + j)) ∧ wr.ownsRow w.heap.size 37 1 v k (unitsL (PlainAid.bt s) k) ∧ Fr (fun _ => False) w wr)
  case atStart => exact ⟨0, s, by omega, rfl, rfl, fun j => by rw [Nat.zero_add], World.ownsRow_nil _ _ _ _, Fr.refl _ _⟩
  case round =>
    obtain ⟨k, t, hk, rfl, hts, hbt, hown, hf⟩ := hrel
    by_cases hg : gk = 0
    · have ht0 : ¬ 0 < t.size := by omega
      have hk' : s.size = k := by omega
      have Hk := Lib.hid hk'
      clear hts hk hk' hg
      go_wp2_with fail
      go_ret
      refine ⟨_, rfl, ?_, hf⟩
      rw [Hk.out]
      exact hown
    · have hpos : 0 < t.size := by omega
      have hb0 := hbt 0
      rw [Nat.add_zero] at hb0
      have hc1 := ha k
      have hc0 := PlainAid.bt_nonneg s k
      have hne := not_empty t hpos
      have hin : IntKind.u16.wrap (PlainAid.bt s k) = PlainAid.bt s k := IntWalk.u16_in _ (by omega)
      have H := Lib.hid (next_ascii t _ wr hne hpos hb0 hc1 hc0)
      have Hbt := Lib.hid hbt
      generalize hC : PlainAid.bt s k = C at *
      have HC := Lib.hid hC
      clear hC hbt hb0 hne ha
      go_wp2_with (first
        | (go_at_call 42; refine H.out.mono ?_; rintro e w' ⟨rfl, rfl⟩)
        | (at_builtin; refine wpList_append_lies _ rfl _ _ _ rfl w.heap.size 37 i0 _ 1 2 Tryz.underlying26 hi0 hz0 hz1 hz2 rfl (by omega) _ k (unitsL (PlainAid.bt s) k) rfl (hown.alloc _) ⟨wr.heap.size, 0, none⟩ 1 1 [.int .u16 C] rfl rfl (World.news_of_block (Blk.new wr #[.int .u16 C] 37)) (by simp [Value.oneCell']) (by omega) (by unfold maxLen; omega) (by omega) (by simp; have := hf.size; omega) (wr.heap.size + 1) (by simp) ?_; intro gg cap w1 hown1 hgrow hat hlt))
      go_roundg (gk - 1)
      case measure => omega
      case rel =>
        refine ⟨k + 1, _, by omega, rfl, ?_, fun j => ?_, ?_, ?_⟩
        · simp [ByteArray.size_extract]
          omega
        · have h := bt_drop t j
          rw [hts] at h
          rw [h, Hbt.out, show k + (1 + j) = k + 1 + j by omega]
        · rw [show unitsL (PlainAid.bt s) (k + 1) = unitsL (PlainAid.bt s) k ++ [.int .u16 (PlainAid.bt s k)] from rfl, HC.out]
          exact hown1
        · refine (hf.alloc _).then (Fr.of_grown hgrow) (fun i hi e => ?_)
          have := (hown.lt i e).1
          omega

end Go.Proofs.YtkdnpaohlepjbaaGreatDoor
