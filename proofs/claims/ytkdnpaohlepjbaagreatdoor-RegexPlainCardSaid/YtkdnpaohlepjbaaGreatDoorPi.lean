/-
  The code writer turns a sequence of units into instructions. Conditions: at most 300 units.
-/
import Derived.Test.YtkdnpaohlepjbaaGreatDoorPe
import Derived.Test.YtkdnpaohlepjbaaGreatDoorPh
namespace Go.Proofs.YtkdnpaohlepjbaaGreatDoor
open Go.RowKit

theorem canon_plain (pb : Nat) (u : Int) (w : World) (h3 : w.cell? ⟨pb, 3, none⟩ = some (.bool false)) :
    Calls Tryz.prog 62 #[.pointer (some ⟨pb, 0, none⟩), .int .u16 u] w fun e w' => e = .returned (.int .u16 u) ∧ w = w' := by
  go_enter Tryz.func62, Tryz.ntmps62
  go_wp2
  go_ret
  exact ⟨rfl, rfl⟩

/-- An instruction that matches one unit. -/
def charIns (u : Nat) : List Value := [.int .i64 0, .int .i64 u, .int .i64 0, .pointer none]
def codeL (us : Nat → Nat) : Nat → List Value
  | 0 => []
  | j + 1 => codeL us j ++ charIns (us j)

set_option maxRecDepth 100000 in
set_option maxHeartbeats 1600000 in
theorem gen_char (pb base n tb : Nat) (v : Value) (xs : List Value) (u : Nat) (w : World) (hu : u ≤ 65535)
    (hp : Blk w pb (patCells v 0 0 false false false) 62) (hown : w.ownsRow base 95 4 v n xs) (hbase : base ≤ w.heap.size) (hn : n ≤ 100000)
    (hne : v.ownBlock ≠ some pb) (ht : Blk w tb (charCells u) 133) :
    Calls Tryz.prog 40 #[.pointer (some ⟨pb, 0, none⟩), .pointer (some ⟨tb, 0, none⟩)] w fun e w' => ∃ gg cap, e = .returned (.tuple #[]) ∧
      Blk w' pb (patCells (.slice (some ⟨gg, 0, none⟩) (n + 1) cap) 0 0 false false false) 62 ∧
      w'.ownsRow base 95 4 (.slice (some ⟨gg, 0, none⟩) (n + 1) cap) (n + 1) (xs ++ charIns u) ∧
      (v.ownBlock = some gg ∨ w.heap.size ≤ gg) ∧ gg ≠ pb ∧ Fr (fun k => k = pb ∨ v.ownBlock = some k) w w' := by
  have h0 : w.cell? ⟨tb, 0, none⟩ = some (.int .i64 0) := ht.cell 0
  have h1 : w.cell? ⟨tb, 1, none⟩ = some (.int .u16 u) := ht.cell 1
  have hp3 : w.cell? ⟨pb, 3, none⟩ = some (.bool false) := hp.cell 3
  have H := Lib.hid (emit_any pb base n v xs 0 0 false false false 0 u 0 (.pointer none) w hp hown hbase hn hne rfl)
  clear hown hbase hp hne ht
  go_enter Tryz.func40, Tryz.ntmps40
  go_wp2_with (first
    | (go_at_call 62; refine (canon_plain pb _ _ hp3).mono ?_; rintro e w' ⟨rfl, rfl⟩)
    | (go_at_call 41; refine H.out.mono ?_; rintro e w' ⟨gg, cap, rfl, hp', hown', hat, hgp, hf⟩))
  go_end0
  exact ⟨gg, cap, rfl, hp', hown', hat, hgp, hf⟩

/-- A row of one-cell elements that a value owns: the block whole. -/
theorem own_blk {w : World} {base n : Nat} {e : TypeId} {v : Value} {xs : List Value} (h : w.ownsRow base e 1 v n xs) (hn : 0 < n) :
    ∃ g cap cur, v = .slice (some ⟨g, 0, none⟩) n cap ∧ base ≤ g ∧ Blk w g cur e ∧ n ≤ cap ∧ cap ≤ maxLen ∧ ∀ j, j < n → cur[j]? = xs[j]? := by
  rcases h.2 with hz | ⟨g, cap, cur, hv, hb, hg, h1, h2, h3, h4⟩
  · omega
  · refine ⟨g, cap, cur, hv, hb, hg, h1, h2, fun j hj => ?_⟩
    rw [← h4, List.getElem?_take_of_lt (by omega)]
    simp

set_option maxRecDepth 100000 in
set_option maxHeartbeats 1600000 in
theorem gen_seq (pb b tb m : Nat) (us : Nat → Nat) (v : Value) (al : List Nat) (w : World) (hus : ∀ i, us i ≤ 65535) (hm : m ≤ 300) (hlen : al.length = m)
    (hp : Blk w pb (patCells (.slice none 0 0) 0 0 false false false) 62) (R : RowB b tb us v al w) (hpb : pb < b) :
    Calls Tryz.prog 40 #[.pointer (some ⟨pb, 0, none⟩), .pointer (some ⟨tb, 0, none⟩)] w fun e w' => ∃ c, e = .returned (.tuple #[]) ∧
      Blk w' pb (patCells c 0 0 false false false) 62 ∧ w'.ownsRow w.heap.size 95 4 c m (codeL us m) ∧ c.ownBlock ≠ some pb ∧ Fr (· = pb) w w' := by
  have h0 : w.cell? ⟨tb, 0, none⟩ = some (.int .i64 10) := R.sq.cell 0
  have h5 : w.cell? ⟨tb, 5, none⟩ = some v := R.sq.cell 5
  by_cases hz : m = 0
  · subst hz
    have hv : ∃ a c, v = .slice a 0 c := by
      rcases R.own.2 with h | ⟨g, cap, cur, hv, _⟩
      · exact ⟨_, _, h.1⟩
      · rw [hlen] at hv
        exact ⟨_, _, hv⟩
    obtain ⟨a, c, rfl⟩ := hv
    go_enter Tryz.func40, Tryz.ntmps40
    go_wp2_with fail
    go_loopw [92] (fun i wr => i = .int .i64 0 ∧ wr = w) (fun _ _ => 0)
    case atStart => exact ⟨rfl, rfl⟩
    case round =>
      obtain ⟨rfl, rfl⟩ := hrel
      go_wp2_with fail
      go_end0
      exact ⟨.slice none 0 0, rfl, hp, World.ownsRow_nil _ _ _ _, by simp [Value.ownBlock], Fr.refl _ _⟩
  · obtain ⟨g, cap, cur, rfl, hbg, hg, hcap, hcm, hcur⟩ := own_blk R.own (by omega)
    rw [hlen] at hcap hcur h5
    have hcap' : (cap : Int) ≤ 9223372036854775807 := by unfold maxLen at hcm; omega
    go_enter Tryz.func40, Tryz.ntmps40
    go_wp2_with fail
    go_loopw [92] (fun i wr => ∃ (j : Nat) (c : Value), j ≤ m ∧ i = .int .i64 j ∧ Blk wr pb (patCells c 0 0 false false false) 62 ∧ wr.ownsRow w.heap.size 95 4 c j (codeL us j) ∧ c.ownBlock ≠ some pb ∧ Fr (· = pb) w wr) (fun i _ => m - (intOf i).toNat)
    case atStart => exact ⟨0, .slice none 0 0, by omega, rfl, hp, World.ownsRow_nil _ _ _ _, by simp [Value.ownBlock], Fr.refl _ _⟩
    case round =>
      obtain ⟨j, c, hj, rfl, hpj, hown, hcp, hf⟩ := hrel
      by_cases hlt : j < m
      · have hgj := hf.blk hg (by omega)
        have hjl : j < al.length := by omega
        have hc1 : wr.cell? ⟨g, j, none⟩ = some (.pointer (some ⟨al[j], 0, none⟩)) := by
          rw [hgj.cell, hcur j hlt, List.getElem?_map, List.getElem?_eq_getElem hjl]
          rfl
        have hkid := hf.blk (R.kid j hjl) (fun e => by have := (R.new _ (List.getElem_mem hjl)).1; omega)
        have hsz := hf.size
        have H := Lib.hid (gen_char pb w.heap.size j al[j] c (codeL us j) (us j) wr (hus j) hpj hown hsz (by omega) hcp hkid)
        generalize al[j] = ta at hc1 H
        have Hf := Lib.hid hf
        clear hpj hkid hgj hg hcur hus R hp hf
        go_wp2_with (go_at_call 40; refine H.out.mono ?_; rintro e w' ⟨gg, cap', rfl, hp', hown', hat, hgp, hf'⟩)
        refine ⟨⟨j + 1, _, by omega, by go_num, hp', hown', fun e => hgp (Option.some.inj e), Hf.out.then hf' (fun k hk h => ?_)⟩, by simp [intOf]; omega⟩
        rcases h with h | h
        · exact h
        · have := (hown.lt k h).1
          omega
      · obtain rfl : j = m := by omega
        go_wp2_with fail
        go_end0
        exact ⟨c, rfl, hpj, hown, hcp, hf⟩

end Go.Proofs.YtkdnpaohlepjbaaGreatDoor
