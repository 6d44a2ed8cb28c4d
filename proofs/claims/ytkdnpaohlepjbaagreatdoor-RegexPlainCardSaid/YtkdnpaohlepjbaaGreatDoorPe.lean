/-
  The code writer appends one instruction. Conditions: the pattern's block owns its row of code.
-/
import Derived.Test.YtkdnpaohlepjbaaGreatDoorPb
import Derived.Deep.RegionHeld3
import Derived.Deep.RegionLaw
import Derived.Deep.AppendLies
import Derived.Maps.AppendAt
namespace Go.Proofs.YtkdnpaohlepjbaaGreatDoor
open Go.RowKit

theorem info95 : (Tryz.prog.info? 95).map (fun i => (i.zero, i.size, i.bytes)) = some (some (.agg #[.int .i64 0, .int .i64 0, .int .i64 0, .pointer none]), 4, 32) := by kernel_rfl

/-- A pattern's cells. -/
def patCells (v : Value) (g l : Int) (fold lines glob : Bool) : Array Value := #[v, .int .i64 g, .int .i64 l, .bool fold, .bool lines, .bool glob]

theorem ones4 (a b c : Int) (t : Value) (ht : t.oneCell' = true) : ∀ u ∈ [Value.int .i64 a, .int .i64 b, .int .i64 c, t], u.oneCell' = true := by
  intro u hu
  simp only [List.mem_cons, List.not_mem_nil, or_false] at hu
  rcases hu with rfl | rfl | rfl | rfl
  · rfl
  · rfl
  · rfl
  · exact ht

theorem two_blocks (w : World) (cs ds : Array Value) (t u : TypeId) : Blk ((w.alloc (.cells cs t)).alloc (.cells ds u)) (w.heap.size + 1) ds u := by
  have h := Blk.new (w.alloc (.cells cs t)) ds u
  rwa [World.size_alloc] at h

set_option maxRecDepth 100000 in
set_option maxHeartbeats 3200000 in
theorem emit_any (pb base n : Nat) (v : Value) (xs : List Value) (g l : Int) (fold lines glob : Bool) (a b c : Int) (t : Value) (w : World)
    (hp : Blk w pb (patCells v g l fold lines glob) 62) (hown : w.ownsRow base 95 4 v n xs) (hbase : base ≤ w.heap.size) (hn : n ≤ 100000)
    (hne : v.ownBlock ≠ some pb) (ht : t.oneCell' = true) :
    Calls Tryz.prog 41 #[.pointer (some ⟨pb, 0, none⟩), .agg #[.int .i64 a, .int .i64 b, .int .i64 c, t]] w fun e w' => ∃ gg cap, e = .returned (.int .i64 n) ∧
      Blk w' pb (patCells (.slice (some ⟨gg, 0, none⟩) (n + 1) cap) g l fold lines glob) 62 ∧
      w'.ownsRow base 95 4 (.slice (some ⟨gg, 0, none⟩) (n + 1) cap) (n + 1) (xs ++ [.int .i64 a, .int .i64 b, .int .i64 c, t]) ∧
      (v.ownBlock = some gg ∨ w.heap.size ≤ gg) ∧ gg ≠ pb ∧ Fr (fun k => k = pb ∨ v.ownBlock = some k) w w' := by
  obtain ⟨i0, hi0, hz0, hz1, hz2⟩ := info_parts info95
  have lp := hp.lt
  have h0 : w.cell? ⟨pb, 0, none⟩ = some v := hp.cell 0
  have f0 : w.frozen? ⟨pb, 0, none⟩ = false := hp.free 0
  have hnb : v.ownBlock ≠ some w.heap.size := fun e => by have := (hown.lt _ e).2; omega
  go_enter Tryz.func41, Tryz.ntmps41
  go_wp2_with fail
  go_region_law
    ((refine step_append_lies _ (by rfl) _ _ _ (by rfl) base 95 i0 _ 4 32 Tryz.underlying60 hi0 hz0 hz1 hz2 rfl (by omega) v n xs (by rfl) (((hown.alloc _).alloc _).drew)
        ⟨w.heap.size + 1, 0, none⟩ 1 1 [.int .i64 a, .int .i64 b, .int .i64 c, t] (by rfl) (by rfl) (World.news_of_block (cs := #[.int .i64 a, .int .i64 b, .int .i64 c, t]) (t := 95) (fr := (0, 0)) (two_blocks w _ _ _ _).drew) (ones4 a b c t ht)
        (by omega) (by unfold maxLen; omega) (by omega) (by simp; omega) (w.heap.size + 2) (by simp) ?_; intro gg cap w1 hown1 hgrow hat hlt; have hcz : w1.cell? ⟨pb, 0, none⟩ = some v := (hgrow.cell_far ⟨pb, 0, none⟩ (by simp; omega) (Ne.symm hne)).trans (((hp.alloc _).alloc _).drew.cell 0); have hfz : w1.frozen? ⟨pb, 0, none⟩ = false := (hgrow.frozen_far ⟨pb, 0, none⟩ (by simp; omega) (Ne.symm hne)).trans (((hp.alloc _).alloc _).drew.free 0)))
  all_goals go_wp2
  all_goals go_ret
  all_goals
    have hp1 := (Fr.of_grown hgrow).blk ((hp.alloc _).alloc _).drew hne
    have hfr : Fr (fun k => k = pb ∨ v.ownBlock = some k) w w1 := ((((Fr.refl _ w).alloc _).alloc _).drew).then (Fr.of_grown hgrow) (fun _ _ h => .inr h)
    have hgp : gg ≠ pb := by
      rcases hat with h | h
      · exact fun e => hne (by rw [h, e])
      · omega
    refine ⟨gg, cap, rfl, hp1.set 0 _, own_set hown1 _ _ (fun e => hgp (Option.some.inj e)), ?_, hgp, hfr.setCell _ (fun _ => .inl rfl) _⟩
    rcases hat with h | h
    · exact .inl h
    · exact .inr (by omega)

end Go.Proofs.YtkdnpaohlepjbaaGreatDoor
