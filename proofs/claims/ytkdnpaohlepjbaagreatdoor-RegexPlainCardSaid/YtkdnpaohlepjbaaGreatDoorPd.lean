/-
  The reader takes one escape of a unit for one term. Conditions: the escape stands in the text.
-/
import Derived.Test.YtkdnpaohlepjbaaGreatDoorPc
namespace Go.Proofs.YtkdnpaohlepjbaaGreatDoor
open Go.RowKit

theorem several_u (w : World) : Calls Tryz.prog 130 #[.int .u16 117] w fun e w' => e = .returned (.tuple #[.slice none 0 0, .bool false, .bool false]) ∧ w = w' := by
  go_enter Tryz.func130, Tryz.ntmps130
  go_wp2
  go_ret3
  exact ⟨rfl, rfl⟩

set_option maxHeartbeats 400000 in
theorem single_u (r lb n cap k : Nat) (g b p d : Int) (ds : Nat → Nat) (w : World) (hk : k + 4 ≤ n) (hn : n ≤ 5000) (hne : lb ≠ r)
    (hds : ∀ i, i < 4 → ds i < 16) (cur : Array Value) (hl : Blk w lb cur 37)
    (hr : Blk w r (rdCells (some ⟨lb, 0, none⟩) n cap k g b p d) 125) (hc : ∀ i, i < 4 → cur[k + i]? = some (.int .u16 (hx (ds i)))) :
    Calls Tryz.prog 131 #[.pointer (some ⟨r, 0, none⟩), .int .u16 117] w fun e w' => e = .returned (.int .u16 (hv ds 4 : Nat)) ∧ Blk w' r (rdCells (some ⟨lb, 0, none⟩) n cap (k + 4) g b p d) 125 ∧ Fr (· = r) w w' := by
  have H := Lib.hid (hexes_any r lb n cap k g b p d ds w hk hn hne hds cur hl hr hc)
  clear hds hl hr hc
  go_enter Tryz.func131, Tryz.ntmps131
  go_wp2_with (go_at_call 136; refine H.out.mono ?_; rintro e w' ⟨rfl, hr', hf'⟩)
  go_ret
  exact ⟨rfl, hr', hf'⟩

/-- A term that is one unit. -/
def charCells (v : Int) : Array Value :=
  #[.int .i64 0, .int .u16 v, .slice none 0 0, .bool false, .int .i64 0, .slice none 0 0, .int .i64 0, .int .i64 0, .bool false, .int .i64 0, .int .i64 0]

set_option maxHeartbeats 400000 in
theorem escape_u (r lb n cap k : Nat) (g b p d : Int) (ds : Nat → Nat) (w : World) (hk : k + 5 ≤ n) (hn : n ≤ 5000) (hne : lb ≠ r)
    (hds : ∀ i, i < 4 → ds i < 16) (cur : Array Value) (hl : Blk w lb cur 37)
    (hr : Blk w r (rdCells (some ⟨lb, 0, none⟩) n cap k g b p d) 125) (hu : cur[k]? = some (.int .u16 117)) (hc : ∀ i, i < 4 → cur[k + 1 + i]? = some (.int .u16 (hx (ds i)))) :
    Calls Tryz.prog 125 #[.pointer (some ⟨r, 0, none⟩)] w fun e w' => ∃ tb, e = .returned (.tuple #[.pointer (some ⟨tb, 0, none⟩), .bool true]) ∧
      w.heap.size ≤ tb ∧ Blk w' tb (charCells (hv ds 4 : Nat)) 133 ∧ Blk w' r (rdCells (some ⟨lb, 0, none⟩) n cap (k + 5) g b p d) 125 ∧ Fr (· = r) w w' := by
  have hcu : w.cell? ⟨lb, k, none⟩ = some (.int .u16 117) := (hl.cell _).trans hu
  go_enter Tryz.func125, Tryz.ntmps125
  go_wp2_with (fail)
  refine (next_any r lb n cap k g b p d _ _ (by omega) hn hne hr hcu).mono ?_
  rintro e w1 ⟨rfl, hr1, hf1⟩
  go_wp2_with (go_at_call 130; refine (several_u _).mono ?_; rintro e w' ⟨rfl, rfl⟩)
  refine (single_u r lb n cap (k + 1) g b p d ds _ (by omega) hn hne hds cur (hf1.blk hl hne) hr1 hc).mono ?_
  rintro e w2 ⟨rfl, hr2, hf2⟩
  go_wp2
  go_ret2
  exact ⟨_, rfl, (hf1.trans hf2).size, Blk.new _ _ _, hr2.alloc _, (hf1.trans hf2).alloc _⟩

set_option maxHeartbeats 400000 in
theorem atom_u (r lb n cap k : Nat) (g b p d : Int) (ds : Nat → Nat) (w : World) (hk : k + 6 ≤ n) (hn : n ≤ 5000) (hne : lb ≠ r)
    (hds : ∀ i, i < 4 → ds i < 16) (cur : Array Value) (hl : Blk w lb cur 37)
    (hr : Blk w r (rdCells (some ⟨lb, 0, none⟩) n cap k g b p d) 125) (hs : cur[k]? = some (.int .u16 92)) (hu : cur[k + 1]? = some (.int .u16 117))
    (hc : ∀ i, i < 4 → cur[k + 1 + 1 + i]? = some (.int .u16 (hx (ds i)))) :
    Calls Tryz.prog 113 #[.pointer (some ⟨r, 0, none⟩)] w fun e w' => ∃ tb, e = .returned (.tuple #[.pointer (some ⟨tb, 0, none⟩), .bool true]) ∧
      w.heap.size ≤ tb ∧ Blk w' tb (charCells (hv ds 4 : Nat)) 133 ∧ Blk w' r (rdCells (some ⟨lb, 0, none⟩) n cap (k + 6) g b p d) 125 ∧ Fr (· = r) w w' := by
  have hcu : w.cell? ⟨lb, k, none⟩ = some (.int .u16 92) := (hl.cell _).trans hs
  go_enter Tryz.func113, Tryz.ntmps113
  go_wp2_with (fail)
  refine (next_any r lb n cap k g b p d _ _ (by omega) hn hne hr hcu).mono ?_
  rintro e w1 ⟨rfl, hr1, hf1⟩
  go_wp2_with (fail)
  refine (escape_u r lb n cap (k + 1) g b p d ds _ (by omega) hn hne hds cur (hf1.blk hl hne) hr1 hu hc).mono ?_
  rintro e w2 ⟨tb, rfl, hz, ht, hr2, hf2⟩
  go_wp2
  go_ret2
  exact ⟨_, rfl, Nat.le_trans hf1.size hz, ht, hr2, hf1.trans hf2⟩

/-- What stands behind a term: nothing, or a unit that is none of these. -/
def Plain (cur : Array Value) (n k : Nat) : Prop := k = n ∨ k < n ∧ cur[k]? = some (.int .u16 92)

theorem eat_plain (r lb n cap k : Nat) (u : Int) (w : World) (cur : Array Value) (hl : Blk w lb cur 37) (hp : Plain cur n k)
    (h0 : w.cell? ⟨r, 0, none⟩ = some (.slice (some ⟨lb, 0, none⟩) n cap)) (h1 : w.cell? ⟨r, 1, none⟩ = some (.int .i64 k))
    (hu : 0 ≤ u) (hu2 : u ≤ 127) (hne : ((92 : Int) == u) = false) :
    Calls Tryz.prog 88 #[.pointer (some ⟨r, 0, none⟩), .int .i32 u] w fun e w' => e = .returned (.bool false) ∧ ∃ q, w' = w.drewN q := by
  rcases hp with rfl | ⟨hk, hc⟩
  · exact eat_end r _ k cap u w h0 h1
  · exact eat_no r lb n cap k 92 u w hk h0 h1 ((hl.cell _).trans hc) hu hu2 hne

theorem is_plain (r lb n cap k : Nat) (u : Int) (w : World) (cur : Array Value) (hl : Blk w lb cur 37) (hp : Plain cur n k)
    (h0 : w.cell? ⟨r, 0, none⟩ = some (.slice (some ⟨lb, 0, none⟩) n cap)) (h1 : w.cell? ⟨r, 1, none⟩ = some (.int .i64 k))
    (hu : 0 ≤ u) (hu2 : u ≤ 127) (hne : ((92 : Int) == u) = false) :
    Calls Tryz.prog 87 #[.pointer (some ⟨r, 0, none⟩), .int .i32 u] w fun e w' => e = .returned (.bool false) ∧ ∃ q, w' = w.drewN q := by
  rcases hp with rfl | ⟨hk, hc⟩
  · exact is_end r _ k cap u w h0 h1
  · exact is_no r lb n cap k 92 u w hk h0 h1 ((hl.cell _).trans hc) hu hu2 hne

set_option maxHeartbeats 1000000 in
theorem term_u (r lb n cap k : Nat) (b p d : Int) (ds : Nat → Nat) (w : World) (hk : k + 6 ≤ n) (hn : n ≤ 5000) (hne : lb ≠ r)
    (hp0 : 0 ≤ p) (hp1 : p < 4096)
    (hds : ∀ i, i < 4 → ds i < 16) (cur : Array Value) (hl : Blk w lb cur 37)
    (hr : Blk w r (rdCells (some ⟨lb, 0, none⟩) n cap k 0 b p d) 125) (hs : cur[k]? = some (.int .u16 92)) (hu : cur[k + 1]? = some (.int .u16 117))
    (hc : ∀ i, i < 4 → cur[k + 1 + 1 + i]? = some (.int .u16 (hx (ds i)))) (hpl : Plain cur n (k + 6)) :
    Calls Tryz.prog 105 #[.pointer (some ⟨r, 0, none⟩)] w fun e w' => ∃ tb, e = .returned (.pointer (some ⟨tb, 0, none⟩)) ∧
      w.heap.size ≤ tb ∧ Blk w' tb (charCells (hv ds 4 : Nat)) 133 ∧ Blk w' r (rdCells (some ⟨lb, 0, none⟩) n cap (k + 6) 0 b (p + 1) d) 125 ∧ Fr (· = r) w w' := by
  have h4 : w.cell? ⟨r, 4, none⟩ = some (.int .i64 p) := hr.cell 4
  have h2 : w.cell? ⟨r, 2, none⟩ = some (.int .i64 0) := hr.cell 2
  have f4 : w.frozen? ⟨r, 4, none⟩ = false := hr.free 4
  go_enter Tryz.func105, Tryz.ntmps105
  go_wp2_with (fail)
  have hrW : Blk (w.setCell ⟨r, 4, none⟩ (.int .i64 (p + 1))) r (rdCells (some ⟨lb, 0, none⟩) n cap k 0 b (p + 1) d) 125 := hr.set 4 _
  have hfW : Fr (· = r) w (w.setCell ⟨r, 4, none⟩ (.int .i64 (p + 1))) := (Fr.refl (· = r) w).setCell _ (fun _ => rfl) _
  refine (atom_u r lb n cap k 0 b (p + 1) d ds _ (by omega) hn hne hds cur (hfW.blk hl hne) hrW hs hu hc).mono ?_
  rintro e w2 ⟨tb, rfl, hz, ht, hr2, hf2⟩
  have hf : Fr (· = r) w w2 := hfW.trans hf2
  have hl2 : Blk w2 lb cur 37 := hf.blk hl hne
  have g2 : w2.cell? ⟨r, 2, none⟩ = some (.int .i64 0) := hr2.cell 2
  have hz' : w.heap.size ≤ tb := Nat.le_trans hfW.size hz
  clear h4 h2 f4 hrW hfW hds hs hu hc hf2 hz
  have hlt := hr2.lt
  go_wp2_with (fail)
  refine (eat_plain r lb n cap (k + 6) _ _ cur ((hl2.alloc _).alloc _) hpl (((hr2.alloc _).alloc _).cell 0) (((hr2.alloc _).alloc _).cell 1) (by omega) (by omega) (by decide)).mono ?_
  rintro e w3 ⟨rfl, q3, rfl⟩
  go_wp2_with (fail)
  refine (eat_plain r lb n cap (k + 6) _ _ cur (((hl2.alloc _).alloc _).drewN _) hpl ((((hr2.alloc _).alloc _).drewN _).cell 0) ((((hr2.alloc _).alloc _).drewN _).cell 1) (by omega) (by omega) (by decide)).mono ?_
  rintro e w3 ⟨rfl, q4, rfl⟩
  go_wp2_with (fail)
  refine (eat_plain r lb n cap (k + 6) _ _ cur (((hl2.alloc _).alloc _).drewN _) hpl ((((hr2.alloc _).alloc _).drewN _).cell 0) ((((hr2.alloc _).alloc _).drewN _).cell 1) (by omega) (by omega) (by decide)).mono ?_
  rintro e w3 ⟨rfl, q5, rfl⟩
  go_wp2_with (fail)
  refine (is_plain r lb n cap (k + 6) _ _ cur (((hl2.alloc _).alloc _).drewN _) hpl ((((hr2.alloc _).alloc _).drewN _).cell 0) ((((hr2.alloc _).alloc _).drewN _).cell 1) (by omega) (by omega) (by decide)).mono ?_
  rintro e w3 ⟨rfl, q6, rfl⟩
  go_wp2_with (fail)
  go_ret
  exact ⟨tb, rfl, hz', ((ht.alloc _).alloc _).drewN _, ((hr2.alloc _).alloc _).drewN _, ((hf.alloc _).alloc _).drewN _⟩

end Go.Proofs.YtkdnpaohlepjbaaGreatDoor
