/-
  plain.Find over its own copy of the text finds the first place where the units stand, or none. Conditions: as the search's.
-/
import Derived.Test.YtkdnpaohlepjbaaGreatDoorQe
import Derived.Laws.Append
import Derived.Deep.Upon
import Derived.Lib.SlFresh
namespace Go.Proofs.YtkdnpaohlepjbaaGreatDoor
open Go.RowKit

theorem add_block_ (a : Addr) (n : Nat) : (a.add n).block = a.block := by unfold Addr.add; split <;> rfl

/-- A slice of units, wherever it lies. -/
def SliceIn (w : World) (v : Value) (n : Nat) (f : Nat → Int) : Prop :=
  (v = .slice none 0 0 ∧ n = 0) ∨ ∃ (a : Addr) (c : Nat), v = .slice (some a) n c ∧ n ≤ c ∧ c ≤ maxLen ∧ ∀ k, k < n → w.cell? (a.add k) = some (.int .u16 (f k))

theorem SliceIn.fr {w w' : World} {v : Value} {n : Nat} {f : Nat → Int} (V : SliceIn w v n f) (h : Fr (fun _ => False) w w') : SliceIn w' v n f := by
  rcases V with V | ⟨a, c, e, h1, h2, hc⟩
  · exact .inl V
  · refine .inr ⟨a, c, e, h1, h2, fun k hk => ?_⟩
    have := hc k hk
    rw [World.cell?_of_block (h.block _ (World.block_lt_of_cell? w _ this) (fun h => h))]
    exact this

theorem own_copy (w : World) (v : Value) (n : Nat) (f : Nat → Int) (V : SliceIn w v n f) (hn : n ≤ 2000) :
    ∃ oa cap w1, (Builtin.append_ #[26, 26] 26 #[.slice none 0 0, v]).run Tryz.prog w = .ok (.slice oa n cap) w1 ∧ Fr (fun _ => False) w w1 ∧
      (0 < n → ∃ ob cur, oa = some ⟨ob, 0, none⟩ ∧ w.heap.size ≤ ob ∧ Blk w1 ob cur 37 ∧ ∀ k, k < n → cur[k]? = some (.int .u16 (f k))) := by
  obtain ⟨i0, hi0, hz0, hz1, hz2⟩ := info_parts info37
  rcases V with ⟨rfl, rfl⟩ | ⟨a, c, rfl, h1, h2, hc⟩
  · exact ⟨none, 0, w, run_append_nothing w 26 26 26 37 i0 Tryz.underlying26 hi0 none 0 0 (Nat.le_refl _) _ (Src.ofNil w Tryz.underlying26 0), Fr.refl _ _, fun h => absurd h (by omega)⟩
  · rcases Nat.eq_zero_or_pos n with rfl | hp
    · exact ⟨none, 0, w, run_append_nothing w 26 26 26 37 i0 Tryz.underlying26 hi0 none 0 0 (Nat.le_refl _) _ (Src.ofSlice w Tryz.underlying26 a 0 c [] (by simp) (by intro j u h; simp at h) (by simp)), Fr.refl _ _, fun h => absurd h (by omega)⟩
    · have hr := run_append_nil (P := Tryz.prog) (w := w) 26 26 37 i0 _ Tryz.underlying26 hi0 hz0 a n c ((List.range n).map fun k => Value.int .u16 (f k)) (by simp [hz1])
        (fun j u h => by
          have hj : j < n := by
            have := (List.getElem?_eq_some_iff.1 h).1
            simpa using this
          rw [hc j hj]
          simpa [hj] using h) hp (by omega) (by rw [hz2]; omega)
      refine ⟨_, _, _, hr, ((Fr.refl _ w).drew.alloc _), fun _ => ⟨_, _, rfl, Nat.le_refl _, Blk.new w.drew _ _, fun k hk => ?_⟩⟩
      rw [Array.getElem?_append_left (by simpa using hk)]
      simp [hk]

set_option maxRecDepth 100000 in
set_option maxHeartbeats 1600000 in
theorem tried_u (pb gg ccap m n st : Nat) (us : Nat → Nat) (ccur : Array Value) (v : Value) (f : Nat → Int) (w : World)
    (C : CodeAt w pb gg ccap m us ccur) (V : SliceIn w v n f) (hus : ∀ i, us i ≤ 65535) (hm : m ≤ 300) (hn : n ≤ 2000) (hst : st ≤ n) :
    Calls Tryz.prog 22 #[.func (Fn.func 23) #[.pointer (some ⟨pb, 0, none⟩)] #[], v, .int .i64 st, .int .i64 1073741824] w fun e w' => ∃ (took : Int) (x : Value),
      Found n m st f us w.heap.size w' x ∧ e = .returned (.tuple #[x, .int .i64 took, .int .i64 0]) ∧ Fr (fun _ => False) w w' := by
  have HV := Lib.hid V
  obtain ⟨oa, cap, w1, hr, hf1, hT⟩ := own_copy w v n f V hn
  have C1 := C.fr hf1 (fun h => h) (fun h => h)
  go_enter Tryz.func22, Tryz.ntmps22
  go_wp2_with (at_builtin; refine Lib.wpList_append_run_sl _ rfl _ _ 26 rfl _ _ rfl rfl hr ?_)
  have T1 : TextAt w1 oa n f w1.heap.size := fun h0 => by
    obtain ⟨ob, cur, e, h1, B, h2⟩ := hT h0
    have := B.lt
    exact ⟨ob, cur, e, by omega, B, h2⟩
  refine (find_u pb gg ccap m n cap st us ccur oa f w1 C1 T1 hus hm hn hst).mono ?_
  rintro e w2 ⟨took, x, hF, rfl, hf2⟩
  have HF := Lib.hid hF
  have HC := Lib.hid C1
  have hf12 := hf1.trans hf2
  clear C C1 V hF T1 hus hr
  go_wp2_with (go_at_call 19; refine (number_nil _).mono ?_; rintro e w3 ⟨rfl, hf3⟩)
  have F3 := HF.out.fr hf3 (fun _ _ h => h)
  have HF3 := Lib.hid F3
  have hf13 := hf12.trans hf3
  clear F3 HF
  rcases Nat.eq_zero_or_pos n with rfl | hp
  · refine wp_loop_rounds 1 ?_
    rw [rounds_succ]
    go_wp2_with fail
    go_ret3
    exact ⟨took, x, HF3.out.base hf1.size, rfl, hf13⟩
  · obtain ⟨ob, cur, rfl, hob, B, hcur⟩ := hT hp
    have hob1 := B.lt
    rcases HV.out with ⟨_, h0⟩ | ⟨a, c, rfl, hnc, hcm, hac0⟩
    · omega
    have hal : a.block < w.heap.size := World.block_lt_of_cell? w _ (hac0 0 hp)
    have hac : ∀ k, k < n → w3.cell? (a.add k) = some (.int .u16 (f k)) := fun k hk => by
      rw [World.cell?_of_block (hf13.block _ (World.block_lt_of_cell? w _ (hac0 k hk)) (fun h => h))]
      exact hac0 k hk
    have hao : a.block ≠ ob := by omega
    have B3 := (hf2.trans hf3).blk B (fun h => h)
    clear hac0
    go_loopg [32, 16, 15] n (fun gk i32 i16 i15 wr => ∃ (k : Nat) (cw : Array Value), k + gk = n ∧ i32 = .int .i64 k ∧ i15 = .int .i64 0 ∧ Fr (fun _ => False) w wr ∧ Found n m st f us w1.heap.size wr x ∧ Blk wr ob cw 37 ∧
      (∀ j, k ≤ j → j < n → cw[j]? = some (.int .u16 (f j))) ∧ ∀ j, j < n → wr.cell? (a.add j) = some (.int .u16 (f j)))
    case atStart => exact ⟨0, cur, by omega, rfl, rfl, hf13, HF3.out, B3, fun j _ h => hcur j h, hac⟩
    case round =>
      obtain ⟨k, cw, hk, rfl, rfl, gf, gF, gB, gc, ga⟩ := hrel
      have HG := Lib.hid gF
      have Hgc := Lib.hid gc
      have Hga := Lib.hid ga
      clear gF hac hcur
      by_cases hg : gk = 0
      · have hkn : ¬ ((k : Int) < n) := by omega
        clear gc ga
        go_wp2_with fail
        go_ret3
        exact ⟨took, x, HG.out.base hf1.size, rfl, gf⟩
      · have hkn : (k : Int) < n := by omega
        have c1 : wr.cell? ⟨ob, k, none⟩ = some (.int .u16 (f k)) := (gB.cell k).trans (gc k (Nat.le_refl _) (by omega))
        have c2 : wr.cell? (a.add k) = some (.int .u16 (f k)) := ga k (by omega)
        have z1 : wr.frozen? ⟨ob, k, none⟩ = false := gB.free k
        clear gc ga
        go_wp2_with fail
        go_quiet (fail)
        go_wp2_with fail
        go_roundg (gk - 1)
        case measure => omega
        case rel =>
          refine ⟨k + 1, _, by omega, by go_num, rfl, (gf.drewN _).setNew _ _ _ hob, HG.out.fr (((Fr.refl (fun y => y = ob) wr).drewN _).setCell _ (fun _ => rfl) _) (fun y hy e => by omega), (gB.drewN _).set k _, fun j h1 h2 => ?_, fun j h2 => ?_⟩
          · rw [Array.getElem?_setIfInBounds_ne (by omega)]
            exact Hgc.out j (by omega) h2
          · have hfx : Fr (fun y => y = ob) wr ((wr.drewN nq).setCell ⟨ob, k, none⟩ (.int .u16 33)) := ((Fr.refl (fun y => y = ob) wr).drewN _).setCell _ (fun _ => rfl) _
            have hbx := hfx.block (a.add j).block (World.block_lt_of_cell? wr (a.add j) (Hga.out j h2)) (by rw [add_block_]; exact hao)
            exact (World.cell?_of_block hbx).trans (Hga.out j h2)

set_option maxRecDepth 100000 in
theorem plain_find_u (pb gg ccap m n st : Nat) (us : Nat → Nat) (ccur : Array Value) (v : Value) (f : Nat → Int) (w : World)
    (C : CodeAt w pb gg ccap m us ccur) (V : SliceIn w v n f) (hus : ∀ i, us i ≤ 65535) (hm : m ≤ 300) (hn : n ≤ 2000) (hst : st ≤ n) :
    Calls Tryz.prog 14 #[.pointer (some ⟨pb, 0, none⟩), v, .int .i64 st, .int .i64 1073741824] w fun e w' => ∃ (took : Int) (x : Value),
      Found n m st f us w.heap.size w' x ∧ e = .returned (.tuple #[x, .int .i64 took, .int .i64 0]) ∧ Fr (fun _ => False) w w' := by
  have hmf : ∀ (fn : Fn) (first cap : Array Value) (w : World), (Instr.makeFunc fn first cap).run Tryz.prog w = .ok (.func fn first cap) w := fun _ _ _ _ => rfl
  go_enter Tryz.func14, Tryz.ntmps14
  go_wp2_with fail
  refine (tried_u pb gg ccap m n st us ccur v f w C V hus hm hn hst).mono ?_
  rintro e w2 ⟨took, x, hF, rfl, hf2⟩
  go_wp2_with fail
  go_ret3
  exact ⟨took, x, hF, rfl, hf2⟩

end Go.Proofs.YtkdnpaohlepjbaaGreatDoor
