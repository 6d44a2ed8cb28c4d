/-
  Reading a whole pattern of escapes gives a sequence of units. Conditions: at most 300 escapes.
-/
import Derived.Test.YtkdnpaohlepjbaaGreatDoorPg
namespace Go.Proofs.YtkdnpaohlepjbaaGreatDoor
open Go.RowKit

theorem read1_idle (a b c : Value) (w : World) :
    CallsD Tryz.prog 58 #[a, b, c] .returning w fun e u' w' => u' = .returning ∧ (e = .returned (.tuple #[]) ∧ w' = w) := by
  refine callsD_of_wpS Tryz.func58 rfl fun c₀ cs hu => ?_
  apply wpS_seq
  apply wpS_region
  simp [wpOpsS, go_sem, recoverD, hu, Tryz.ntmps58, Exit.thenS]
  apply wpS_seq
  apply wpS_region
  simp [wpOpsS, go_sem, recoverD, hu, Exit.thenS]
  refine wpS_cond (t := false) (by simp [Act.eval, Array.replicate]) ?_
  simp only [Bool.false_eq_true, if_false]
  refine wpS_of_wp (wp_skip ?_)
  cases c₀
  simp_all [bodyPostS, results, Tryz.results58]

/-- A row of terms, of blocks from b on. -/
structure RowB (b tb : Nat) (u : Nat → Nat) (v : Value) (al : List Nat) (w : World) : Prop where
  sq : Blk w tb (seqCells v) 133
  own : w.ownsRow b 89 1 v al.length (al.map ptrTo)
  kid : ∀ i (h : i < al.length), Blk w al[i] (charCells (u i : Nat)) 133
  new : ∀ a ∈ al, b ≤ a ∧ a ≠ tb ∧ v.ownBlock ≠ some a
  vtb : v.ownBlock ≠ some tb
  tbn : b ≤ tb

theorem RowRes.toB {w0 w : World} {r tb : Nat} {u : Nat → Nat} {v : Value} {al : List Nat} (I : RowRes w0 r tb u v al w) : RowB w0.heap.size tb u v al w :=
  ⟨I.sq, I.own, I.kid, I.new, I.vtb, I.tbn⟩
theorem RowB.drewN {b tb : Nat} {u : Nat → Nat} {v : Value} {al : List Nat} {w : World} (I : RowB b tb u v al w) (q : Nat) : RowB b tb u v al (w.drewN q) :=
  ⟨I.sq, own_keep I.own fun _ _ => rfl, I.kid, I.new, I.vtb, I.tbn⟩
theorem RowB.set {b tb : Nat} {u : Nat → Nat} {v : Value} {al : List Nat} {w : World} (I : RowB b tb u v al w) (c : Nat) (hc : c < b) (i : Nat) (x : Value) : RowB b tb u v al (w.setCell ⟨c, i, none⟩ x) := by
  have htb := I.tbn
  refine ⟨I.sq.other (by omega) _ _, own_set I.own _ _ (fun e => ?_), fun j h => (I.kid j h).other ?_ _ _, I.new, I.vtb, I.tbn⟩
  · have := (I.own.lt _ e).1
    simp at this
    omega
  · have := (I.new _ (List.getElem_mem h)).1
    omega
theorem RowB.base {b b' tb : Nat} {u : Nat → Nat} {v : Value} {al : List Nat} {w : World} (I : RowB b tb u v al w) (h : b' ≤ b) : RowB b' tb u v al w :=
  ⟨I.sq, own_base I.own h, I.kid, fun a ha => ⟨Nat.le_trans h (I.new a ha).1, (I.new a ha).2⟩, I.vtb, Nat.le_trans h I.tbn⟩
theorem RowB.fr {b tb : Nat} {u : Nat → Nat} {v : Value} {al : List Nat} {w w' : World} {S : Nat → Prop} (I : RowB b tb u v al w) (hf : Fr S w w') (hs : ∀ k, b ≤ k → k < w.heap.size → ¬ S k) : RowB b tb u v al w' :=
  ⟨hf.blk I.sq (hs _ I.tbn I.sq.lt), own_fr I.own hf (fun g hg => hs g (I.own.lt g hg).1 (I.own.lt g hg).2), fun j h => hf.blk (I.kid j h) (hs _ (I.new _ (List.getElem_mem h)).1 (I.kid j h).lt), I.new, I.vtb, I.tbn⟩

theorem two_blocks (w : World) (cs ds : Array Value) (t u : TypeId) : Blk ((w.alloc (.cells cs t)).alloc (.cells ds u)) (w.heap.size + 1) ds u := by
  have h := Blk.new (w.alloc (.cells cs t)) ds u
  rwa [World.size_alloc] at h

set_option maxRecDepth 100000 in
set_option maxHeartbeats 1600000 in
theorem read_u (a : Option Addr) (cap m : Nat) (ds : Nat → Nat → Nat) (w : World) (hm : m ≤ 300) 
    (cur : Array Value) (hl : 0 < m → ∃ lb, a = some ⟨lb, 0, none⟩ ∧ Blk w lb cur 37) (hpu : PatUnits cur m ds) :
    Calls Tryz.prog 39 #[.slice a (6 * m) cap] w fun e w' => ∃ tb v al, e = .returned (.tuple #[.pointer (some ⟨tb, 0, none⟩), .int .i64 0, .nilIface]) ∧
      al.length = m ∧ RowB w.heap.size tb (fun i => hv (ds i) 4) v al w' ∧ Fr (fun _ => False) w w' := by
  have hmf : ∀ (fn : Fn) (first cap : Array Value) (w : World), (Instr.makeFunc fn first cap).run Tryz.prog w = .ok (.func fn first cap) w := fun _ _ _ _ => rfl
  go_enter_defers Tryz.func39, Tryz.ntmps39
  go_wp2_with (fail)
  generalize hW : ((((w.alloc (.cells #[.pointer none] 89)).alloc (.cells #[.int .i64 0] 3)).alloc (.cells #[.nilIface] 50)).alloc (.cells #[.slice a (6 * m) cap, .int .i64 0, .int .i64 0, .int .i64 0, .int .i64 0, .int .i64 0] 125)) = W
  have hWr : Blk W (w.heap.size + 1 + 1 + 1) (rdCells a (6 * m) cap 0 0 0 0 0) 125 := by
    have h := Blk.new (((w.alloc (.cells #[.pointer none] 89)).alloc (.cells #[.int .i64 0] 3)).alloc (.cells #[.nilIface] 50)) (rdCells a (6 * m) cap 0 0 0 0 0) 125
    rw [World.size_alloc, World.size_alloc, World.size_alloc] at h
    rw [← hW]; exact h
  have hW0 : Blk W w.heap.size #[.pointer none] 89 := by
    rw [← hW]; exact (((Blk.new w _ _).alloc _).alloc _).alloc _
  have hW1 : Blk W (w.heap.size + 1) #[.int .i64 0] 3 := by
    rw [← hW]
    exact ((two_blocks w _ _ _ _).alloc _).alloc _
  have hW2 : Blk W (w.heap.size + 1 + 1) #[.nilIface] 50 := by
    have h := Blk.new ((w.alloc (.cells #[.pointer none] 89)).alloc (.cells #[.int .i64 0] 3)) #[.nilIface] 50
    rw [World.size_alloc, World.size_alloc] at h
    rw [← hW]; exact h.alloc _
  have hWl : 0 < m → ∃ lb, a = some ⟨lb, 0, none⟩ ∧ lb ≠ w.heap.size + 1 + 1 + 1 ∧ Blk W lb cur 37 := fun h0 => by
    obtain ⟨lb, e, h⟩ := hl h0
    have := h.lt
    exact ⟨lb, e, by omega, by rw [← hW]; exact (((h.alloc _).alloc _).alloc _).alloc _⟩
  have hWf : Fr (· = w.heap.size + 1 + 1 + 1) w W := by rw [← hW]; exact ((((Fr.refl _ w).alloc _).alloc _).alloc _).alloc _
  clear hW
  refine (any_u (w.heap.size + 1 + 1 + 1) a cap m ds _ hm cur hWl hWr hpu).mono ?_
  rintro e w2 ⟨tb, v, al, rfl, hlen, rd, R⟩
  have R' := R.ext hWf
  have hb0 := R.fr.blk hW0 (by omega)
  have hb1 := R.fr.blk hW1 (by omega)
  have hb2 := R.fr.blk hW2 (by omega)
  have f0 : w2.frozen? ⟨w.heap.size, 0, none⟩ = false := hb0.free 0
  have c0 : w2.cell? ⟨w.heap.size, 0, none⟩ = some (.pointer none) := hb0.cell 0
  have hWs := rd.lt
  have htn := R.tbn
  have hWz := hWr.lt
  go_wp2_with (fail)
  generalize hw3 : w2.setCell ⟨w.heap.size, 0, none⟩ (.pointer (some ⟨tb, 0, none⟩)) = w3
  have rd3 : Blk w3 (w.heap.size + 1 + 1 + 1) (rdCells a (6 * m) cap (6 * m) 0 0 m 0) 125 := by rw [← hw3]; exact rd.other (by omega) _ _
  have b0 : Blk w3 w.heap.size #[.pointer (some ⟨tb, 0, none⟩)] 89 := by rw [← hw3]; exact hb0.set 0 _
  have b1 : Blk w3 (w.heap.size + 1) #[.int .i64 0] 3 := by rw [← hw3]; exact hb1.other (by omega) _ _
  have b2 : Blk w3 (w.heap.size + 1 + 1) #[.nilIface] 50 := by rw [← hw3]; exact hb2.other (by omega) _ _
  clear c0 f0
  have r2 : w3.cell? ⟨w.heap.size + 1 + 1 + 1, 2, none⟩ = some (.int .i64 0) := rd3.cell 2
  have r3 : w3.cell? ⟨w.heap.size + 1 + 1 + 1, 3, none⟩ = some (.int .i64 0) := rd3.cell 3
  have c0 : w3.cell? ⟨w.heap.size, 0, none⟩ = some (.pointer (some ⟨tb, 0, none⟩)) := b0.cell 0
  have c1 : w3.cell? ⟨w.heap.size + 1, 0, none⟩ = some (.int .i64 0) := b1.cell 0
  have c2 : w3.cell? ⟨w.heap.size + 1 + 1, 0, none⟩ = some .nilIface := b2.cell 0
  have f0 : w3.frozen? ⟨w.heap.size, 0, none⟩ = false := b0.free 0
  have f1 : w3.frozen? ⟨w.heap.size + 1, 0, none⟩ = false := b1.free 0
  have f2 : w3.frozen? ⟨w.heap.size + 1 + 1, 0, none⟩ = false := b2.free 0
  have Hw3 := Lib.hid hw3
  clear hw3
  go_quiet ((go_at_call 60; exact Calls.quiet_of (more_no (w.heap.size + 1 + 1 + 1) _ (6 * m) cap _ (rd3.cell 0) (rd3.cell 1))))
  go_wp2_with (fail)
  go_region
  all_goals go_wp2_with (fail)
  all_goals
    refine leaves_cons (f := 58) (args := #[.pointer (some ⟨w.heap.size, 0, none⟩), .pointer (some ⟨w.heap.size + 1, 0, none⟩), .pointer (some ⟨w.heap.size + 1 + 1, 0, none⟩)]) (by simp) (by simp [go_sem]) ?_
    refine (read1_idle _ _ _ _).mono ?_
    rintro e u' w'' ⟨rfl, rfl, rfl⟩
    generalize hW4 : ((((w3.drewN (nq + 1)).setCell ⟨w.heap.size, 0, none⟩ (.pointer (some ⟨tb, 0, none⟩))).setCell ⟨w.heap.size + 1, 0, none⟩ (.int .i64 0)).setCell ⟨w.heap.size + 1 + 1, 0, none⟩ .nilIface) = W4
    have d0 : Blk W4 w.heap.size #[.pointer (some ⟨tb, 0, none⟩)] 89 := by rw [← hW4]; exact (((b0.drewN _).set 0 _).other (by omega) _ _).other (by omega) _ _
    have d1 : Blk W4 (w.heap.size + 1) #[.int .i64 0] 3 := by rw [← hW4]; exact (((b1.drewN _).other (by omega) _ _).set 0 _).other (by omega) _ _
    have d2 : Blk W4 (w.heap.size + 1 + 1) #[.nilIface] 50 := by rw [← hW4]; exact (((b2.drewN _).other (by omega) _ _).other (by omega) _ _).set 0 _
    have e0 : W4.cell? ⟨w.heap.size, 0, none⟩ = some (.pointer (some ⟨tb, 0, none⟩)) := d0.cell 0
    have e1 : W4.cell? ⟨w.heap.size + 1, 0, none⟩ = some (.int .i64 0) := d1.cell 0
    have e2 : W4.cell? ⟨w.heap.size + 1 + 1, 0, none⟩ = some .nilIface := d2.cell 0
    have RB : RowB w.heap.size tb (fun i => hv (ds i) 4) v al W4 := by
      rw [← hW4, ← Hw3.out]
      exact ((((((R.toB.set _ (by omega) _ _).drewN _).set _ (by omega) _ _).set _ (by omega) _ _).set _ (by omega) _ _)).base (by omega)
    have FR : Fr (fun _ => False) w W4 := by
      rw [← hW4, ← Hw3.out]
      exact (((((R'.fr.mono (fun k hk e => by omega)).setNew _ _ _ (by omega)).drewN _).setNew _ _ _ (by omega)).setNew _ _ _ (by omega)).setNew _ _ _ (by omega)
    refine ⟨_, ?_, tb, v, al, rfl, hlen, RB, FR⟩
    simp [results, Tryz.results39, go_sem, e0, e1, e2]

end Go.Proofs.YtkdnpaohlepjbaaGreatDoor
