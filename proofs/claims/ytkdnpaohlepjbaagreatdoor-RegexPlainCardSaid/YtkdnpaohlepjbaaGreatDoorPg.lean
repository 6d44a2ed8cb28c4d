/-
  The reader takes one alternative of escapes for a sequence. Conditions: at most 300 escapes.
-/
import Derived.Test.YtkdnpaohlepjbaaGreatDoorPf
import Derived.Defers
import Derived.Recover
namespace Go.Proofs.YtkdnpaohlepjbaaGreatDoor
open Go.RowKit

theorem any1_d (bx r : Nat) (d : Int) (w : World) (hb : w.cell? ⟨bx, 0, none⟩ = some (.pointer (some ⟨r, 0, none⟩))) (h5 : w.cell? ⟨r, 5, none⟩ = some (.int .i64 d)) (f5 : w.frozen? ⟨r, 5, none⟩ = false)
    (hd0 : 0 ≤ d) (hd1 : d ≤ 1000) :
    CallsD Tryz.prog 85 #[.pointer (some ⟨bx, 0, none⟩)] .returning w fun e u' w' => u' = .returning ∧ (e = .returned (.tuple #[]) ∧ w' = w.setCell ⟨r, 5, none⟩ (.int .i64 (d - 1))) := by
  go_enter_d Tryz.func85, Tryz.ntmps85
  go_wp2
  go_end0
  exact ⟨rfl, rfl⟩

/-- A row of terms, read: without its reader. -/
structure RowRes (w0 : World) (r tb : Nat) (u : Nat → Nat) (v : Value) (al : List Nat) (w : World) : Prop where
  sq : Blk w tb (seqCells v) 133
  own : w.ownsRow w0.heap.size 89 1 v al.length (al.map ptrTo)
  kid : ∀ i (h : i < al.length), Blk w al[i] (charCells (u i : Nat)) 133
  new : ∀ a ∈ al, w0.heap.size ≤ a ∧ a ≠ tb ∧ v.ownBlock ≠ some a
  vtb : v.ownBlock ≠ some tb
  tbn : w0.heap.size ≤ tb
  fr : Fr (· = r) w0 w

theorem own_base {w : World} {base base' size n : Nat} {e : TypeId} {v : Value} {xs : List Value} (h : w.ownsRow base e size v n xs) (hb : base' ≤ base) : w.ownsRow base' e size v n xs := by
  refine ⟨h.1, ?_⟩
  rcases h.2 with hn | ⟨g, cap, cur, h0, h1, h2, rest⟩
  · exact .inl hn
  · exact .inr ⟨g, cap, cur, h0, Nat.le_trans hb h1, h2, rest⟩

theorem RowInv.res {w00 w0 w : World} {r : Nat} {a : Option Addr} {n cap tb : Nat} {u : Nat → Nat} {v : Value} {al : List Nat} (I : RowInv w0 r a n cap tb u v al w) (hf : Fr (· = r) w00 w0) : RowRes w00 r tb u v al w :=
  ⟨I.sq, own_base I.own hf.size, I.kid, fun a ha => ⟨Nat.le_trans hf.size (I.new a ha).1, (I.new a ha).2⟩, I.vtb, Nat.le_trans hf.size I.tbn, hf.trans I.fr⟩
theorem RowRes.drewN {w0 w : World} {r tb : Nat} {u : Nat → Nat} {v : Value} {al : List Nat} (I : RowRes w0 r tb u v al w) (q : Nat) : RowRes w0 r tb u v al (w.drewN q) :=
  ⟨I.sq, own_keep I.own fun _ _ => rfl, I.kid, I.new, I.vtb, I.tbn, I.fr.drewN q⟩
theorem RowRes.setR {w0 w : World} {r tb : Nat} {u : Nat → Nat} {v : Value} {al : List Nat} (I : RowRes w0 r tb u v al w) (hr : r < w0.heap.size) (i : Nat) (x : Value) : RowRes w0 r tb u v al (w.setCell ⟨r, i, none⟩ x) := by
  have htb := I.tbn
  refine ⟨I.sq.other (by omega) _ _, own_set I.own _ _ (fun e => ?_), fun j h => (I.kid j h).other ?_ _ _, I.new, I.vtb, I.tbn, I.fr.setCell _ (fun _ => rfl) _⟩
  · have h' : r < w0.heap.size := hr
    have := (I.own.lt _ e).1
    simp at this
    omega
  · have := (I.new _ (List.getElem_mem h)).1
    omega
theorem RowRes.ext {w00 w0 w : World} {r tb : Nat} {u : Nat → Nat} {v : Value} {al : List Nat} (I : RowRes w0 r tb u v al w) (hf : Fr (· = r) w00 w0) : RowRes w00 r tb u v al w :=
  ⟨I.sq, own_base I.own hf.size, I.kid, fun a ha => ⟨Nat.le_trans hf.size (I.new a ha).1, (I.new a ha).2⟩, I.vtb, Nat.le_trans hf.size I.tbn, hf.trans I.fr⟩

set_option maxRecDepth 100000 in
set_option maxHeartbeats 1600000 in
theorem any_u (r : Nat) (a : Option Addr) (cap m : Nat) (ds : Nat → Nat → Nat) (w : World) (hm : m ≤ 300)
    (cur : Array Value) (hl : 0 < m → ∃ lb, a = some ⟨lb, 0, none⟩ ∧ lb ≠ r ∧ Blk w lb cur 37) (hr : Blk w r (rdCells a (6 * m) cap 0 0 0 0 0) 125) (hpu : PatUnits cur m ds) :
    Calls Tryz.prog 59 #[.pointer (some ⟨r, 0, none⟩)] w fun e w' => ∃ tb v al, e = .returned (.pointer (some ⟨tb, 0, none⟩)) ∧
      al.length = m ∧ Blk w' r (rdCells a (6 * m) cap (6 * m) 0 0 m 0) 125 ∧ RowRes w r tb (fun i => hv (ds i) 4) v al w' := by
  have hmf : ∀ (fn : Fn) (first cap : Array Value) (w : World), (Instr.makeFunc fn first cap).run Tryz.prog w = .ok (.func fn first cap) w := fun _ _ _ _ => rfl
  have hrl := hr.lt
  have h5 : w.cell? ⟨r, 5, none⟩ = some (.int .i64 0) := hr.cell 5
  have f5 : w.frozen? ⟨r, 5, none⟩ = false := hr.free 5
  go_enter_defers Tryz.func59, Tryz.ntmps59
  go_wp2_with (fail)
  have W1r : Blk ((w.setCell ⟨r, 5, none⟩ (.int .i64 1)).alloc (.cells #[.pointer (some ⟨r, 0, none⟩)] 123)) r (rdCells a (6 * m) cap 0 0 0 0 1) 125 := (hr.set 5 _).alloc _
  have W1l : 0 < m → ∃ lb, a = some ⟨lb, 0, none⟩ ∧ lb ≠ r ∧ Blk ((w.setCell ⟨r, 5, none⟩ (.int .i64 1)).alloc (.cells #[.pointer (some ⟨r, 0, none⟩)] 123)) lb cur 37 := fun h0 => by
    obtain ⟨lb, e, hne, h⟩ := hl h0
    exact ⟨lb, e, hne, (h.other (Ne.symm hne) _ _).alloc _⟩
  have W1b : Blk ((w.setCell ⟨r, 5, none⟩ (.int .i64 1)).alloc (.cells #[.pointer (some ⟨r, 0, none⟩)] 123)) w.heap.size #[.pointer (some ⟨r, 0, none⟩)] 123 := by
    have h := Blk.new (w.setCell ⟨r, 5, none⟩ (.int .i64 1)) #[.pointer (some ⟨r, 0, none⟩)] 123
    rwa [World.size_setCell] at h
  have W1f : Fr (· = r) w ((w.setCell ⟨r, 5, none⟩ (.int .i64 1)).alloc (.cells #[.pointer (some ⟨r, 0, none⟩)] 123)) := ((Fr.refl (· = r) w).setCell _ (fun _ => rfl) _).alloc _
  refine (row_u r a cap m ds _ hm cur W1l W1r hpu).mono ?_
  rintro e w2 ⟨tb, v, al, rfl, hlen, I⟩
  have hb2 : Blk w2 w.heap.size #[.pointer (some ⟨r, 0, none⟩)] 123 := I.fr.blk W1b (by omega)
  have b0 : w2.cell? ⟨w.heap.size, 0, none⟩ = some (.pointer (some ⟨r, 0, none⟩)) := hb2.cell 0
  have rd := I.rd
  have R := I.res W1f
  rw [hlen] at rd
  have Hlen := Lib.hid hlen
  clear W1r W1l W1b W1f hlen h5 f5 hr hl I
  go_wp2_with (fail)
  refine (is_end r _ (6 * m) cap _ _ (rd.cell 0) (rd.cell 1)).mono ?_
  rintro e w3 ⟨rfl, q, rfl⟩
  go_wp2_with (fail)
  refine leaves_cons (f := 85) (args := #[.pointer (some ⟨w.heap.size, 0, none⟩)]) (by simp) (by simp [go_sem]) ?_
  refine (any1_d w.heap.size r 1 _ ((hb2.drewN q).cell 0) ((rd.drewN q).cell 5) ((rd.drewN q).free 5) (by omega) (by omega)).mono ?_
  rintro e u' w'' ⟨rfl, rfl, rfl⟩
  exact ⟨_, results_tmp rfl _ _ _, tb, v, al, rfl, Hlen.out, (rd.drewN q).set 5 _, (R.drewN q).setR hrl _ _⟩

end Go.Proofs.YtkdnpaohlepjbaaGreatDoor
