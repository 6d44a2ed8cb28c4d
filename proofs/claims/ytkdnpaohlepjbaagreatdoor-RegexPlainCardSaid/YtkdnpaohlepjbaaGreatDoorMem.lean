/-
  What a block of memory holds behind stores, draws and new blocks, and the frame of a call. Conditions: none. Over any program.
-/
import Derived.WalkKit
import Derived.WalkSpells
import Derived.Deep.Draws
namespace Go.Proofs.YtkdnpaohlepjbaaGreatDoor
open Go.RowKit

/-- Block b holds just these cells, of that type, none of them frozen. -/
def Blk (w : World) (b : Nat) (cs : Array Value) (t : TypeId) : Prop := w.heap[b]? = some (.cells cs t (0, 0))

section
variable {w w' w'' : World} {b c i : Nat} {cs : Array Value} {t : TypeId} {v : Value}

theorem Blk.lt (h : Blk w b cs t) : b < w.heap.size := (Array.getElem?_eq_some_iff.1 h).1
theorem Blk.cell (h : Blk w b cs t) (i : Nat) : w.cell? ⟨b, i, none⟩ = cs[i]? := by
  unfold Blk at h; simp [World.cell?, h]
theorem Blk.free (h : Blk w b cs t) (i : Nat) : w.frozen? ⟨b, i, none⟩ = false := by
  unfold Blk at h; simp [World.frozen?, h]
theorem Blk.drewN (h : Blk w b cs t) (n : Nat) : Blk (w.drewN n) b cs t := h
theorem Blk.drew (h : Blk w b cs t) : Blk w.drew b cs t := h
theorem Blk.alloc (h : Blk w b cs t) (o : Obj) : Blk (w.alloc o) b cs t := by
  have := h.lt
  unfold Blk at h ⊢
  rw [World.alloc, Array.getElem?_push_lt this]
  rw [Array.getElem?_eq_getElem this] at h
  exact h
theorem Blk.new (w : World) (cs : Array Value) (t : TypeId) : Blk (w.alloc (.cells cs t)) w.heap.size cs t :=
  heap_alloc_new w _
theorem Blk.set (h : Blk w b cs t) (i : Nat) (v : Value) : Blk (w.setCell ⟨b, i, none⟩ v) b (cs.setIfInBounds i v) t := by
  unfold Blk at h ⊢
  simp [World.setCell, Array.getElem?_modify, h]
theorem Blk.other (h : Blk w b cs t) (hb : c ≠ b) (i : Nat) (v : Value) : Blk (w.setCell ⟨c, i, none⟩ v) b cs t := by
  unfold Blk at h ⊢
  simp [World.setCell, Array.getElem?_modify, hb, h]

/-- w' is w but for new blocks, draws, and what lies in the blocks of S. -/
structure Fr (S : Nat → Prop) (w w' : World) : Prop where
  os : w'.os = w.os
  tape : w'.tape = w.tape
  output : w'.output = w.output
  size : w.heap.size ≤ w'.heap.size
  block : ∀ k, k < w.heap.size → ¬ S k → w'.heap[k]? = w.heap[k]?

variable {S T : Nat → Prop}
theorem Fr.refl (S : Nat → Prop) (w : World) : Fr S w w := ⟨rfl, rfl, rfl, Nat.le_refl _, fun _ _ _ => rfl⟩
theorem Fr.trans (h : Fr S w w') (k : Fr S w' w'') : Fr S w w'' :=
  ⟨k.os.trans h.os, k.tape.trans h.tape, k.output.trans h.output, Nat.le_trans h.size k.size, fun i hi hs => (k.block i (Nat.lt_of_lt_of_le hi h.size) hs).trans (h.block i hi hs)⟩
theorem Fr.mono (h : Fr S w w') (hs : ∀ k, k < w.heap.size → S k → T k) : Fr T w w' :=
  ⟨h.os, h.tape, h.output, h.size, fun k hk ht => h.block k hk (fun h => ht (hs k hk h))⟩
/-- The second part may turn what the first has made. -/
theorem Fr.then (h : Fr S w w') (k : Fr T w' w'') (hs : ∀ k, k < w.heap.size → T k → S k) : Fr S w w'' :=
  ⟨k.os.trans h.os, k.tape.trans h.tape, k.output.trans h.output, Nat.le_trans h.size k.size, fun i hi hn => (k.block i (Nat.lt_of_lt_of_le hi h.size) (fun ht => hn (hs i hi ht))).trans (h.block i hi hn)⟩
theorem Fr.drewN (h : Fr S w w') (n : Nat) : Fr S w (w'.drewN n) := ⟨h.os, h.tape, h.output, h.size, h.block⟩
theorem Fr.drew (h : Fr S w w') : Fr S w w'.drew := ⟨h.os, h.tape, h.output, h.size, h.block⟩
theorem Fr.alloc (h : Fr S w w') (o : Obj) : Fr S w (w'.alloc o) :=
  ⟨h.os, h.tape, h.output, by simp; have := h.size; omega, fun k hk hs => by
    have := h.size
    rw [World.alloc, Array.getElem?_push_lt (by omega), ← h.block k hk hs, Array.getElem?_eq_getElem (by omega)]⟩
theorem Fr.setCell (h : Fr S w w') (a : Addr) (ha : a.block < w.heap.size → S a.block) (v : Value) : Fr S w (w'.setCell a v) :=
  ⟨h.os, h.tape, h.output, by simpa using h.size, fun k hk hs => by
    have hne : k ≠ a.block := fun e => hs (by rw [e]; exact ha (by rw [← e]; exact hk))
    rw [Below.heap_setCell _ _ _ _ hne]
    exact h.block k hk hs⟩
theorem Fr.setNew (h : Fr S w w') (b i : Nat) (v : Value) (hb : w.heap.size ≤ b) : Fr S w (w'.setCell ⟨b, i, none⟩ v) :=
  h.setCell _ (fun hl => absurd (show b < w.heap.size from hl) (by omega)) _
theorem Fr.blk (h : Fr S w w') (hb : Blk w b cs t) (hs : ¬ S b) : Blk w' b cs t := (h.block b hb.lt hs).trans hb
theorem Fr.below {B : Nat} (h : Fr S w w') (hB : B ≤ w.heap.size) (hs : ∀ k, k < B → ¬ S k) : Below B w w' :=
  ⟨h.os, h.tape, h.output, h.size, fun k hk => h.block k (Nat.lt_of_lt_of_le hk hB) (hs k hk)⟩
theorem Fr.of_below {B : Nat} (h : Below B w w') : Fr (B ≤ ·) w w' :=
  ⟨h.os, h.tape, h.output, h.size, fun k _ hn => h.block k (Nat.lt_of_not_le hn)⟩
theorem Fr.of_grown {row : Option Nat} (h : w.grownBy w' row) : Fr (fun k => row = some k) w w' :=
  ⟨h.os, h.tape, h.output, h.size, fun k hk hs => h.block k hk (fun e => hs e.symm)⟩

/-- A row that a value owns is there in every world in which its block is as it was. -/
theorem own_keep {base size n : Nat} {e : TypeId} {xs : List Value} (h : w.ownsRow base e size v n xs) (hb : ∀ g, v.ownBlock = some g → w'.heap[g]? = w.heap[g]?) : w'.ownsRow base e size v n xs := by
  refine ⟨h.1, ?_⟩
  rcases h.2 with hn | ⟨g, cap, cur, rfl, h1, h2, rest⟩
  · exact .inl hn
  · exact .inr ⟨g, cap, cur, rfl, h1, (hb g rfl).trans h2, rest⟩
theorem own_fr {base size n : Nat} {e : TypeId} {xs : List Value} (h : w.ownsRow base e size v n xs) (hf : Fr S w w') (hs : ∀ g, v.ownBlock = some g → ¬ S g) : w'.ownsRow base e size v n xs :=
  own_keep h fun g hg => hf.block g (h.lt g hg).2 (hs g hg)
theorem own_set {base size n : Nat} {e : TypeId} {xs : List Value} (h : w.ownsRow base e size v n xs) (a : Addr) (u : Value) (hs : v.ownBlock ≠ some a.block) : (w.setCell a u).ownsRow base e size v n xs :=
  own_keep h fun g hg => Below.heap_setCell _ _ _ _ (fun e => hs (by rw [hg, e]))
end
end Go.Proofs.YtkdnpaohlepjbaaGreatDoor
