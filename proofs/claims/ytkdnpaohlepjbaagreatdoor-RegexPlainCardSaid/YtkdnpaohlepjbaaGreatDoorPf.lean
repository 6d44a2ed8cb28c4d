/-
  The reader takes a row of escapes for a row of terms. Conditions: at most 300 escapes.
-/
import Derived.Test.YtkdnpaohlepjbaaGreatDoorPd
import Derived.Deep.RegionLaw
import Derived.Deep.AppendLies
import Derived.Deep.LoopGhost
namespace Go.Proofs.YtkdnpaohlepjbaaGreatDoor
open Go.RowKit

theorem info89 : (Tryz.prog.info? 89).map (fun i => (i.zero, i.size, i.bytes)) = some (some (.pointer none), 1, 8) := by kernel_rfl

/-- The pattern's units, six a unit of the text. -/
structure PatUnits (cur : Array Value) (m : Nat) (ds : Nat → Nat → Nat) : Prop where
  dig : ∀ i, i < m → ∀ j, j < 4 → ds i j < 16
  bs : ∀ i, i < m → cur[6 * i]? = some (.int .u16 92)
  uu : ∀ i, i < m → cur[6 * i + 1]? = some (.int .u16 117)
  hx : ∀ i, i < m → ∀ j, j < 4 → cur[6 * i + 1 + 1 + j]? = some (.int .u16 (hx (ds i j)))

/-- A term that is a row of terms. -/
def seqCells (v : Value) : Array Value :=
  #[.int .i64 10, .int .u16 0, .slice none 0 0, .bool false, .int .i64 0, v, .int .i64 0, .int .i64 0, .bool false, .int .i64 0, .int .i64 0]

def ptrTo (a : Nat) : Value := .pointer (some ⟨a, 0, none⟩)

/-- Behind some terms of a row. -/
structure RowInv (w0 : World) (r : Nat) (a : Option Addr) (n cap tb : Nat) (u : Nat → Nat) (v : Value) (al : List Nat) (w : World) : Prop where
  rd : Blk w r (rdCells a n cap (6 * al.length) 0 0 al.length 1) 125
  sq : Blk w tb (seqCells v) 133
  own : w.ownsRow w0.heap.size 89 1 v al.length (al.map ptrTo)
  kid : ∀ i (h : i < al.length), Blk w al[i] (charCells (u i : Nat)) 133
  new : ∀ a ∈ al, w0.heap.size ≤ a ∧ a ≠ tb ∧ v.ownBlock ≠ some a
  vtb : v.ownBlock ≠ some tb
  tbn : w0.heap.size ≤ tb
  fr : Fr (· = r) w0 w

theorem RowInv.drewN {w0 : World} {r : Nat} {a : Option Addr} {n cap tb : Nat} {u : Nat → Nat} {v : Value} {al : List Nat} {w : World} (I : RowInv w0 r a n cap tb u v al w) (q : Nat) : RowInv w0 r a n cap tb u v al (w.drewN q) :=
  ⟨I.rd, I.sq, own_keep I.own fun _ _ => rfl, I.kid, I.new, I.vtb, I.tbn, I.fr.drewN q⟩

theorem RowInv.step {w0 wq w2 w3 : World} {r : Nat} {a : Option Addr} {n cap tb ta gg cap' : Nat} {u : Nat → Nat} {v : Value} {al : List Nat} (I : RowInv w0 r a n cap tb u v al wq) (hrl : r < w0.heap.size)
    (hz : wq.heap.size ≤ ta) (hta : Blk w2 ta (charCells (u al.length : Nat)) 133) (hr2 : Blk w2 r (rdCells a n cap (6 * al.length + 6) 0 0 ((al.length : Int) + 1) 1) 125) (hf2 : Fr (· = r) wq.drew w2) (X : Obj)
    (hown3 : w3.ownsRow w0.heap.size 89 1 (.slice (some ⟨gg, 0, none⟩) (al.length + 1) cap') (al.length + 1) (al.map ptrTo ++ [ptrTo ta]))
    (hgrow : (w2.alloc X).grownBy w3 v.ownBlock) (hat : v.ownBlock = some gg ∨ gg = w2.heap.size + 1) :
    RowInv w0 r a n cap tb u (.slice (some ⟨gg, 0, none⟩) (al.length + 1) cap') (al ++ [ta]) (w3.setCell ⟨tb, 5, none⟩ (.slice (some ⟨gg, 0, none⟩) (al.length + 1) cap')) := by
  have fg := Fr.of_grown hgrow
  have hnr : ∀ g, v.ownBlock = some g → ¬ g = r := fun g hg e => by have := (I.own.lt g hg).1; omega
  have hntb : tb ≠ r := by have := I.tbn; omega
  have htb : tb < wq.heap.size := I.sq.lt
  have hs2 : wq.heap.size ≤ w2.heap.size := hf2.size
  have hown := I.own.lt
  have hnta : v.ownBlock ≠ some ta := fun e => by have := (hown _ e).2; omega
  have hvr : ¬ v.ownBlock = some r := fun e => hnr r e rfl
  have hgtb : gg ≠ tb := by
    rcases hat with h | h
    · exact fun e => I.vtb (by rw [h, e])
    · omega
  have sq2 := hf2.blk I.sq.drew hntb
  have hlen : ((al ++ [ta]).length) = al.length + 1 := by simp
  have hal : ∀ i (h : i < al.length), al[i] < wq.heap.size := fun i h => (I.kid i h).lt
  refine ⟨?_, ?_, ?_, ?_, ?_, ?_, I.tbn, ?_⟩
  · rw [hlen]
    exact (fg.blk (hr2.alloc _) hvr).other hntb _ _
  · exact (fg.blk (sq2.alloc _) I.vtb).set 5 _
  · rw [hlen, List.map_append]
    exact own_set hown3 _ _ (fun e => hgtb (Option.some.inj e))
  · intro i hi
    rw [hlen] at hi
    rcases Nat.lt_or_ge i al.length with h | h
    · rw [List.getElem_append_left h]
      have hm := I.new _ (List.getElem_mem h)
      refine (fg.blk ((hf2.blk (I.kid i h).drew ?_).alloc _) hm.2.2).other (Ne.symm hm.2.1) _ _
      have := hm.1
      omega
    · obtain rfl : i = al.length := by omega
      rw [List.getElem_append_right (Nat.le_refl _)]
      simp only [Nat.sub_self, List.getElem_cons_zero]
      exact (fg.blk (hta.alloc _) hnta).other (by omega) _ _
  · intro a ha
    rw [List.mem_append, List.mem_singleton] at ha
    rcases ha with ha | rfl
    · have hm := I.new a ha
      refine ⟨hm.1, hm.2.1, fun e => ?_⟩
      obtain rfl : gg = a := Option.some.inj e
      rcases hat with h | h
      · exact hm.2.2 h
      · obtain ⟨i, hi, e⟩ := List.getElem_of_mem ha
        have := hal i hi
        omega
    · have := I.fr.size
      refine ⟨by omega, by omega, fun e => ?_⟩
      obtain rfl : gg = a := Option.some.inj e
      rcases hat with h | h
      · exact hnta h
      · have := hta.lt
        omega
  · exact fun e => hgtb (Option.some.inj e)
  · refine (((I.fr.drew.trans hf2).alloc _).then fg (fun k hk e => ?_)).setCell _ (fun h => ?_) _
    · have := (hown _ e).1
      omega
    · have := I.tbn
      have h' : tb < w0.heap.size := h
      omega

set_option maxRecDepth 100000 in
set_option maxHeartbeats 3200000 in
theorem row_u (r : Nat) (a : Option Addr) (cap m : Nat) (ds : Nat → Nat → Nat) (w : World) (hm : m ≤ 300)
    (cur : Array Value) (hl : 0 < m → ∃ lb, a = some ⟨lb, 0, none⟩ ∧ lb ≠ r ∧ Blk w lb cur 37) (hr : Blk w r (rdCells a (6 * m) cap 0 0 0 0 1) 125) (hpu : PatUnits cur m ds) :
    Calls Tryz.prog 86 #[.pointer (some ⟨r, 0, none⟩)] w fun e w' => ∃ tb v al, e = .returned (.pointer (some ⟨tb, 0, none⟩)) ∧
      al.length = m ∧ RowInv w r a (6 * m) cap tb (fun i => hv (ds i) 4) v al w' := by
  obtain ⟨i0, hi0, hz0, hz1, hz2⟩ := info_parts info89
  have hrl := hr.lt
  go_enter Tryz.func86, Tryz.ntmps86
  go_wp2_with fail
  go_loopg [] m (fun k wr => ∃ v al, al.length + k = m ∧ RowInv w r a (6 * m) cap w.heap.size (fun i => hv (ds i) 4) v al wr)
  case atStart =>
    refine ⟨.slice none 0 0, [], by simp, ?_⟩
    exact ⟨hr.alloc _, Blk.new _ _ _, World.ownsRow_nil _ _ _ _, fun i h => by simp at h, fun a h => by simp at h, by simp [Value.ownBlock], Nat.le_refl _, (Fr.refl (· = r) w).alloc _⟩
  case round =>
    obtain ⟨v, al, hlen, I⟩ := hrel
    have rd := I.rd
    by_cases hk : gk = 0
    · have hlm : al.length = m := by omega
      rw [hlm] at rd
      have hlen' := Lib.hid hlm
      clear hlen hlm hk
      go_wp2_with (go_at_call 60; refine (more_no r _ (6 * m) cap _ (rd.cell 0) (rd.cell 1)).mono ?_; rintro e w' ⟨rfl, q, rfl⟩)
      go_ret
      exact ⟨_, v, al, rfl, hlen'.out, I.drewN q⟩
    · have hj : al.length < m := by omega
      obtain ⟨lb, rfl, hne, hl'⟩ := hl (by omega)
      clear hl
      have hlb : Blk wr lb cur 37 := I.fr.blk hl' hne
      clear hl'
      have hb := (hlb.cell (6 * al.length)).trans (hpu.bs _ hj)
      have hlt6 : 6 * al.length < 6 * m := by omega
      go_wp2_with (fail)
      refine (more_yes r _ (6 * m) cap _ _ hlt6 (rd.cell 0) (rd.cell 1)).mono ?_
      rintro e w' ⟨rfl, q, rfl⟩
      go_wp2_with (fail)
      refine (is_no r lb (6 * m) cap _ 92 _ _ hlt6 ((rd.drewN _).cell 0) ((rd.drewN _).cell 1) (((hlb.drewN _).cell _).trans (hpu.bs _ hj)) (by omega) (by omega) (by decide)).mono ?_
      rintro e w' ⟨rfl, q2, rfl⟩
      go_wp2_with (fail)
      refine (is_no r lb (6 * m) cap _ 92 _ _ hlt6 ((rd.drewN _).cell 0) ((rd.drewN _).cell 1) (((hlb.drewN _).cell _).trans (hpu.bs _ hj)) (by omega) (by omega) (by decide)).mono ?_
      rintro e w' ⟨rfl, q3, rfl⟩
      go_wp2_with (fail)
      have hpl : Plain cur (6 * m) (6 * al.length + 6) := by
        rcases Nat.lt_or_ge (al.length + 1) m with h | h
        · exact .inr ⟨by omega, by have := hpu.bs _ h; rwa [show 6 * (al.length + 1) = 6 * al.length + 6 by omega] at this⟩
        · exact .inl (by omega)
      have I2 := I.drewN (q + q2 + q3)
      have hlb2 := hlb.drewN (q + q2 + q3)
      clear I hlb rd hb hr
      generalize wr.drewN (q + q2 + q3) = wq at I2 hlb2 ⊢
      have h5 : wq.cell? ⟨w.heap.size, 5, none⟩ = some v := I2.sq.cell 5
      have hnr : ∀ g, v.ownBlock = some g → ¬ g = r := fun g hg e => by have := (I2.own.lt g hg).1; omega
      go_region_law (first
        | (go_simp; go_at_call 105; refine (term_u r lb (6 * m) cap (6 * al.length) 0 al.length 1 (ds al.length) _ (by omega) (by omega) hne (by omega) (by omega) (fun j hj' => hpu.dig _ hj j hj') cur hlb2.drew I2.rd.drew (hpu.bs _ hj) (hpu.uu _ hj) (fun i hi => hpu.hx _ hj i hi) hpl).mono ?_; rintro e w2 ⟨ta, rfl, hz, hta, hr2, hf2⟩; have own2 := own_fr (own_keep (w' := wq.drew) I2.own fun _ _ => rfl) hf2 hnr; have sq2 := hf2.blk I2.sq.drew (by omega); have fr2 := I2.fr.drew.trans hf2; have hsz2 := fr2.size; have sqlt := sq2.lt; have c52 : w2.cell? ⟨w.heap.size, 5, none⟩ = some v := sq2.cell 5)
        | ((refine step_append_lies _ (by rfl) _ _ _ (by rfl) w.heap.size 89 i0 _ 1 8 Tryz.underlying131 hi0 hz0 hz1 hz2 rfl (by omega) v al.length (al.map ptrTo) (by rfl) (own2.alloc _) ⟨w2.heap.size, 0, none⟩ 1 1 [ptrTo ta] (by rfl) (by rfl) (World.news_of_block (Blk.new w2 #[ptrTo ta] 89)) (by simp [ptrTo, Value.oneCell']) (by omega) (by unfold maxLen; omega) (by omega) (by simp; omega) (w2.heap.size + 1) (by simp) ?_; intro gg cap' w3 hown3 hgrow hat hlt; have hfz : w3.frozen? ⟨w.heap.size, 5, none⟩ = false := (hgrow.frozen_far ⟨w.heap.size, 5, none⟩ (by simp; omega) (Ne.symm I2.vtb)).trans ((sq2.alloc _).free 5); have hcz : w3.cell? ⟨w.heap.size, 5, none⟩ = some v := (hgrow.cell_far ⟨w.heap.size, 5, none⟩ (by simp; omega) (Ne.symm I2.vtb)).trans ((sq2.alloc _).cell 5))))
      all_goals go_wp2_with (fail)
      all_goals go_roundg (gk - 1)
      all_goals first
        | omega
        | exact ⟨_, al ++ [ta], by simp; omega, I2.step hrl hz hta hr2 hf2 _ hown3 hgrow hat⟩

end Go.Proofs.YtkdnpaohlepjbaaGreatDoor
