/-
  A run of the code at a place matches just where the units stand. Conditions: at most 300 units, a text of at most 2000.
-/
import Derived.Test.YtkdnpaohlepjbaaGreatDoorQa
import Derived.Test.YtkdnpaohlepjbaaGreatDoorPl
namespace Go.Proofs.YtkdnpaohlepjbaaGreatDoor
open Go.RowKit

/-- The text's units. -/
def TextAt (w : World) (a : Option Addr) (n : Nat) (f : Nat → Int) (t : Nat) : Prop := 0 < n → ∃ ob cur, a = some ⟨ob, 0, none⟩ ∧ ob ≠ t ∧ Blk w ob cur 37 ∧ ∀ k, k < n → cur[k]? = some (.int .u16 (f k))

/-- The code's instructions. -/
structure CodeAt (w : World) (pb gg ccap m : Nat) (us : Nat → Nat) (ccur : Array Value) : Prop where
  pat : Blk w pb (patCells (.slice (some ⟨gg, 0, none⟩) (m + 1) ccap) 0 0 false false false) 62
  blk : Blk w gg ccur 95
  cap : m + 1 ≤ ccap
  capm : ccap ≤ maxLen
  c0 : ∀ j, j < m → ccur[j * 4]? = some (.int .i64 0)
  c1 : ∀ j, j < m → ccur[j * 4 + 1]? = some (.int .i64 (us j))
  c2 : ∀ j, j < m → ccur[j * 4 + 2]? = some (.int .i64 0)
  c3 : ∀ j, j < m → ccur[j * 4 + 3]? = some (.pointer none)
  d0 : ccur[m * 4]? = some (.int .i64 17)
  d1 : ccur[m * 4 + 1]? = some (.int .i64 0)
  d2 : ccur[m * 4 + 2]? = some (.int .i64 0)
  d3 : ccur[m * 4 + 3]? = some (.pointer none)

theorem CodeAt.fr {w w' : World} {pb gg ccap m : Nat} {us : Nat → Nat} {ccur : Array Value} {S : Nat → Prop} (C : CodeAt w pb gg ccap m us ccur) (hf : Fr S w w') (h1 : ¬ S pb) (h2 : ¬ S gg) : CodeAt w' pb gg ccap m us ccur :=
  ⟨hf.blk C.pat h1, hf.blk C.blk h2, C.cap, C.capm, C.c0, C.c1, C.c2, C.c3, C.d0, C.d1, C.d2, C.d3⟩

/-- The units stand here. -/
def Mat (n : Nat) (f : Nat → Int) (us : Nat → Nat) (at_ j : Nat) : Prop := ∀ i, i < j → at_ + i < n ∧ f (at_ + i) = us i

set_option maxRecDepth 100000 in
set_option maxHeartbeats 3200000 in
theorem run_u (t pb gg ccap m n cap at_ : Nat) (us : Nat → Nat) (ccur : Array Value) (a : Option Addr) (f : Nat → Int) (caps tm st un : Value) (left : Int) (w : World)
    (C : CodeAt w pb gg ccap m us ccur) (T : TextAt w a n f t) (hus : ∀ i, us i ≤ 65535) (hm : m ≤ 300) (hn : n ≤ 2000) (hat : at_ ≤ n) (hpt : pb ≠ t) (hgt : gg ≠ t)
    (hb : Blk w t (tryCells pb (.slice a n cap) caps tm st un (.slice none 0 0) left) 112) (h0 : 1000 ≤ left) (h1 : left ≤ 2000000000) :
    Calls Tryz.prog 50 #[.pointer (some ⟨t, 0, none⟩), .int .i64 0, .int .i64 at_] w fun e w' => ∃ left' : Int, left - m ≤ left' ∧ left' ≤ left ∧
      ((Mat n f us at_ m ∧ e = .returned (.tuple #[.int .i64 (at_ + m : Nat), .bool true])) ∨ (¬ Mat n f us at_ m ∧ e = .returned (.tuple #[.int .i64 0, .bool false]))) ∧
      Blk w' t (tryCells pb (.slice a n cap) caps tm st un (.slice none 0 0) left') 112 ∧ Fr (· = t) w w' := by
  have h6 : w.cell? ⟨t, 6, none⟩ = some (.slice none 0 0) := hb.cell 6
  go_enter Tryz.func50, Tryz.ntmps50
  go_wp2_with fail
  go_loopg [1, 2] (m + 1) (fun gk pc at' wr => ∃ (j : Nat) (left' : Int), j ≤ m ∧ j + gk = m + 1 ∧ pc = .int .i64 j ∧ at' = .int .i64 (at_ + j : Nat) ∧ left - j ≤ left' ∧ left' ≤ left ∧
    Blk wr t (tryCells pb (.slice a n cap) caps tm st un (.slice none 0 0) left') 112 ∧ Fr (· = t) w wr ∧ Mat n f us at_ j)
  case atStart => exact ⟨0, left, by omega, by omega, rfl, rfl, by omega, by omega, hb, Fr.refl _ _, fun i h => by omega⟩
  case round =>
    obtain ⟨j, left', hjle, hj, rfl, rfl, hl1, hl2, hbj, hf, hmat⟩ := hrel
    have Cj := C.fr hf hpt hgt
    have Hmat := Lib.hid hmat
    have hcap := Cj.cap
    have hcm := Cj.capm
    unfold maxLen at hcm
    clear hmat
    by_cases hjm : j < m
    · have m0 : wr.cell? ⟨t, 0, none⟩ = some (.pointer (some ⟨pb, 0, none⟩)) := hbj.cell 0
      have p0 : wr.cell? ⟨pb, 0, none⟩ = some (.slice (some ⟨gg, 0, none⟩) (m + 1) ccap) := Cj.pat.cell 0
      have k0 : wr.cell? ⟨gg, j * 4, none⟩ = some (.int .i64 0) := (Cj.blk.cell _).trans (Cj.c0 j hjm)
      have k1 : wr.cell? ⟨gg, j * 4 + 1, none⟩ = some (.int .i64 (us j)) := (Cj.blk.cell _).trans (Cj.c1 j hjm)
      have k2 : wr.cell? ⟨gg, j * 4 + 2, none⟩ = some (.int .i64 0) := (Cj.blk.cell _).trans (Cj.c2 j hjm)
      have k3 : wr.cell? ⟨gg, j * 4 + 3, none⟩ = some (.pointer none) := (Cj.blk.cell _).trans (Cj.c3 j hjm)
      have hx := hus j
      have hA : at_ + j ≤ n := by
        rcases Nat.eq_zero_or_pos j with h | h
        · omega
        · have := (Hmat.out (j - 1) (by omega)).1
          omega
      have hjl := hbj.lt
      have hpl := Cj.pat.lt
      have hp3 := Cj.pat.cell 3
      have Hf := Lib.hid hf
      have hsplit : (∃ ob c, a = some ⟨ob, 0, none⟩ ∧ ob ≠ t ∧ at_ + j < n ∧ c = f (at_ + j) ∧ wr.cell? ⟨ob, at_ + j, none⟩ = some (.int .u16 c)) ∨ at_ + j = n := by
        rcases Nat.lt_or_ge (at_ + j) n with h | h
        · obtain ⟨ob, tc, e, ho, hB, hk⟩ := T (by omega)
          exact .inl ⟨ob, _, e, ho, h, rfl, ((hf.blk hB ho).cell _).trans (hk _ h)⟩
        · exact .inr (by omega)
      clear T hus C hb hf h6
      generalize hAA : at_ + j = A at hsplit hA
      have HA := Lib.hid hAA
      generalize hU : us j = U at *
      have HU := Lib.hid hU
      clear hAA hU
      rcases hsplit with ⟨ob, c, rfl, ho, hAn, hcf, hcc⟩ | hAn
      · have Hcf := Lib.hid hcf
        clear hcf
        by_cases hq : c = U
        · have hqb : (c == (U : Int)) = true := beq_iff_eq.2 hq
          have Hq := Lib.hid hq
          clear hq
          go_wp2_with fail
          refine (atom_at t pb ob n cap A caps tm st un _ left' c U _ (hbj.alloc _) (by omega) (by omega) hAn (by omega) (by omega) (by omega) ho hpt (by rw [World.cell?_alloc_lt _ _ _ (World.block_lt_of_cell? wr _ hcc)]; exact hcc) ((Cj.pat.alloc _).cell 3)).mono ?_
          rintro e w2 ⟨rfl, hb2, hf2⟩
          rw [hqb]
          go_wp2_with fail
          go_roundg (gk - 1)
          case measure => omega
          case rel =>
            refine ⟨j + 1, left' - 1, by omega, by omega, by go_num, ?_, by omega, by omega, hb2, (Hf.out.alloc _).trans hf2, ?_⟩
            · have e1 : ((at_ + (j + 1) : Nat) : Int) = (A : Int) + 1 := by have := HA.out; omega
              rw [e1]
            · intro i hi
              rcases Nat.lt_or_ge i j with h | h
              · exact Hmat.out i h
              · obtain rfl : i = j := by omega
                rw [HA.out, HU.out]
                exact ⟨hAn, Hcf.out.symm.trans Hq.out⟩
        · have hqb : (c == (U : Int)) = false := beq_eq_false_iff_ne.2 hq
          have Hq := Lib.hid hq
          clear hq
          go_wp2_with fail
          refine (atom_at t pb ob n cap A caps tm st un _ left' c U _ (hbj.alloc _) (by omega) (by omega) hAn (by omega) (by omega) (by omega) ho hpt (by rw [World.cell?_alloc_lt _ _ _ (World.block_lt_of_cell? wr _ hcc)]; exact hcc) ((Cj.pat.alloc _).cell 3)).mono ?_
          rintro e w2 ⟨rfl, hb2, hf2⟩
          rw [hqb]
          go_wp2_with fail
          refine (fail_none t pb _ caps tm st un _ _ hb2).mono ?_
          rintro e w3 ⟨rfl, rfl⟩
          go_wp2_with fail
          go_ret2
          refine ⟨left' - 1, by omega, by omega, .inr ⟨fun hM => ?_, rfl⟩, hb2, (Hf.out.alloc _).trans hf2⟩
          have h := (hM j hjm).2
          rw [HA.out, HU.out] at h
          exact Hq.out (Hcf.out.trans h)
      · go_wp2_with fail
        subst hAn
        refine (atom_end t pb A cap a caps tm st un _ left' U _ (hbj.alloc _) (by omega) (by omega) (by omega)).mono ?_
        rintro e w2 ⟨rfl, hb2, hf2⟩
        go_wp2_with fail
        refine (fail_none t pb _ caps tm st un _ _ hb2).mono ?_
        rintro e w3 ⟨rfl, rfl⟩
        go_wp2_with fail
        go_ret2
        refine ⟨left' - 1, by omega, by omega, .inr ⟨fun hM => ?_, rfl⟩, hb2, (Hf.out.alloc _).trans hf2⟩
        have h := (hM j hjm).1
        rw [HA.out] at h
        omega
    · obtain rfl : j = m := by omega
      have m0 : wr.cell? ⟨t, 0, none⟩ = some (.pointer (some ⟨pb, 0, none⟩)) := hbj.cell 0
      have m6 : wr.cell? ⟨t, 6, none⟩ = some (.slice none 0 0) := hbj.cell 6
      have f6 : wr.frozen? ⟨t, 6, none⟩ = false := hbj.free 6
      have p0 : wr.cell? ⟨pb, 0, none⟩ = some (.slice (some ⟨gg, 0, none⟩) (j + 1) ccap) := Cj.pat.cell 0
      have k0 : wr.cell? ⟨gg, j * 4, none⟩ = some (.int .i64 17) := (Cj.blk.cell _).trans Cj.d0
      have k1 : wr.cell? ⟨gg, j * 4 + 1, none⟩ = some (.int .i64 0) := (Cj.blk.cell _).trans Cj.d1
      have k2 : wr.cell? ⟨gg, j * 4 + 2, none⟩ = some (.int .i64 0) := (Cj.blk.cell _).trans Cj.d2
      have k3 : wr.cell? ⟨gg, j * 4 + 3, none⟩ = some (.pointer none) := (Cj.blk.cell _).trans Cj.d3
      have hjl := hbj.lt
      have Hf := Lib.hid hf
      clear T hus C hb h6 hf
      go_wp2_with fail
      go_ret2
      exact ⟨left', by omega, by omega, .inl ⟨Hmat.out, rfl⟩, (hbj.set 6 _).alloc _, (Hf.out.setCell _ (fun _ => rfl) _).alloc _⟩

end Go.Proofs.YtkdnpaohlepjbaaGreatDoor
