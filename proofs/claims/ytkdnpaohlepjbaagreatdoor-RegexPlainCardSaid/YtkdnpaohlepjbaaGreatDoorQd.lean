/-
  The search finds the first place where the units stand, or none. Conditions: at most 300 units, a text of at most 2000.
-/
import Derived.Test.YtkdnpaohlepjbaaGreatDoorQb
import Derived.Test.YtkdnpaohlepjbaaGreatDoorQc
import Derived.Deep.DeepCutAuto
import Derived.Deep.RegionWith
import Derived.BigRegion
namespace Go.Proofs.YtkdnpaohlepjbaaGreatDoor
open Go.RowKit

set_option maxHeartbeats 800000 in
theorem search1_idle (cb eb sb mb kb t : Nat) (kv : Value) (left steps : Int) (w : World) (hs0 : 0 ≤ steps) (hs1 : steps ≤ 2000000000) (hl0 : 0 ≤ left) (hl1 : left ≤ steps)
    (hsb : w.cell? ⟨sb, 0, none⟩ = some (.int .i64 steps)) (hmb : w.cell? ⟨mb, 0, none⟩ = some (.pointer (some ⟨t, 0, none⟩))) (ht : w.cell? ⟨t, 7, none⟩ = some (.int .i64 left))
    (hk : Blk w kb #[kv] 3) :
    CallsD Tryz.prog 47 #[.pointer (some ⟨cb, 0, none⟩), .pointer (some ⟨eb, 0, none⟩), .pointer (some ⟨sb, 0, none⟩), .pointer (some ⟨mb, 0, none⟩), .pointer (some ⟨kb, 0, none⟩)] .returning w fun e u' w' => u' = .returning ∧ (e = .returned (.tuple #[]) ∧ w' = (w.setCell ⟨kb, 0, none⟩ (.int .i64 (steps - left))).drew) := by
  refine callsD_of_wpS Tryz.func47 rfl fun c₀ cs hu => ?_
  apply wpS_seq
  apply wpS_seq
  apply wpS_region
  simp [wpOpsS, go_sem, recoverD, hu, Tryz.ntmps47, Exit.thenS]
  apply wpS_seq
  apply wpS_region
  simp [wpOpsS, go_sem, recoverD, hu, Exit.thenS]
  refine wpS_cond (t := false) (by simp [Act.eval, Array.replicate]) ?_
  simp only [Bool.false_eq_true, if_false]
  refine wpS_of_wp (wp_skip ?_)
  simp only [Exit.thenS]
  refine wpS_of_wp ?_
  have e : (⟨#[.pointer (some ⟨cb, 0, none⟩), .pointer (some ⟨eb, 0, none⟩), .pointer (some ⟨sb, 0, none⟩), .pointer (some ⟨mb, 0, none⟩), .pointer (some ⟨kb, 0, none⟩)] ++
        ((((Array.replicate 22 undef).setIfInBounds 3 Value.nilIface).setIfInBounds 0 Value.nilIface).setIfInBounds 4 Value.nilIface).setIfInBounds 5 (Value.bool false), []⟩ : Act)
     = ⟨#[.pointer (some ⟨cb, 0, none⟩), .pointer (some ⟨eb, 0, none⟩), .pointer (some ⟨sb, 0, none⟩), .pointer (some ⟨mb, 0, none⟩), .pointer (some ⟨kb, 0, none⟩), .nilIface, undef, undef, .nilIface, .nilIface, .bool false, undef, undef, undef, undef, undef, undef, undef, undef, undef, undef, undef, undef, undef, undef, undef, undef], []⟩ := by kernel_rfl
  rw [e]
  clear e
  have k0 : w.cell? ⟨kb, 0, none⟩ = some kv := hk.cell 0
  have kf : w.frozen? ⟨kb, 0, none⟩ = false := hk.free 0
  go_region
  all_goals
    cases c₀
    simp_all [bodyPostS, results, Tryz.results47]

/-- What ends plainly may be walked without an eye on the other endings. -/
theorem wp_plainly {P : Program} {c : Code} {K : Act → World → Prop} {Q : Exit → Act → World → Prop} {a : Act} {w : World} (h : c.wp P (Exit.then K (fun _ _ _ => False)) a w) : c.wp P (Exit.then K Q) a w :=
  wp_mono h fun e a w hq => by
    cases e with
    | normal => exact hq
    | _ => exact hq.elim

theorem four_1 (w : World) (cs : Array Value) (t : TypeId) (x y z : Obj) : Blk ((((w.alloc (.cells cs t)).alloc x).alloc y).alloc z) w.heap.size cs t := (((Blk.new w _ _).alloc _).alloc _).alloc _
theorem four_2 (w : World) (cs : Array Value) (t : TypeId) (x y z : Obj) : Blk ((((w.alloc x).alloc (.cells cs t)).alloc y).alloc z) (w.heap.size + 1) cs t := by
  have h := Blk.new (w.alloc x) cs t
  rw [World.size_alloc] at h
  exact (h.alloc _).alloc _
theorem four_3 (w : World) (cs : Array Value) (t : TypeId) (x y z : Obj) : Blk ((((w.alloc x).alloc y).alloc (.cells cs t)).alloc z) (w.heap.size + 1 + 1) cs t := by
  have h := Blk.new ((w.alloc x).alloc y) cs t
  rw [World.size_alloc, World.size_alloc] at h
  exact h.alloc _
theorem four_4 (w : World) (cs : Array Value) (t : TypeId) (x y z : Obj) : Blk ((((w.alloc x).alloc y).alloc z).alloc (.cells cs t)) (w.heap.size + 1 + 1 + 1) cs t := by
  have h := Blk.new (((w.alloc x).alloc y).alloc z) cs t
  rw [World.size_alloc, World.size_alloc, World.size_alloc] at h
  exact h

theorem TextAt.fr {w w' : World} {a : Option Addr} {n t : Nat} {f : Nat → Int} (T : TextAt w a n f w.heap.size) (h : Fr (fun _ => False) w w') (ht : w.heap.size + 4 ≤ t) : TextAt w' a n f t := fun h0 => by
  obtain ⟨ob, cur, e, _, B, hc⟩ := T h0
  have := B.lt
  exact ⟨ob, cur, e, by omega, h.blk B (fun h => h), hc⟩

set_option maxRecDepth 100000 in
set_option maxHeartbeats 3200000 in
theorem search_u (pb gg ccap m n cap st : Nat) (us : Nat → Nat) (ccur : Array Value) (a : Option Addr) (f : Nat → Int) (w : World)
    (C : CodeAt w pb gg ccap m us ccur) (T : TextAt w a n f w.heap.size) (hus : ∀ i, us i ≤ 65535) (hm : m ≤ 300) (hn : n ≤ 2000) (hst : st ≤ n) :
    Calls Tryz.prog 34 #[.pointer (some ⟨pb, 0, none⟩), .slice a n cap, .int .i64 st, .int .i64 n, .int .i64 1073741824] w fun e w' => ∃ took : Int,
      (((∀ k, st ≤ k → k ≤ n → ¬ Mat n f us k m) ∧ e = .returned (.tuple #[.slice none 0 0, .int .i64 took, .nilIface])) ∨
       (∃ k cb, st ≤ k ∧ k ≤ n ∧ Mat n f us k m ∧ (∀ i, st ≤ i → i < k → ¬ Mat n f us i m) ∧ w.heap.size ≤ cb ∧ Blk w' cb #[.int .i64 k, .int .i64 (k + m : Nat)] 3 ∧
          e = .returned (.tuple #[.slice (some ⟨cb, 0, none⟩) 2 2, .int .i64 took, .nilIface]))) ∧ Fr (fun _ => False) w w' := by
  have hmf : ∀ (fn : Fn) (first cap : Array Value) (w : World), (Instr.makeFunc fn first cap).run Tryz.prog w = .ok (.func fn first cap) w := fun _ _ _ _ => rfl
  have hmk : ∀ w, (Instr.makeSlice 39 (.int .i64 0) (.int .i64 0)).run Tryz.prog w = .ok (.slice (some ⟨w.heap.size, 0, none⟩) 0 0) (w.alloc (.cells #[] 3)) := fun _ => by kernel_rfl
  have p2 : w.cell? ⟨pb, 2, none⟩ = some (.int .i64 0) := C.pat.cell 2
  have hpl := C.pat.lt
  go_enter_defers Tryz.func34, Tryz.ntmps34
  go_upto_region 1 with fail
  generalize hW : ((((w.alloc (.cells #[.int .i64 1073741824] 3)).alloc (.cells #[.slice none 0 0] 39)).alloc (.cells #[.int .i64 0] 3)).alloc (.cells #[.nilIface] 50)) = W
  have W0 : Blk W w.heap.size #[.int .i64 1073741824] 3 := by rw [← hW]; exact (((Blk.new w _ _).alloc _).alloc _).alloc _
  have W1 : Blk W (w.heap.size + 1) #[.slice none 0 0] 39 := by rw [← hW]; exact ((two_blocks w _ _ _ _).alloc _).alloc _
  have W2 : Blk W (w.heap.size + 1 + 1) #[.int .i64 0] 3 := by
    have h := Blk.new ((w.alloc (.cells #[.int .i64 1073741824] 3)).alloc (.cells #[.slice none 0 0] 39)) #[.int .i64 0] 3
    rw [World.size_alloc, World.size_alloc] at h
    rw [← hW]; exact h.alloc _
  have W3 : Blk W (w.heap.size + 1 + 1 + 1) #[.nilIface] 50 := by
    have h := Blk.new (((w.alloc (.cells #[.int .i64 1073741824] 3)).alloc (.cells #[.slice none 0 0] 39)).alloc (.cells #[.int .i64 0] 3)) #[.nilIface] 50
    rw [World.size_alloc, World.size_alloc, World.size_alloc] at h
    rw [← hW]; exact h
  have Wf : Fr (fun _ => False) w W := by rw [← hW]; exact ((((Fr.refl _ w).alloc _).alloc _).alloc _).alloc _
  have CW := C.fr Wf (fun h => h) (fun h => h)
  have pW : W.cell? ⟨pb, 2, none⟩ = some (.int .i64 0) := CW.pat.cell 2
  have sW : W.cell? ⟨w.heap.size, 0, none⟩ = some (.int .i64 1073741824) := W0.cell 0
  have lW := CW.pat.lt
  have l0 := W0.lt
  have l3 := W3.lt
  have l01 : w.heap.size < W.heap.size + 1 := by omega
  have l02 : w.heap.size < W.heap.size + 1 + 1 := by omega
  have l03 : w.heap.size < W.heap.size + 1 + 1 + 1 := by omega
  have lW1 : pb < W.heap.size + 1 := by omega
  have lW2 : pb < W.heap.size + 1 + 1 := by omega
  have lW3 : pb < W.heap.size + 1 + 1 + 1 := by omega
  clear hW
  go_cut [13] from 18 to 33 (fun s13 wx => ∃ (mb t tm st : Nat), s13 = .pointer (some ⟨mb, 0, none⟩) ∧ w.heap.size + 4 ≤ mb ∧ w.heap.size + 4 ≤ t ∧ mb ≠ t ∧ Blk wx mb #[.pointer (some ⟨t, 0, none⟩)] 108 ∧
    Blk wx t (tryCells pb (.slice a n cap) (.slice none 0 0) (.slice (some ⟨tm, 0, none⟩) 0 0) (.slice (some ⟨st, 0, none⟩) 0 0) (.slice none 0 0) (.slice none 0 0) 1073741824) 112 ∧
    Blk wx w.heap.size #[.int .i64 1073741824] 3 ∧ Blk wx (w.heap.size + 1) #[.slice none 0 0] 39 ∧ Blk wx (w.heap.size + 1 + 1) #[.int .i64 0] 3 ∧ Blk wx (w.heap.size + 1 + 1 + 1) #[.nilIface] 50 ∧ Fr (fun _ => False) w wx)
  case first =>
    clear C T hmf CW
    refine wp_plainly ?_
    go_region
    all_goals (first | (go_step; go_step; go_meet) | (go_step; go_meet) | go_meet)
    all_goals
      apply Exists.intro; apply Exists.intro; apply Exists.intro; apply Exists.intro
      refine ⟨rfl, ?_, ?_, ?_, ?_, ?_, ?_, ?_, ?_, ?_, ?_⟩
      rotate_left 3
      · first
          | exact (four_4 W _ _ _ _ _).drew
          | exact ((four_3 W _ _ _ _ _)).drew
          | exact ((four_2 W _ _ _ _ _)).drew
          | exact ((four_1 W _ _ _ _ _)).drew
      · first
          | exact (four_4 W _ _ _ _ _).drew
          | exact ((four_3 W _ _ _ _ _)).drew
          | exact ((four_2 W _ _ _ _ _)).drew
          | exact ((four_1 W _ _ _ _ _)).drew
      · exact ((((W0.alloc _).alloc _).alloc _).alloc _).drew
      · exact ((((W1.alloc _).alloc _).alloc _).alloc _).drew
      · exact ((((W2.alloc _).alloc _).alloc _).alloc _).drew
      · exact ((((W3.alloc _).alloc _).alloc _).alloc _).drew
      · exact ((((Wf.alloc _).alloc _).alloc _).alloc _).drew
      all_goals omega
  case rest =>
    obtain ⟨mb, t, tm, sr, rfl, hmb, htz, hmt, hm0, ht, hs0, hc0, hk0, he0, hwf⟩ := hcut
    have Cc := C.fr hwf (fun h => h) (fun h => h)
    have hggl := C.blk.lt
    clear W0 W1 W2 W3 CW pW sW lW l01 l02 l03 lW1 lW2 lW3 p2
    go_wp2_with fail
    go_loopg [14] (n + 1 - st) (fun gk at' wr => ∃ (k : Nat) (left : Int) (caps : Value), st ≤ k ∧ k + gk = n + 1 ∧ at' = .int .i64 k ∧ Blk wr mb #[.pointer (some ⟨t, 0, none⟩)] 108 ∧
      Blk wr t (tryCells pb (.slice a n cap) caps (.slice (some ⟨tm, 0, none⟩) 0 0) (.slice (some ⟨sr, 0, none⟩) 0 0) (.slice none 0 0) (.slice none 0 0) left) 112 ∧
      1073741824 - ((k : Int) - st) * 301 ≤ left ∧ left ≤ 1073741824 ∧
      Blk wr w.heap.size #[.int .i64 1073741824] 3 ∧ Blk wr (w.heap.size + 1) #[.slice none 0 0] 39 ∧ Blk wr (w.heap.size + 1 + 1) #[.int .i64 0] 3 ∧ Blk wr (w.heap.size + 1 + 1 + 1) #[.nilIface] 50 ∧
      Fr (fun _ => False) w wr ∧ ∀ i, st ≤ i → i < k → ¬ Mat n f us i m)
    case atStart => exact ⟨st, 1073741824, _, by omega, by omega, rfl, hm0, ht, by omega, by omega, hs0, hc0, hk0, he0, hwf, fun i h1 h2 => by omega⟩
    case round =>
      obtain ⟨k, left, caps, hk1, hk2, rfl, gm, gt, hl1, hl2, gs, gc, gk', ge, gf, hno⟩ := hrel
      have Hno := Lib.hid hno
      clear hno hm0 ht hs0 hc0 hk0 he0 hwf Cc
      have Cr := C.fr gf (fun h => h) (fun h => h)
      have gkl := gk'.lt
      have gel := ge.lt
      by_cases hg : gk = 0
      · have hkn : ¬ (k : Int) ≤ n := by omega
        have z1 : wr.cell? ⟨w.heap.size + 1, 0, none⟩ = some (.slice none 0 0) := gc.cell 0
        have z2 : wr.cell? ⟨w.heap.size + 1 + 1, 0, none⟩ = some (.int .i64 0) := gk'.cell 0
        have z3 : wr.cell? ⟨w.heap.size + 1 + 1 + 1, 0, none⟩ = some .nilIface := ge.cell 0
        have y1 : wr.frozen? ⟨w.heap.size + 1, 0, none⟩ = false := gc.free 0
        have y2 : wr.frozen? ⟨w.heap.size + 1 + 1, 0, none⟩ = false := gk'.free 0
        have y3 : wr.frozen? ⟨w.heap.size + 1 + 1 + 1, 0, none⟩ = false := ge.free 0
        go_wp2_with fail
        generalize hW4 : (((wr.setCell ⟨w.heap.size + 1, 0, none⟩ (.slice none 0 0)).setCell ⟨w.heap.size + 1 + 1, 0, none⟩ (.int .i64 0)).setCell ⟨w.heap.size + 1 + 1 + 1, 0, none⟩ .nilIface) = W4
        have d0 : Blk W4 w.heap.size #[.int .i64 1073741824] 3 := by rw [← hW4]; exact ((gs.other (by omega) _ _).other (by omega) _ _).other (by omega) _ _
        have d1 : Blk W4 (w.heap.size + 1) #[(.slice none 0 0)] 39 := by rw [← hW4]; exact ((gc.set 0 _).other (by omega) _ _).other (by omega) _ _
        have d2 : Blk W4 (w.heap.size + 1 + 1) #[.int .i64 0] 3 := by rw [← hW4]; exact ((gk'.other (by omega) _ _).set 0 _).other (by omega) _ _
        have d3 : Blk W4 (w.heap.size + 1 + 1 + 1) #[.nilIface] 50 := by rw [← hW4]; exact ((ge.other (by omega) _ _).other (by omega) _ _).set 0 _
        have dm : Blk W4 mb #[.pointer (some ⟨t, 0, none⟩)] 108 := by rw [← hW4]; exact ((gm.other (by omega) _ _).other (by omega) _ _).other (by omega) _ _
        have dt : Blk W4 t (tryCells pb (.slice a n cap) caps (.slice (some ⟨tm, 0, none⟩) 0 0) (.slice (some ⟨sr, 0, none⟩) 0 0) (.slice none 0 0) (.slice none 0 0) left) 112 := by rw [← hW4]; exact ((gt.other (by omega) _ _).other (by omega) _ _).other (by omega) _ _
        have FR : Fr (fun _ => False) w W4 := by rw [← hW4]; exact ((gf.setNew _ _ _ (by omega)).setNew _ _ _ (by omega)).setNew _ _ _ (by omega)
        clear hW4
        refine leaves_cons (f := 47) (args := #[.pointer (some ⟨w.heap.size + 1, 0, none⟩), .pointer (some ⟨w.heap.size + 1 + 1 + 1, 0, none⟩), .pointer (some ⟨w.heap.size, 0, none⟩), .pointer (some ⟨mb, 0, none⟩), .pointer (some ⟨w.heap.size + 1 + 1, 0, none⟩)]) (by simp) (by simp [go_sem]) ?_
        refine (search1_idle _ _ _ _ _ t (.int .i64 0) (left) 1073741824 _ (by omega) (by omega) (by omega) (by omega) (d0.cell 0) (dm.cell 0) (dt.cell 7) d2).mono ?_
        rintro e u' w'' ⟨rfl, rfl, rfl⟩
        have e1 : (W4.setCell ⟨w.heap.size + 1 + 1, 0, none⟩ (.int .i64 (1073741824 - (left)))).drew.cell? ⟨w.heap.size + 1, 0, none⟩ = some ((.slice none 0 0)) := (d1.other (by omega) _ _).drew.cell 0
        have e2 : (W4.setCell ⟨w.heap.size + 1 + 1, 0, none⟩ (.int .i64 (1073741824 - (left)))).drew.cell? ⟨w.heap.size + 1 + 1, 0, none⟩ = some (.int .i64 (1073741824 - (left))) := (d2.set 0 _).drew.cell 0
        have e3 : (W4.setCell ⟨w.heap.size + 1 + 1, 0, none⟩ (.int .i64 (1073741824 - (left)))).drew.cell? ⟨w.heap.size + 1 + 1 + 1, 0, none⟩ = some .nilIface := (d3.other (by omega) _ _).drew.cell 0
        refine ⟨_, ?_, ⟨1073741824 - (left), .inl ⟨fun i h1 h2 => Hno.out i h1 (by omega), rfl⟩⟩, (FR.setNew _ _ _ (by omega)).drew⟩
        simp [results, Tryz.results34, go_sem, e1, e2, e3]
      · have hkn : (k : Int) ≤ n := by omega
        have b13 : wr.cell? ⟨mb, 0, none⟩ = some (.pointer (some ⟨t, 0, none⟩)) := gm.cell 0
        go_upto_region 7 with fail
        refine (step_any t pb _ _ _ _ _ _ left wr gt (by omega) (by omega)).mono ?_
        rintro e w2 ⟨rfl, hb2, hf2⟩
        have s2 := hf2.blk gs (by omega)
        have c2 := hf2.blk gc (by omega)
        have k2 := hf2.blk gk' (by omega)
        have e2 := hf2.blk ge (by omega)
        have m2 := hf2.blk gm hmt
        have F2 : Fr (fun _ => False) w w2 := gf.then hf2 (fun k hk h => by omega)
        have C2 := C.fr F2 (fun h => h) (fun h => h)
        clear gs gc gk' ge gm gt gf b13 hf2 Cr gkl gel
        go_upto_region 7 with fail
        go_cut [] from 36 to 114 (fun wx => ∃ (cb : Nat), w.heap.size ≤ cb ∧ cb ≠ t ∧ cb ≠ mb ∧ cb ≠ w.heap.size ∧ cb ≠ w.heap.size + 1 ∧ cb ≠ w.heap.size + 1 + 1 ∧ cb ≠ w.heap.size + 1 + 1 + 1 ∧ Blk wx cb #[.int .i64 (-1), .int .i64 (-1)] 3 ∧ Blk wx mb #[.pointer (some ⟨t, 0, none⟩)] 108 ∧
          Blk wx t (tryCells pb (.slice a n cap) (.slice (some ⟨cb, 0, none⟩) 2 2) (.slice (some ⟨tm, 0, none⟩) 0 0) (.slice (some ⟨sr, 0, none⟩) 0 0) (.slice none 0 0) (.slice none 0 0) (left - 1)) 112 ∧
          Fr (· = t) w2 wx)
        case first =>
          have p1 : w2.cell? ⟨pb, 1, none⟩ = some (.int .i64 0) := C2.pat.cell 1
          have m2c : w2.cell? ⟨mb, 0, none⟩ = some (.pointer (some ⟨t, 0, none⟩)) := m2.cell 0
          have hbl := hb2.lt
          have mbl := m2.lt
          have pbl := C2.pat.lt
          have hwz : IntKind.i64.wrap (IntKind.i64.wrap 0 + 2) = 2 := by kernel_rfl
          clear C T hmf hmk
          refine wp_plainly ?_
          go_region_with (go_at_call 49; (try rw [hwz]); refine (repeat_12 _ _ (Blk.new _ _ _).drew).mono ?_; rintro e w3 ⟨cb, rfl, hcb, b3, f3⟩; have m3 : w3.cell? ⟨mb, 0, none⟩ = some (.pointer (some ⟨t, 0, none⟩)) := (f3.blk (m2.alloc _).drew (fun h => h)).cell 0; have t3c := (f3.blk (hb2.alloc _).drew (fun h => h)).cell 2; have t3f : w3.frozen? ⟨t, 2, none⟩ = false := (f3.blk (hb2.alloc _).drew (fun h => h)).free 2; simp at hcb)
          all_goals (first | (go_step; go_step; go_meet) | (go_step; go_meet) | go_meet)
          all_goals
            refine ⟨_, ?_, ?_, ?_, ?_, ?_, ?_, ?_, b3.other ?_ _ _, (f3.blk (m2.alloc _).drew (fun h => h)).other ?_ _ _, (f3.blk (hb2.alloc _).drew (fun h => h)).set 2 _, ((((Fr.refl (fun x => x = t) w2).alloc _).drew.trans (f3.mono fun _ _ h => h.elim)).setCell _ (fun _ => rfl) _)⟩
            all_goals omega
        case rest =>
          obtain ⟨cb, hcb0, hcbt, hcbm, hcb1, hcb2, hcb3, hcb4, bc, m3, t3, f3⟩ := hcut
          have s3 := f3.blk s2 (by omega)
          have c3 := f3.blk c2 (by omega)
          have k3 := f3.blk k2 (by omega)
          have e3 := f3.blk e2 (by omega)
          have F3 : Fr (fun _ => False) w wc := F2.then f3 (fun k hk h => by omega)
          have C3 := C.fr F3 (fun h => h) (fun h => h)
          clear s2 c2 k2 e2 m2 hb2 F2 C2 f3
          go_upto_region 8 with fail
          go_cut [] from 36 to 114 (fun wx => Blk wx cb #[.int .i64 (-1), .int .i64 (-1)] 3 ∧ Blk wx mb #[.pointer (some ⟨t, 0, none⟩)] 108 ∧
            Blk wx t (tryCells pb (.slice a n cap) (.slice (some ⟨cb, 0, none⟩) 2 2) (.slice (some ⟨tm, 0, none⟩) 0 0) (.slice (some ⟨sr, 0, none⟩) 0 0) (.slice none 0 0) (.slice none 0 0) (left - 1)) 112 ∧
            Fr (· = t) wc wx)
          case first =>
            have m3c : wc.cell? ⟨mb, 0, none⟩ = some (.pointer (some ⟨t, 0, none⟩)) := m3.cell 0
            have t35 : wc.cell? ⟨t, 5, none⟩ = some (.slice none 0 0) := t3.cell 5
            have t36 : wc.cell? ⟨t, 6, none⟩ = some (.slice none 0 0) := t3.cell 6
            have f35 : wc.frozen? ⟨t, 5, none⟩ = false := t3.free 5
            have f36 : wc.frozen? ⟨t, 6, none⟩ = false := t3.free 6
            have htm : t ≠ mb := fun h => hmt h.symm
            clear C T hmf hmk
            refine wp_plainly ?_
            go_region
            all_goals (first | (go_step; go_step; go_meet) | (go_step; go_meet) | go_meet)
            all_goals
              refine ⟨?_, ?_, ?_, ?_⟩
              · exact (bc.drew.other (by omega) _ _).other (by omega) _ _
              · exact (m3.drew.other (by omega) _ _).other (by omega) _ _
              · first | exact (t3.drew.set 5 _).set 6 _ | exact (t3.drew.set 6 _).set 5 _
              · first | exact (((Fr.refl (fun x => x = t) wc).drew.setCell _ (fun _ => rfl) _).setCell _ (fun _ => rfl) _) | exact (((Fr.refl (fun x => x = t) wc).setCell _ (fun _ => rfl) _).setCell _ (fun _ => rfl) _).drew
          case rest =>
            obtain ⟨b4, m4, t4, f4⟩ := hcut
            have s4 := f4.blk s3 (by omega)
            have c4 := f4.blk c3 (by omega)
            have k4 := f4.blk k3 (by omega)
            have e4 := f4.blk e3 (by omega)
            have F4 := F3.then f4 (fun k hk h => by omega)
            have C4 := C.fr F4 (fun h => h) (fun h => h)
            have m4c : wc.cell? ⟨mb, 0, none⟩ = some (.pointer (some ⟨t, 0, none⟩)) := m4.cell 0
            have hgl4 := C4.blk.lt
            have T4 := T.fr F4 htz
            clear s3 c3 k3 e3 bc m3 t3 F3 C3 f4
            go_wp2_with fail
            refine (run_u t pb gg ccap m n cap k us ccur a f _ _ _ _ (left - 1) _ C4 T4 hus hm hn (by omega) (by omega) (by omega) t4 (by omega) (by omega)).mono ?_
            rintro e w5 ⟨left', hle1, hle2, hor, t5, f5⟩
            have s5 := f5.blk s4 (by omega)
            have c5 := f5.blk c4 (by omega)
            have k5 := f5.blk k4 (by omega)
            have e5 := f5.blk e4 (by omega)
            have m5 := f5.blk m4 hmt
            have b5 := f5.blk b4 hcbt
            have F5 : Fr (fun _ => False) w w5 := F4.then f5 (fun k hk h => by omega)
            clear s4 c4 k4 e4 b4 m4 t4 F4 C4 f5 T4 m4c
            rcases hor with ⟨hM, rfl⟩ | ⟨hM, rfl⟩
            · have HM := Lib.hid hM
              clear hM
              go_upto_region 11 with fail
              go_cut [] from 36 to 114 (fun wx => Blk wx cb #[.int .i64 k, .int .i64 (k + m : Nat)] 3 ∧ Blk wx mb #[.pointer (some ⟨t, 0, none⟩)] 108 ∧
                Blk wx t (tryCells pb (.slice a n cap) (.slice (some ⟨cb, 0, none⟩) 2 2) (.slice (some ⟨tm, 0, none⟩) 0 0) (.slice (some ⟨sr, 0, none⟩) 0 0) (.slice none 0 0) (.slice none 0 0) left') 112 ∧
                Fr (· = cb) w5 wx)
              case first =>
                have m5c : w5.cell? ⟨mb, 0, none⟩ = some (.pointer (some ⟨t, 0, none⟩)) := m5.cell 0
                have t5c : w5.cell? ⟨t, 2, none⟩ = some (.slice (some ⟨cb, 0, none⟩) 2 2) := t5.cell 2
                have b50 : w5.cell? ⟨cb, 0, none⟩ = some (.int .i64 (-1)) := b5.cell 0
                have b51 : w5.cell? ⟨cb, 1, none⟩ = some (.int .i64 (-1)) := b5.cell 1
                have g50 : w5.frozen? ⟨cb, 0, none⟩ = false := b5.free 0
                have g51 : w5.frozen? ⟨cb, 1, none⟩ = false := b5.free 1
                have hmc : mb ≠ cb := fun h => hcbm h.symm
                have htc : t ≠ cb := fun h => hcbt h.symm
                clear C T hmf hmk
                refine wp_plainly ?_
                go_region
                all_goals (first | (go_step; go_step; go_meet) | (go_step; go_meet) | go_meet)
                all_goals
                  refine ⟨?_, ?_, ?_, ?_⟩
                  · first | exact (b5.drew.set 0 _).set 1 _ | exact (b5.drew.set 1 _).set 0 _
                  · exact (m5.drew.other (by omega) _ _).other (by omega) _ _
                  · exact (t5.drew.other (by omega) _ _).other (by omega) _ _
                  · first | exact (((Fr.refl (fun x => x = cb) w5).drew.setCell _ (fun _ => rfl) _).setCell _ (fun _ => rfl) _) | exact (((Fr.refl (fun x => x = cb) w5).setCell _ (fun _ => rfl) _).setCell _ (fun _ => rfl) _).drew
              case rest =>
                obtain ⟨b6, m6, t6, f6⟩ := hcut
                have s6 := f6.blk s5 (by omega)
                have c6 := f6.blk c5 (by omega)
                have k6 := f6.blk k5 (by omega)
                have e6 := f6.blk e5 (by omega)
                have F6 : Fr (fun _ => False) w wc := F5.then f6 (fun k hk h => by omega)
                have k6l := k6.lt
                have e6l := e6.lt
                have C6 := C.fr F6 (fun h => h) (fun h => h)
                have p1 : wc.cell? ⟨pb, 1, none⟩ = some (.int .i64 0) := C6.pat.cell 1
                have m6c : wc.cell? ⟨mb, 0, none⟩ = some (.pointer (some ⟨t, 0, none⟩)) := m6.cell 0
                have t6c : wc.cell? ⟨t, 2, none⟩ = some (.slice (some ⟨cb, 0, none⟩) 2 2) := t6.cell 2
                clear s5 c5 k5 e5 b5 m5 t5 F5 f6
                go_wp2_with fail
                refine wp_loop_rounds 1 ?_
                rw [rounds_succ]
                have z1 : wc.cell? ⟨w.heap.size + 1, 0, none⟩ = some (.slice none 0 0) := c6.cell 0
                have z2 : wc.cell? ⟨w.heap.size + 1 + 1, 0, none⟩ = some (.int .i64 0) := k6.cell 0
                have z3 : wc.cell? ⟨w.heap.size + 1 + 1 + 1, 0, none⟩ = some .nilIface := e6.cell 0
                have y1 : wc.frozen? ⟨w.heap.size + 1, 0, none⟩ = false := c6.free 0
                have y2 : wc.frozen? ⟨w.heap.size + 1 + 1, 0, none⟩ = false := k6.free 0
                have y3 : wc.frozen? ⟨w.heap.size + 1 + 1 + 1, 0, none⟩ = false := e6.free 0
                go_wp2_with fail
                generalize hW4 : (((wc.setCell ⟨w.heap.size + 1, 0, none⟩ (.slice (some ⟨cb, 0, none⟩) 2 2)).setCell ⟨w.heap.size + 1 + 1, 0, none⟩ (.int .i64 0)).setCell ⟨w.heap.size + 1 + 1 + 1, 0, none⟩ .nilIface) = W4
                have d0 : Blk W4 w.heap.size #[.int .i64 1073741824] 3 := by rw [← hW4]; exact ((s6.other (by omega) _ _).other (by omega) _ _).other (by omega) _ _
                have d1 : Blk W4 (w.heap.size + 1) #[(.slice (some ⟨cb, 0, none⟩) 2 2)] 39 := by rw [← hW4]; exact ((c6.set 0 _).other (by omega) _ _).other (by omega) _ _
                have d2 : Blk W4 (w.heap.size + 1 + 1) #[.int .i64 0] 3 := by rw [← hW4]; exact ((k6.other (by omega) _ _).set 0 _).other (by omega) _ _
                have d3 : Blk W4 (w.heap.size + 1 + 1 + 1) #[.nilIface] 50 := by rw [← hW4]; exact ((e6.other (by omega) _ _).other (by omega) _ _).set 0 _
                have dm : Blk W4 mb #[.pointer (some ⟨t, 0, none⟩)] 108 := by rw [← hW4]; exact ((m6.other (by omega) _ _).other (by omega) _ _).other (by omega) _ _
                have dt : Blk W4 t (tryCells pb (.slice a n cap) (.slice (some ⟨cb, 0, none⟩) 2 2) (.slice (some ⟨tm, 0, none⟩) 0 0) (.slice (some ⟨sr, 0, none⟩) 0 0) (.slice none 0 0) (.slice none 0 0) left') 112 := by rw [← hW4]; exact ((t6.other (by omega) _ _).other (by omega) _ _).other (by omega) _ _
                have FR : Fr (fun _ => False) w W4 := by rw [← hW4]; exact ((F6.setNew _ _ _ (by omega)).setNew _ _ _ (by omega)).setNew _ _ _ (by omega)
                have b7 : Blk (W4.setCell ⟨w.heap.size + 1 + 1, 0, none⟩ (.int .i64 (1073741824 - (left')))).drew cb #[.int .i64 k, .int .i64 (k + m : Nat)] 3 := by rw [← hW4]; exact ((((b6.other (by omega) _ _).other (by omega) _ _).other (by omega) _ _).other (by omega) _ _).drew
                clear hW4
                refine leaves_cons (f := 47) (args := #[.pointer (some ⟨w.heap.size + 1, 0, none⟩), .pointer (some ⟨w.heap.size + 1 + 1 + 1, 0, none⟩), .pointer (some ⟨w.heap.size, 0, none⟩), .pointer (some ⟨mb, 0, none⟩), .pointer (some ⟨w.heap.size + 1 + 1, 0, none⟩)]) (by simp) (by simp [go_sem]) ?_
                refine (search1_idle _ _ _ _ _ t (.int .i64 0) (left') 1073741824 _ (by omega) (by omega) (by omega) (by omega) (d0.cell 0) (dm.cell 0) (dt.cell 7) d2).mono ?_
                rintro e u' w'' ⟨rfl, rfl, rfl⟩
                have e1 : (W4.setCell ⟨w.heap.size + 1 + 1, 0, none⟩ (.int .i64 (1073741824 - (left')))).drew.cell? ⟨w.heap.size + 1, 0, none⟩ = some ((.slice (some ⟨cb, 0, none⟩) 2 2)) := (d1.other (by omega) _ _).drew.cell 0
                have e2 : (W4.setCell ⟨w.heap.size + 1 + 1, 0, none⟩ (.int .i64 (1073741824 - (left')))).drew.cell? ⟨w.heap.size + 1 + 1, 0, none⟩ = some (.int .i64 (1073741824 - (left'))) := (d2.set 0 _).drew.cell 0
                have e3 : (W4.setCell ⟨w.heap.size + 1 + 1, 0, none⟩ (.int .i64 (1073741824 - (left')))).drew.cell? ⟨w.heap.size + 1 + 1 + 1, 0, none⟩ = some .nilIface := (d3.other (by omega) _ _).drew.cell 0
                refine ⟨_, ?_, 1073741824 - (left'), .inr ⟨k, cb, by omega, by omega, HM.out, fun i h1 h2 => Hno.out i h1 (by omega), hcb0, b7, rfl⟩, (FR.setNew _ _ _ (by omega)).drew⟩
                simp [results, Tryz.results34, go_sem, e1, e2, e3]
            · have HM := Lib.hid hM
              clear hM
              go_wp2_with fail
              go_roundg (gk - 1)
              case measure => omega
              case rel =>
                refine ⟨k + 1, left', _, by omega, by omega, by go_num, m5, t5, by omega, by omega, s5, c5, k5, e5, F5, fun i h1 h2 => ?_⟩
                rcases Nat.lt_or_ge i k with h | h
                · exact Hno.out i h1 h
                · obtain rfl : i = k := by omega
                  exact HM.out

end Go.Proofs.YtkdnpaohlepjbaaGreatDoor
