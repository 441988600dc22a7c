-- written by a program of this session's (xprint.py: a patched print); Lean checks it
import Derived.Test.YtnbjhfleoodncaaXx0
import Derived.Test.YtnbjhfleoodncaaXx1
namespace Go.Proofs.Ytnbjhfleoodncaa.X
open Go.RowKit Go.Proofs.YtnbjhfleoodncaaW.PrintWords Go.Proofs.YtnbjhfleoodncaaW.PrintLast Go.Proofs.YtnbjhfleoodncaaW.PrintMore
attribute [local go_sem] max2_int min2_int max_two min_two max_three min_three max_four min_four   -- for this text's walks alone
set_option linter.unusedVariables false
set_option linter.unusedSimpArgs false

/-! ### cruciblelaw12_maps: function 7 -/
mutual
def cruciblelaw12_maps.l0 : Nat → List (List Bool) → List Int → List (S38) → List (S43) → Int → Option ((List (S38)) × (List (S43)))
  | 0, _, _, _, _, _ => none
  | k + 1, x0, x1, x6, x7, x8 => if x8 < (x0.length : Int) then (cruciblelaw12_maps.j1 k x0 x1 x6 x7 x8 (decide (x8 < 5000))) else (cruciblelaw12_maps.j1 k x0 x1 x6 x7 x8 false)
def cruciblelaw12_maps.j1 : Nat → List (List Bool) → List Int → List (S38) → List (S43) → Int → Bool → Option ((List (S38)) × (List (S43)))
  | 0, _, _, _, _, _, _ => none
  | k + 1, x0, x1, x6, x7, x8, x18 => if x18 = true then (if 0 ≤ x8 then (if x8 < (x0.length : Int) then (if x8 < (x1.length : Int) then ((cruciblelaw12_pick.f (rd x1 x8) (wrap64 (((rd_L1 x0 x8).length : Int) + 1))).bind fun t124 => (if 0 ≤ t124 then (if t124 ≤ ((rd_L1 x0 x8).length : Int) then (if x6.length < 2932031007402 then (if x7.length < 2932031007402 then (cruciblelaw12_maps.l0 k x0 x1 (x6 ++ [(⟨((rd_L1 x0 x8).take (t124 : Int).toNat), ((rd_L1 x0 x8).drop (t124 : Int).toNat)⟩ : S38)]) (x7 ++ [(⟨((rd_L1 x0 x8).take (t124 : Int).toNat), ((rd_L1 x0 x8).drop (t124 : Int).toNat)⟩ : S43)]) (wrap64 (x8 + 1))) else (none)) else (none)) else (none)) else (none))) else (if 0 ≤ ((rd_L1 x0 x8).length : Int) then (if x6.length < 2932031007402 then (if x7.length < 2932031007402 then (cruciblelaw12_maps.l0 k x0 x1 (x6 ++ [(⟨((rd_L1 x0 x8).take 0), ((rd_L1 x0 x8).drop 0)⟩ : S38)]) (x7 ++ [(⟨((rd_L1 x0 x8).take 0), ((rd_L1 x0 x8).drop 0)⟩ : S43)]) (wrap64 (x8 + 1))) else (none)) else (none)) else (none))) else (none)) else (none)) else (some (x6, x7))
end
def cruciblelaw12_maps.f (k : Nat) (l0 : List (List Bool)) (l1 : List Int) : Option ((List (S38)) × (List (S43))) := cruciblelaw12_maps.l0 k l0 l1 ([] : List (S38)) ([] : List (S43)) 0
theorem cruciblelaw12_maps.mono_l : ∀ k, (∀ y0 y1 y2 y3 y4, LeO (cruciblelaw12_maps.l0 k y0 y1 y2 y3 y4) (cruciblelaw12_maps.l0 (k + 1) y0 y1 y2 y3 y4)) ∧ (∀ y0 y1 y2 y3 y4 y5, LeO (cruciblelaw12_maps.j1 k y0 y1 y2 y3 y4 y5) (cruciblelaw12_maps.j1 (k + 1) y0 y1 y2 y3 y4 y5))
  | 0 => ⟨fun _ _ _ _ _ r h => by simp [cruciblelaw12_maps.l0] at h, fun _ _ _ _ _ _ r h => by simp [cruciblelaw12_maps.j1] at h⟩
  | k + 1 => by
    obtain ⟨ih0, ih1⟩ := cruciblelaw12_maps.mono_l k
    refine ⟨?_, ?_⟩
    · intro y0 y1 y2 y3 y4
      unfold cruciblelaw12_maps.l0
      repeat' first
      | (with_reducible exact ih0 _ _ _ _ _)
      | (with_reducible exact ih1 _ _ _ _ _ _)
      | (with_reducible exact LeO.refl _)
      | (with_reducible exact LeO.none _)
      | (with_reducible refine LeO.ite ?_ ?_)
      | (with_reducible refine LeO.bind ?_ (fun _ => ?_))
      | exact ih0 _ _ _ _ _
      | exact ih1 _ _ _ _ _ _
      | exact LeO.none _
      | refine LeO.ite ?_ ?_
      | refine LeO.bind ?_ (fun _ => ?_)
    · intro y0 y1 y2 y3 y4 y5
      unfold cruciblelaw12_maps.j1
      repeat' first
      | (with_reducible exact ih0 _ _ _ _ _)
      | (with_reducible exact ih1 _ _ _ _ _ _)
      | (with_reducible exact LeO.refl _)
      | (with_reducible exact LeO.none _)
      | (with_reducible refine LeO.ite ?_ ?_)
      | (with_reducible refine LeO.bind ?_ (fun _ => ?_))
      | exact ih0 _ _ _ _ _
      | exact ih1 _ _ _ _ _ _
      | exact LeO.none _
      | refine LeO.ite ?_ ?_
      | refine LeO.bind ?_ (fun _ => ?_)
theorem cruciblelaw12_maps.mono : ∀ a0 a1 k, LeO (cruciblelaw12_maps.f k a0 a1) (cruciblelaw12_maps.f (k + 1) a0 a1) := by
  intro a0 a1 k
  obtain ⟨ih0, ih1⟩ := cruciblelaw12_maps.mono_l k
  unfold cruciblelaw12_maps.f
  repeat' first
      | (with_reducible exact ih0 _ _ _ _ _)
      | (with_reducible exact ih1 _ _ _ _ _ _)
      | (with_reducible exact LeO.refl _)
      | (with_reducible exact LeO.none _)
      | (with_reducible refine LeO.ite ?_ ?_)
      | (with_reducible refine LeO.bind ?_ (fun _ => ?_))
      | exact ih0 _ _ _ _ _
      | exact ih1 _ _ _ _ _ _
      | exact LeO.none _
      | refine LeO.ite ?_ ?_
      | refine LeO.bind ?_ (fun _ => ?_)
def cruciblelaw12_maps.T10 : Bool × List (List Nat × List Nat) := (true, [([], []), ([], []), ([], []), ([1, 2], [1, 2]), ([3], [3]), ([], []), ([4, 5], [4, 5]), ([], []), ([], []), ([7, 8], [7, 8]), ([9], [9]), ([], []), ([10, 11], [10, 11]), ([6, 12], [6, 12]), ([13], [13]), ([0, 14], [0, 14]), ([15, 15, 0, 1, 2, 3, 4, 5, 6, 7, 8, 9, 10, 11, 12, 13, 14, 15], [0, 15])])
def cruciblelaw12_maps.B10 : List Nat := [0, 0, 0, 6, 14, 0, 62, 0, 0, 384, 896, 0, 3968, 8190, 16382, 32767, 65535]
theorem cruciblelaw12_maps.tab10 : rtab .any (opsOf Try.f7 10) = cruciblelaw12_maps.T10 := by kernel_rfl
theorem cruciblelaw12_maps.bits10 : waitsOk cruciblelaw12_maps.T10.2 cruciblelaw12_maps.B10 = true := by kernel_rfl
def cruciblelaw12_maps.T11 : Bool × List (List Nat × List Nat) := (true, [([], []), ([], []), ([], []), ([1, 2], [1, 2]), ([3], [3]), ([], []), ([4, 5], [4, 5]), ([], []), ([], []), ([7, 8], [7, 8]), ([9], [9]), ([], []), ([10, 11], [10, 11]), ([6, 12], [6, 12]), ([13], [13]), ([0, 14], [0, 14]), ([15, 15, 0, 1, 2, 3, 4, 5, 6, 7, 8, 9, 10, 11, 12, 13, 14, 15], [0, 15])])
def cruciblelaw12_maps.B11 : List Nat := [0, 0, 0, 6, 14, 0, 62, 0, 0, 384, 896, 0, 3968, 8190, 16382, 32767, 65535]
theorem cruciblelaw12_maps.tab11 : rtab .any (opsOf Try.f7 11) = cruciblelaw12_maps.T11 := by kernel_rfl
theorem cruciblelaw12_maps.bits11 : waitsOk cruciblelaw12_maps.T11.2 cruciblelaw12_maps.B11 = true := by kernel_rfl
set_option maxHeartbeats 8000000 in
set_option maxRecDepth 100000 in
theorem cruciblelaw12_maps.calls (k : Nat) (P0_ : Nat → Prop) (A0 : Option Addr) (c0 : Nat) (l0 : List (List Bool)) (A1 : Option Addr) (c1 : Nat) (l1 : List Int) (r1 : List (S38)) (r2 : List (S43)) (w : World) (hs0 : Kd.V (Kd.slice 4 Kd.bool) 35 w w.heap.size (fun k_ => P0_ k_) (.slice A0 l0.length c0) l0) (hr1 : Kd.C (Kd.int .i64) w A1 l1.length l1) (hc1 : l1.length ≤ c1) (h : cruciblelaw12_maps.f k l0 l1 = some (r1, r2)) :
    Calls Try.prog 7 #[.slice A0 l0.length c0, .slice A1 l1.length c1] w fun e w' => ∃ v0_ v1_ : Value, e = .returned (.tuple #[v0_, v1_]) ∧ Kd.N k38 38 w' w.heap.size (fun k_ => (P0_ k_ ∨ w.heap.size ≤ k_) ∧ some k_ ≠ (v1_ : Value).ownBlock) v0_ r1 ∧ Kd.N k43 43 w' w.heap.size (fun k_ => (P0_ k_ ∨ w.heap.size ≤ k_) ∧ some k_ ≠ (v0_ : Value).ownBlock) v1_ r2 ∧ Below w.heap.size w w' := by
  have hu38 := Try.underlying38
  have hu43 := Try.underlying43
  have HO0 := Aside0.mk (show Kd.V (Kd.slice 4 Kd.bool) 35 w w.heap.size (fun k_ => (P0_ k_ ∨ w.heap.size ≤ k_)) (.slice A0 l0.length c0) l0 from Kd.V_mono hs0 (fun k_ hk => .inl hk))
  have HR1 := Aside0.mk hr1
  have HC1 := Aside0.mk hc1
  clear hr1 hc1
  have HB := Aside0.mk (Below.refl w.heap.size w)
  have H : (cruciblelaw12_maps.l0 k l0 l1 ([] : List (S38)) ([] : List (S43)) 0) = some (r1, r2) := h
  clear h
  have H' := Aside0.mk H
  clear H
  go_enter Try.func7, Try.ntmps7
  go_wp2
  go_loopg [6, 7, 8] k (fun kq v6 v7 v8 w' => ∃ (x6_1 : List (S38)) (x7_1 : List (S43)) (x8_1 : Int), v8 = .int .i64 x8_1 ∧ Aside0 (cruciblelaw12_maps.l0 kq l0 l1 x6_1 x7_1 x8_1 = some (r1, r2)) ∧ Aside0 (kq ≤ k) ∧ Aside0 (Kd.V (Kd.slice 4 Kd.bool) 35 w' w.heap.size (fun k_ => (P0_ k_ ∨ w.heap.size ≤ k_) ∧ some k_ ≠ (v6 : Value).ownBlock ∧ some k_ ≠ (v7 : Value).ownBlock) (.slice A0 l0.length c0) l0) ∧ Aside0 (Kd.N k38 38 w' w.heap.size (fun k_ => (P0_ k_ ∨ w.heap.size ≤ k_) ∧ some k_ ≠ (v7 : Value).ownBlock) v6 x6_1) ∧ Aside0 (Kd.N k43 43 w' w.heap.size (fun k_ => (P0_ k_ ∨ w.heap.size ≤ k_) ∧ some k_ ≠ (v6 : Value).ownBlock) v7 x7_1) ∧ Aside0 (Below w.heap.size w w'))
  case atStart => exact ⟨(([] : List (S38))), (([] : List (S43))), (0), (by first | rfl | (simp; done) | (simp [*]; done)), H', ⟨Nat.le_refl _⟩, ⟨by (with_reducible repeat (first | apply Kd.V_alloc | apply Kd.V_drewN | apply Kd.V_drew)); exact Kd.V_mono HO0.out (fun _ hk => ⟨hk, ⟨(by simp [Value.ownBlock]), (by simp [Value.ownBlock])⟩⟩)⟩, ⟨by first | exact Kd.S_nil _ _ _ _ _ | exact Kd.N_nil _ _ _ _ _ | exact Kd.V_nil _ _ _ _ _ | exact Kd.Q_nil _ _ _ _ _ | exact Kd.R_nil _ _ _ _ _⟩, ⟨by first | exact Kd.S_nil _ _ _ _ _ | exact Kd.N_nil _ _ _ _ _ | exact Kd.V_nil _ _ _ _ _ | exact Kd.Q_nil _ _ _ _ _ | exact Kd.R_nil _ _ _ _ _⟩, ⟨by repeat (first | (with_reducible first | exact HB.out | apply below_alloc | apply pw_below_drewN | apply below_drew1) | exact HB.out)⟩⟩
  case round =>
    clear H'
    try clear c1
    try clear p2
    obtain ⟨x6_1, x7_1, x8_1, rfl, HA, HK1, HO_0, HO_6, HO_7, HB⟩ := hrel
    cases gk with
    | zero => exact absurd HA.out (by simp [cruciblelaw12_maps.l0])
    | succ k1 =>
      have H := HA.out
      clear HA
      simp only [cruciblelaw12_maps.l0] at H
      have HC3 := Aside0.mk H
      clear H
      go_upto_region 4 with (fail)
      go_cut [18] (fun v18 wc => ∃ (kq : Nat) (x18_2 : Bool), v18 = .bool x18_2 ∧ Aside0 (cruciblelaw12_maps.j1 kq l0 l1 x6_1 x7_1 x8_1 x18_2 = some (r1, r2)) ∧ Aside0 (kq ≤ k1) ∧ Aside0 (Kd.V (Kd.slice 4 Kd.bool) 35 wc w.heap.size (fun k_ => (P0_ k_ ∨ w.heap.size ≤ k_) ∧ some k_ ≠ (u6 : Value).ownBlock ∧ some k_ ≠ (u7 : Value).ownBlock) (.slice A0 l0.length c0) l0) ∧ Aside0 (Kd.N k38 38 wc w.heap.size (fun k_ => (P0_ k_ ∨ w.heap.size ≤ k_) ∧ some k_ ≠ (u7 : Value).ownBlock) u6 x6_1) ∧ Aside0 (Kd.N k43 43 wc w.heap.size (fun k_ => (P0_ k_ ∨ w.heap.size ≤ k_) ∧ some k_ ≠ (u6 : Value).ownBlock) u7 x7_1) ∧ Aside0 (Below w.heap.size w wc))
      case first =>
        have H := HC3.out
        clear HC3
        by_cases c4 : x8_1 < (l0.length : Int)
        · rw [if_pos c4] at H
          have c4b0 : decide (x8_1 < (l0.length : Int)) = true := decide_eq_true c4
          clear c4
          (first | rw [c4b0] | (simp only [i64_w, i32_w]; rw [c4b0]) | skip)
          have H' := Aside0.mk H
          clear H
          go_wp2
          go_meet
          case rel => exact ⟨_, (decide (x8_1 < 5000)), (by first | rfl | (simp; done) | (simp [*]; done)), H', ⟨by have := HK1.out; first | omega | exact Nat.le_refl _⟩, ⟨by (with_reducible repeat (first | apply Kd.V_alloc | apply Kd.V_drewN | apply Kd.V_drew)); exact HO_0.out⟩, ⟨by (with_reducible repeat (first | apply Kd.N_alloc | apply Kd.N_drewN | apply Kd.N_drew)); exact HO_6.out⟩, ⟨by (with_reducible repeat (first | apply Kd.N_alloc | apply Kd.N_drewN | apply Kd.N_drew)); exact HO_7.out⟩, ⟨by repeat (first | (with_reducible first | exact HB.out | apply below_alloc | apply pw_below_drewN | apply below_drew1) | exact HB.out)⟩⟩
        · rw [if_neg c4] at H
          have c4b0 : decide (x8_1 < (l0.length : Int)) = false := decide_eq_false c4
          clear c4
          (first | rw [c4b0] | (simp only [i64_w, i32_w]; rw [c4b0]) | skip)
          have H' := Aside0.mk H
          clear H
          go_wp2
          go_meet
          case rel => exact ⟨_, (false), (by first | rfl | (simp; done) | (simp [*]; done)), H', ⟨by have := HK1.out; first | omega | exact Nat.le_refl _⟩, ⟨by (with_reducible repeat (first | apply Kd.V_alloc | apply Kd.V_drewN | apply Kd.V_drew)); exact HO_0.out⟩, ⟨by (with_reducible repeat (first | apply Kd.N_alloc | apply Kd.N_drewN | apply Kd.N_drew)); exact HO_6.out⟩, ⟨by (with_reducible repeat (first | apply Kd.N_alloc | apply Kd.N_drewN | apply Kd.N_drew)); exact HO_7.out⟩, ⟨by repeat (first | (with_reducible first | exact HB.out | apply below_alloc | apply pw_below_drewN | apply below_drew1) | exact HB.out)⟩⟩
      case rest =>
        clear HC3
        try clear c1
        try clear p2
        try clear c4
        try clear c4b0
        try clear p2
        obtain ⟨kq, x18_2, rfl, HA, HJ2, HO_0, HO_6, HO_7, HB⟩ := hcut
        cases kq with
        | zero => exact absurd HA.out (by simp [cruciblelaw12_maps.j1])
        | succ kj2 =>
          have H := HA.out
          clear HA
          simp only [cruciblelaw12_maps.j1] at H
          by_cases c5 : x18_2 = true
          · subst c5
            have H1 : (if 0 ≤ x8_1 then (if x8_1 < (l0.length : Int) then (if x8_1 < (l1.length : Int) then ((cruciblelaw12_pick.f (rd l1 x8_1) (wrap64 (((rd_L1 l0 x8_1).length : Int) + 1))).bind fun t124 => (if 0 ≤ t124 then (if t124 ≤ ((rd_L1 l0 x8_1).length : Int) then (if x6_1.length < 2932031007402 then (if x7_1.length < 2932031007402 then (cruciblelaw12_maps.l0 kj2 l0 l1 (x6_1 ++ [(⟨((rd_L1 l0 x8_1).take (t124 : Int).toNat), ((rd_L1 l0 x8_1).drop (t124 : Int).toNat)⟩ : S38)]) (x7_1 ++ [(⟨((rd_L1 l0 x8_1).take (t124 : Int).toNat), ((rd_L1 l0 x8_1).drop (t124 : Int).toNat)⟩ : S43)]) (wrap64 (x8_1 + 1))) else (none)) else (none)) else (none)) else (none))) else (if 0 ≤ ((rd_L1 l0 x8_1).length : Int) then (if x6_1.length < 2932031007402 then (if x7_1.length < 2932031007402 then (cruciblelaw12_maps.l0 kj2 l0 l1 (x6_1 ++ [(⟨((rd_L1 l0 x8_1).take 0), ((rd_L1 l0 x8_1).drop 0)⟩ : S38)]) (x7_1 ++ [(⟨((rd_L1 l0 x8_1).take 0), ((rd_L1 l0 x8_1).drop 0)⟩ : S43)]) (wrap64 (x8_1 + 1))) else (none)) else (none)) else (none))) else (none)) else (none)) = some (r1, r2) := by rw [if_pos rfl] at H; exact H
            clear H
            have H := H1
            clear H1
            by_cases c6 : 0 ≤ x8_1
            · rw [if_pos c6] at H
              have c6b0 : decide (0 ≤ x8_1) = true := decide_eq_true c6
              clear c6
              by_cases c7 : x8_1 < (l0.length : Int)
              · rw [if_pos c7] at H
                have c7b0 : decide (x8_1 < (l0.length : Int)) = true := decide_eq_true c7
                clear c7
                by_cases c8 : x8_1 < (l1.length : Int)
                · rw [if_pos c8] at H
                  have c8b0 : decide (x8_1 < (l1.length : Int)) = true := decide_eq_true c8
                  clear c8
                  replace H := Option.bind_eq_some_iff.mp H
                  obtain ⟨t124, A90, H⟩ := H
                  replace H : (if 0 ≤ t124 then (if t124 ≤ ((rd_L1 l0 x8_1).length : Int) then (if x6_1.length < 2932031007402 then (if x7_1.length < 2932031007402 then (cruciblelaw12_maps.l0 kj2 l0 l1 (x6_1 ++ [(⟨((rd_L1 l0 x8_1).take (t124 : Int).toNat), ((rd_L1 l0 x8_1).drop (t124 : Int).toNat)⟩ : S38)]) (x7_1 ++ [(⟨((rd_L1 l0 x8_1).take (t124 : Int).toNat), ((rd_L1 l0 x8_1).drop (t124 : Int).toNat)⟩ : S43)]) (wrap64 (x8_1 + 1))) else (none)) else (none)) else (none)) else (none)) = some (r1, r2) := H
                  have A9 := Aside0.mk A90
                  clear A90
                  by_cases c10 : 0 ≤ t124
                  · rw [if_pos c10] at H
                    have c10b0 := eq_true c10
                    have c10b1 : decide (0 ≤ t124) = true := decide_eq_true c10
                    clear c10
                    by_cases c11 : t124 ≤ ((rd_L1 l0 x8_1).length : Int)
                    · rw [if_pos c11] at H
                      have c11b0 := eq_true c11
                      have c11b1 : decide (t124 ≤ ((rd_L1 l0 x8_1).length : Int)) = true := decide_eq_true c11
                      clear c11
                      obtain ⟨y126, hy126⟩ : ∃ y_ : List Bool, y_ = ((rd_L1 l0 x8_1).take (t124 : Int).toNat) := ⟨_, rfl⟩
                      replace H : (if x6_1.length < 2932031007402 then (if x7_1.length < 2932031007402 then (cruciblelaw12_maps.l0 kj2 l0 l1 (x6_1 ++ [(⟨y126, ((rd_L1 l0 x8_1).drop (t124 : Int).toNat)⟩ : S38)]) (x7_1 ++ [(⟨((rd_L1 l0 x8_1).take (t124 : Int).toNat), ((rd_L1 l0 x8_1).drop (t124 : Int).toNat)⟩ : S43)]) (wrap64 (x8_1 + 1))) else (none)) else (none)) = some (r1, r2) := by first | (rw [hy126]; with_reducible exact H) | (have H2_ := (Option.bind_some _ _).symm.trans H; rw [hy126]; with_reducible exact H2_) | (have H2_ := (Option.bind_some _ _).symm.trans H; with_reducible exact H2_) | with_reducible exact H | (rw [hy126]; exact H) | exact H
                      have Ny126 := Aside0.mk hy126
                      clear hy126
                      have c12b0 := eq_true (of_decide_eq_true (by first | (with_reducible assumption) | assumption) : 0 ≤ t124)
                      have c13b0 := eq_true (of_decide_eq_true (by first | (with_reducible assumption) | assumption) : t124 ≤ ((rd_L1 l0 x8_1).length : Int))
                      obtain ⟨y132, hy132⟩ : ∃ y_ : List Bool, y_ = ((rd_L1 l0 x8_1).drop (t124 : Int).toNat) := ⟨_, rfl⟩
                      replace H : (if x6_1.length < 2932031007402 then (if x7_1.length < 2932031007402 then (cruciblelaw12_maps.l0 kj2 l0 l1 (x6_1 ++ [(⟨y126, y132⟩ : S38)]) (x7_1 ++ [(⟨((rd_L1 l0 x8_1).take (t124 : Int).toNat), ((rd_L1 l0 x8_1).drop (t124 : Int).toNat)⟩ : S43)]) (wrap64 (x8_1 + 1))) else (none)) else (none)) = some (r1, r2) := by first | (rw [hy132]; with_reducible exact H) | (have H2_ := (Option.bind_some _ _).symm.trans H; rw [hy132]; with_reducible exact H2_) | (have H2_ := (Option.bind_some _ _).symm.trans H; with_reducible exact H2_) | with_reducible exact H | (rw [hy132]; exact H) | exact H
                      have Ny132 := Aside0.mk hy132
                      clear hy132
                      by_cases c14 : x6_1.length < 2932031007402
                      · rw [if_pos c14] at H
                        have LMc14 := Aside0.mk c14
                        clear c14
                        obtain ⟨y137, hy137⟩ : ∃ y_ : List (S38), y_ = (x6_1 ++ [(⟨y126, y132⟩ : S38)]) := ⟨_, rfl⟩
                        replace H : (if x7_1.length < 2932031007402 then (cruciblelaw12_maps.l0 kj2 l0 l1 y137 (x7_1 ++ [(⟨((rd_L1 l0 x8_1).take (t124 : Int).toNat), ((rd_L1 l0 x8_1).drop (t124 : Int).toNat)⟩ : S43)]) (wrap64 (x8_1 + 1))) else (none)) = some (r1, r2) := by first | (rw [hy137]; with_reducible exact H) | (have H2_ := (Option.bind_some _ _).symm.trans H; rw [hy137]; with_reducible exact H2_) | (have H2_ := (Option.bind_some _ _).symm.trans H; with_reducible exact H2_) | with_reducible exact H | (rw [hy137]; exact H) | exact H
                        have Ny137 := Aside0.mk hy137
                        clear hy137
                        have c15b0 := eq_true (of_decide_eq_true (by first | (with_reducible assumption) | assumption) : 0 ≤ t124)
                        have c16b0 := eq_true (of_decide_eq_true (by first | (with_reducible assumption) | assumption) : t124 ≤ ((rd_L1 l0 x8_1).length : Int))
                        obtain ⟨y141, hy141⟩ : ∃ y_ : List Bool, y_ = ((rd_L1 l0 x8_1).take (t124 : Int).toNat) := ⟨_, rfl⟩
                        replace H : (if x7_1.length < 2932031007402 then (cruciblelaw12_maps.l0 kj2 l0 l1 y137 (x7_1 ++ [(⟨y141, ((rd_L1 l0 x8_1).drop (t124 : Int).toNat)⟩ : S43)]) (wrap64 (x8_1 + 1))) else (none)) = some (r1, r2) := by first | (rw [hy141]; with_reducible exact H) | (have H2_ := (Option.bind_some _ _).symm.trans H; rw [hy141]; with_reducible exact H2_) | (have H2_ := (Option.bind_some _ _).symm.trans H; with_reducible exact H2_) | with_reducible exact H | (rw [hy141]; exact H) | exact H
                        have Ny141 := Aside0.mk hy141
                        clear hy141
                        have c17b0 := eq_true (of_decide_eq_true (by first | (with_reducible assumption) | assumption) : 0 ≤ t124)
                        have c18b0 := eq_true (of_decide_eq_true (by first | (with_reducible assumption) | assumption) : t124 ≤ ((rd_L1 l0 x8_1).length : Int))
                        obtain ⟨y147, hy147⟩ : ∃ y_ : List Bool, y_ = ((rd_L1 l0 x8_1).drop (t124 : Int).toNat) := ⟨_, rfl⟩
                        replace H : (if x7_1.length < 2932031007402 then (cruciblelaw12_maps.l0 kj2 l0 l1 y137 (x7_1 ++ [(⟨y141, y147⟩ : S43)]) (wrap64 (x8_1 + 1))) else (none)) = some (r1, r2) := by first | (rw [hy147]; with_reducible exact H) | (have H2_ := (Option.bind_some _ _).symm.trans H; rw [hy147]; with_reducible exact H2_) | (have H2_ := (Option.bind_some _ _).symm.trans H; with_reducible exact H2_) | with_reducible exact H | (rw [hy147]; exact H) | exact H
                        have Ny147 := Aside0.mk hy147
                        clear hy147
                        by_cases c19 : x7_1.length < 2932031007402
                        · rw [if_pos c19] at H
                          have LMc19 := Aside0.mk c19
                          clear c19
                          obtain ⟨y152, hy152⟩ : ∃ y_ : List (S43), y_ = (x7_1 ++ [(⟨y141, y147⟩ : S43)]) := ⟨_, rfl⟩
                          replace H : (cruciblelaw12_maps.l0 kj2 l0 l1 y137 y152 (wrap64 (x8_1 + 1))) = some (r1, r2) := by first | (rw [hy152]; with_reducible exact H) | (have H2_ := (Option.bind_some _ _).symm.trans H; rw [hy152]; with_reducible exact H2_) | (have H2_ := (Option.bind_some _ _).symm.trans H; with_reducible exact H2_) | with_reducible exact H | (rw [hy152]; exact H) | exact H
                          have Ny152 := Aside0.mk hy152
                          clear hy152
                          have H' := Aside0.mk H
                          clear H
                          have p122 : 0 ≤ (x8_1 : Int) := of_decide_eq_true (by first | (with_reducible assumption) | assumption)
                          have q122 : x8_1 < (l0.length : Int) := of_decide_eq_true (by first | (with_reducible assumption) | assumption)
                          obtain ⟨ad122, A122_0, c122_0, e122, hx122_0, hl122_0, hi122_0⟩ := at_L1 (Kd.V_reads' HO_0.out).2.2 x8_1 p122 q122
                          cases e122
                          obtain ⟨ce122, hce122, hMe122, hcc122⟩ := Kd.V_get HO_0.out [] x8_1 p122 (by first | exact q122 | exact of_decide_eq_true (by first | (with_reducible assumption) | assumption) | (have e_ := (Kd.V_reads' HO_0.out).1; omega))
                          obtain ⟨ua122_0, uc122_0, rfl, ul122_0, ge122_0⟩ := Kd.FK_slice_open hMe122
                          have hv122_0 := hcc122 0 _ rfl
                          rw [Nat.add_zero, show ((Kd.slice 4 Kd.bool)).sz = 1 from rfl, Nat.mul_one] at hv122_0
                          replace hv122_0 := Option.some.inj (hv122_0.symm.trans hx122_0)
                          injection hv122_0 with hva_ hvn_ hvc_
                          rw [hva_] at ge122_0
                          rw [hvc_] at ul122_0
                          have HL122_0 := Aside0.mk (show Kd.V Kd.bool 4 _ w.heap.size _ _ (rd_L1 l0 x8_1) from Kd.V_mk ul122_0 ge122_0)
                          clear hva_ hvn_ hvc_ ge122_0 ul122_0
                          clear hcc122 hce122
                          have HR122_0 := Aside0.mk hi122_0
                          have HC122_0 := Aside0.mk hl122_0
                          clear hi122_0 hl122_0
                          replace p122 := eq_true p122
                          replace q122 := eq_true q122
                          have p123 : 0 ≤ (x8_1 : Int) := of_decide_eq_true (by first | (with_reducible assumption) | assumption)
                          have q123 : x8_1 < (l1.length : Int) := of_decide_eq_true (by first | (with_reducible assumption) | assumption)
                          obtain ⟨ad123, e123, hx123_0⟩ := Kd.at_int HR1.out x8_1 p123 q123
                          cases e123
                          replace hx123_0 := (HB.out.cell (World.block_lt_of_cell? w _ hx123_0)).trans hx123_0
                          replace p123 := eq_true p123
                          replace q123 := eq_true q123
                          try go_wp2_with (first | ((with_reducible refine gate_callee (f := 22) rfl ?_); refine goesL_ (some 36) rfl rfl Try.func22 (by kernel_rfl) rfl #[.int .i64 (rd l1 x8_1), .int .i64 (wrap64 (((rd_L1 l0 x8_1).length : Int) + 1))] rfl (by (try simp only [List.map_toArray, List.map_cons, List.map_nil]); first | done | rfl | (simp only [List.length_drop, List.length_take]; rfl)) ?_; (with_reducible refine (cruciblelaw12_pick.calls (rd l1 x8_1) (wrap64 (((rd_L1 l0 x8_1).length : Int) + 1)) t124 _ A9.out).mono ?_); rintro e w' ⟨rfl, ⟨nd, rfl⟩⟩; refine ⟨_, rfl, ?_⟩))
                          (try (rw [drewN_self wc]; generalize hq_ : World.drewN wc _ = wc; have n0_ : Aside0 (Kd.V Kd.bool 4 wc w.heap.size (fun k_ => (P0_ k_ ∨ w.heap.size ≤ k_) ∧ some k_ ≠ (u6 : Value).ownBlock ∧ some k_ ≠ (u7 : Value).ownBlock) (.slice A122_0 (rd_L1 l0 x8_1).length c122_0) (rd_L1 l0 x8_1)) := ⟨by rw [← hq_]; exact (by (with_reducible repeat (first | apply Kd.V_alloc | apply Kd.V_drewN | apply Kd.V_drew)); exact HL122_0.out)⟩; have n1_ : Aside0 (Kd.V (Kd.slice 4 Kd.bool) 35 wc w.heap.size (fun k_ => (P0_ k_ ∨ w.heap.size ≤ k_) ∧ some k_ ≠ (u6 : Value).ownBlock ∧ some k_ ≠ (u7 : Value).ownBlock) (.slice (some ad122) l0.length c0) l0) := ⟨by rw [← hq_]; exact (by (with_reducible repeat (first | apply Kd.V_alloc | apply Kd.V_drewN | apply Kd.V_drew)); exact HO_0.out)⟩; have n2_ : Aside0 (Kd.N k38 38 wc w.heap.size (fun k_ => (P0_ k_ ∨ w.heap.size ≤ k_) ∧ some k_ ≠ (u7 : Value).ownBlock) u6 x6_1) := ⟨by rw [← hq_]; exact (by (with_reducible repeat (first | apply Kd.N_alloc | apply Kd.N_drewN | apply Kd.N_drew)); exact HO_6.out)⟩; have n3_ : Aside0 (Kd.N k43 43 wc w.heap.size (fun k_ => (P0_ k_ ∨ w.heap.size ≤ k_) ∧ some k_ ≠ (u6 : Value).ownBlock) u7 x7_1) := ⟨by rw [← hq_]; exact (by (with_reducible repeat (first | apply Kd.N_alloc | apply Kd.N_drewN | apply Kd.N_drew)); exact HO_7.out)⟩; have n4_ : Aside0 (Below w.heap.size w wc) := ⟨by rw [← hq_]; exact (by repeat (first | (with_reducible first | exact HB.out | apply below_alloc | apply pw_below_drewN | apply below_drew1) | exact HB.out))⟩; have n5_ : Aside0 (Kd.C Kd.bool wc A122_0 (rd_L1 l0 x8_1).length (rd_L1 l0 x8_1)) := ⟨by rw [← hq_]; exact (by repeat (first | (with_reducible exact HR122_0.out) | (with_reducible refine Kd.C_alloc ?_ _) | (with_reducible refine Kd.C_drewN ?_ _) | (with_reducible refine Kd.C_drew ?_) | exact HR122_0.out))⟩; clear HL122_0 HO_0 HO_6 HO_7 HB HR122_0 hq_; have HL122_0 := n0_; have HO_0 := n1_; have HO_6 := n2_; have HO_7 := n3_; have HB := n4_; have HR122_0 := n5_; clear n0_ n1_ n2_ n3_ n4_ n5_))
                          have n0_ := Aside0.mk (Kd.V_drew HO_0.out)
                          have n1_ := Aside0.mk (Kd.N_drew HO_6.out)
                          have n2_ := Aside0.mk (Kd.N_drew HO_7.out)
                          have n3_ := Aside0.mk (Kd.V_drew HL122_0.out)
                          have n4_ := Aside0.mk (Kd.C_drew HR122_0.out)
                          have n5_ := Aside0.mk (below_drew1 HB.out)
                          clear HO_0
                          clear HO_6
                          clear HO_7
                          clear HL122_0
                          clear HR122_0
                          clear HB
                          have HO_0 := n0_
                          have HO_6 := n1_
                          have HO_7 := n2_
                          have HL122_0 := n3_
                          have HR122_0 := n4_
                          have HB := n5_
                          clear n0_ n1_ n2_ n3_ n4_ n5_
                          have p125 : 0 ≤ (x8_1 : Int) := of_decide_eq_true (by first | (with_reducible assumption) | assumption)
                          have q125 : x8_1 < (l0.length : Int) := of_decide_eq_true (by first | (with_reducible assumption) | assumption)
                          obtain ⟨ad125, A125_0, c125_0, e125, hx125_0, hl125_0, hi125_0⟩ := at_L1 (Kd.V_reads' HO_0.out).2.2 x8_1 p125 q125
                          obtain rfl : ad122 = ad125 := (by injection e125)
                          obtain ⟨ce125, hce125, hMe125, hcc125⟩ := Kd.V_get HO_0.out [] x8_1 p125 (by first | exact q125 | exact of_decide_eq_true (by first | (with_reducible assumption) | assumption) | (have e_ := (Kd.V_reads' HO_0.out).1; omega))
                          obtain ⟨ua125_0, uc125_0, rfl, ul125_0, ge125_0⟩ := Kd.FK_slice_open hMe125
                          have hv125_0 := hcc125 0 _ rfl
                          rw [Nat.add_zero, show ((Kd.slice 4 Kd.bool)).sz = 1 from rfl, Nat.mul_one] at hv125_0
                          replace hv125_0 := Option.some.inj (hv125_0.symm.trans hx125_0)
                          injection hv125_0 with hva_ hvn_ hvc_
                          rw [hva_] at ge125_0
                          rw [hvc_] at ul125_0
                          have HL125_0 := Aside0.mk (show Kd.V Kd.bool 4 _ w.heap.size _ _ (rd_L1 l0 x8_1) from Kd.V_mk ul125_0 ge125_0)
                          clear hva_ hvn_ hvc_ ge125_0 ul125_0
                          clear hcc125 hce125
                          have HR125_0 := Aside0.mk hi125_0
                          have HC125_0 := Aside0.mk hl125_0
                          clear hi125_0 hl125_0
                          replace p125 := eq_true p125
                          replace q125 := eq_true q125
                          have q21 : (t124 : Int) ≤ (((rd_L1 l0 x8_1).length : Int) : Int) := of_decide_eq_true (by first | (with_reducible assumption) | assumption)
                          obtain ⟨i021, hi021, _, hsz21, _⟩ := info_parts info4
                          have hroom21 : (rd_L1 l0 x8_1).length ≤ c125_0 := HC125_0.out
                          have hC21 : Kd.F Kd.bool _ _ A125_0 (rd_L1 l0 x8_1).length (rd_L1 l0 x8_1) := (Kd.V_at (base := w.heap.size) HL125_0.out).2.2
                          have hcut21 := cut_to (P := Try.prog) 35 4 .i64 Try.underlying35 hi021 A125_0 (rd_L1 l0 x8_1).length c125_0 t124 (of_decide_eq_true (by first | (with_reducible assumption) | assumption)) q21 hroom21
                          have hr21 := Kd.F_take (m := (t124 : Int).toNat) hC21 (by omega)
                          have hy21 : y126.length = (t124 : Int).toNat := (by rw [Ny126.out, List.length_take]; omega)
                          rw [← Ny126.out] at hr21
                          rw [← hy21] at hcut21
                          have HO130 := Aside0.mk (show Kd.V Kd.bool 4 _ w.heap.size _ (.slice A125_0 y126.length c125_0) y126 from Kd.V_mk (by omega) hr21)
                          have HC130 := Aside0.mk (show y126.length ≤ c125_0 from by omega)
                          clear hr21 hC21 hroom21 hi021 hsz21
                          have KY21 := Aside0.mk hy21
                          clear hy21
                          replace q21 := eq_true q21
                          have p131 : 0 ≤ (x8_1 : Int) := of_decide_eq_true (by first | (with_reducible assumption) | assumption)
                          have q131 : x8_1 < (l0.length : Int) := of_decide_eq_true (by first | (with_reducible assumption) | assumption)
                          obtain ⟨ad131, A131_0, c131_0, e131, hx131_0, hl131_0, hi131_0⟩ := at_L1 (Kd.V_reads' HO_0.out).2.2 x8_1 p131 q131
                          obtain rfl : ad122 = ad131 := (by injection e131)
                          obtain ⟨ce131, hce131, hMe131, hcc131⟩ := Kd.V_get HO_0.out [] x8_1 p131 (by first | exact q131 | exact of_decide_eq_true (by first | (with_reducible assumption) | assumption) | (have e_ := (Kd.V_reads' HO_0.out).1; omega))
                          obtain ⟨ua131_0, uc131_0, rfl, ul131_0, ge131_0⟩ := Kd.FK_slice_open hMe131
                          have hv131_0 := hcc131 0 _ rfl
                          rw [Nat.add_zero, show ((Kd.slice 4 Kd.bool)).sz = 1 from rfl, Nat.mul_one] at hv131_0
                          replace hv131_0 := Option.some.inj (hv131_0.symm.trans hx131_0)
                          injection hv131_0 with hva_ hvn_ hvc_
                          rw [hva_] at ge131_0
                          rw [hvc_] at ul131_0
                          have HL131_0 := Aside0.mk (show Kd.V Kd.bool 4 _ w.heap.size _ _ (rd_L1 l0 x8_1) from Kd.V_mk ul131_0 ge131_0)
                          clear hva_ hvn_ hvc_ ge131_0 ul131_0
                          clear hcc131 hce131
                          have HR131_0 := Aside0.mk hi131_0
                          have HC131_0 := Aside0.mk hl131_0
                          clear hi131_0 hl131_0
                          replace p131 := eq_true p131
                          replace q131 := eq_true q131
                          have ea_ := Option.some.inj (hx125_0.symm.trans hx131_0)
                          injection ea_ with ea_ en_ ec_
                          subst ea_
                          subst ec_
                          clear en_
                          have q22 : (t124 : Int) ≤ (((rd_L1 l0 x8_1).length : Int) : Int) := of_decide_eq_true (by first | (with_reducible assumption) | assumption)
                          obtain ⟨i022, hi022, _, hsz22, _⟩ := info_parts info4
                          have hroom22 : (rd_L1 l0 x8_1).length ≤ c125_0 := HC131_0.out
                          have hC22 : Kd.F Kd.bool _ _ A125_0 (rd_L1 l0 x8_1).length (rd_L1 l0 x8_1) := (Kd.V_at (base := w.heap.size) HL131_0.out).2.2
                          have q022 : (0 : Int) ≤ (t124 : Int) := of_decide_eq_true (by first | (with_reducible assumption) | assumption)
                          have hcut22 := cut_from (P := Try.prog) 35 4 .i64 Try.underlying35 hi022 1 hsz22 A125_0 (rd_L1 l0 x8_1).length c125_0 t124 q022 q22
                          have hr22 := Kd.F_cut (m := (t124 : Int).toNat) (c := c125_0) hC22 (by omega) hroom22
                          obtain ⟨A22, hA22⟩ : ∃ A1, A1 = (if c125_0 = (t124 : Int).toNat then A125_0 else (A125_0 : Option Addr).map (·.add ((t124 : Int).toNat * 1))) := ⟨_, rfl⟩
                          obtain ⟨c22, hc22⟩ : ∃ c1, c1 = c125_0 - (t124 : Int).toNat := ⟨_, rfl⟩
                          have hy22 : y132.length = (rd_L1 l0 x8_1).length - (t124 : Int).toNat := (by rw [Ny132.out, List.length_drop] <;> omega)
                          rw [show (rd_L1 l0 x8_1).drop (t124 : Int).toNat = y132 from Ny132.out.symm] at hr22
                          replace hr22 : Kd.F Kd.bool _ _ A22 y132.length y132 := (by rw [hA22]; exact hr22)
                          rw [← hy22, ← hA22, ← hc22] at hcut22
                          have HO136 := Aside0.mk (show Kd.V Kd.bool 4 _ w.heap.size _ (.slice A22 y132.length c22) y132 from Kd.V_mk (by rw [hy22, hc22]; exact Nat.sub_le_sub_right hroom22 _) hr22)
                          have HC136 := Aside0.mk (show y132.length ≤ c22 from by rw [hy22, hc22]; exact Nat.sub_le_sub_right hroom22 _)
                          clear hr22 hC22 hroom22 hi022 hsz22 hc22
                          have KY22 := Aside0.mk hy22
                          have KA22 := Aside0.mk hA22
                          clear hy22 hA22
                          replace q22 := eq_true q22
                          refine start_ (n := 17) (S := fun w' => w'.cell? (ad122.add (x8_1).toNat) = some (.slice A125_0 (rd_L1 l0 x8_1).length c125_0) ∧ w'.cell? (ad122.add (x8_1).toNat) = some (.slice A125_0 (rd_L1 l0 x8_1).length c125_0)) (ds := [14, 15]) #[false, false, false, false, false, false, false, false, false, false, false, false, false, false, false, false, false] (by kernel_rfl) rfl rfl ⟨hx125_0, hx131_0⟩ (fun hHeld => ?_); refine with_tabW cruciblelaw12_maps.tab10 cruciblelaw12_maps.bits10 (fun HT_ HW_ => ?_)
                          generalize wc.drew = w20 at HO_0 HO_6 HO_7 HL122_0 HR122_0 HB HL125_0 HL131_0 HO130 HO136 HR125_0 HR131_0 hx125_0 hx131_0 hHeld ⊢
                          refine pure_ (i := 0) (N := some 37) (v := ?_) (a' := ?_) #[true, false, false, false, false, false, false, false, false, false, false, false, false, false, false, false, false] rfl rfl (any_of HT_.out (by kernel_rfl)) (fun _ _ _ h => h) (Or.inl ⟨by rfl, ?_⟩) ?_ ?_
                          rotate_left
                          · intro w'
                            go_simp
                            with_reducible rfl
                          rotate_left
                          · simp only [Act.put, List.setIfInBounds_toArray, List.set_cons_zero, List.set_cons_succ, i64_w, i32_w]
                            rfl
                          refine pure_ (i := 1) (N := some 38) (v := ?_) (a' := ?_) #[true, true, false, false, false, false, false, false, false, false, false, false, false, false, false, false, false] rfl rfl (any_of HT_.out (by kernel_rfl)) (fun _ _ _ h => h) (Or.inl ⟨by rfl, ?_⟩) ?_ ?_
                          rotate_left
                          · intro w'
                            go_simp
                            with_reducible rfl
                          rotate_left
                          · simp only [Act.put, List.setIfInBounds_toArray, List.set_cons_zero, List.set_cons_succ, i64_w, i32_w]
                            rfl
                          refine pure_ (i := 2) (N := some 39) (v := ?_) (a' := ?_) #[true, true, true, false, false, false, false, false, false, false, false, false, false, false, false, false, false] rfl rfl (any_of HT_.out (by kernel_rfl)) (fun _ _ _ h => h) (Or.inl ⟨by rfl, ?_⟩) ?_ ?_
                          rotate_left
                          · intro w'
                            go_simp
                            with_reducible rfl
                          rotate_left
                          · simp only [Act.put, List.setIfInBounds_toArray, List.set_cons_zero, List.set_cons_succ, i64_w, i32_w]
                            rfl
                          refine pure_ (i := 3) (N := some 40) (v := ?_) (a' := ?_) #[true, true, true, true, false, false, false, false, false, false, false, false, false, false, false, false, false] rfl rfl (any_of HT_.out (by kernel_rfl)) (fun _ _ _ h => h) (Or.inl ⟨by rfl, ?_⟩) ?_ ?_
                          rotate_left
                          · intro w'
                            go_simp
                            with_reducible rfl
                          rotate_left
                          · simp only [Act.put, List.setIfInBounds_toArray, List.set_cons_zero, List.set_cons_succ, i64_w, i32_w]
                            rfl
                          refine pure_ (i := 5) (N := some 42) (v := ?_) (a' := ?_) #[true, true, true, true, false, true, false, false, false, false, false, false, false, false, false, false, false] rfl rfl (any_of HT_.out (by kernel_rfl)) (fun _ _ _ h => h) (Or.inl ⟨by rfl, ?_⟩) ?_ ?_
                          rotate_left
                          · intro w'
                            go_simp
                            with_reducible rfl
                          rotate_left
                          · simp only [Act.put, List.setIfInBounds_toArray, List.set_cons_zero, List.set_cons_succ, i64_w, i32_w]
                            rfl
                          refine pure_ (i := 7) (N := some 44) (v := ?_) (a' := ?_) #[true, true, true, true, false, true, false, true, false, false, false, false, false, false, false, false, false] rfl rfl (any_of HT_.out (by kernel_rfl)) (fun _ _ _ h => h) (Or.inl ⟨by rfl, ?_⟩) ?_ ?_
                          rotate_left
                          · intro w'
                            go_simp
                            with_reducible rfl
                          rotate_left
                          · simp only [Act.put, List.setIfInBounds_toArray, List.set_cons_zero, List.set_cons_succ, i64_w, i32_w]
                            rfl
                          refine pure_ (i := 8) (N := some 45) (v := ?_) (a' := ?_) #[true, true, true, true, false, true, false, true, true, false, false, false, false, false, false, false, false] rfl rfl (any_of HT_.out (by kernel_rfl)) (fun _ _ _ h => h) (Or.inl ⟨by rfl, ?_⟩) ?_ ?_
                          rotate_left
                          · intro w'
                            go_simp
                            with_reducible rfl
                          rotate_left
                          · simp only [Act.put, List.setIfInBounds_toArray, List.set_cons_zero, List.set_cons_succ, i64_w, i32_w]
                            rfl
                          refine pure_ (i := 9) (N := some 46) (v := ?_) (a' := ?_) #[true, true, true, true, false, true, false, true, true, true, false, false, false, false, false, false, false] rfl rfl (any_of HT_.out (by kernel_rfl)) (fun _ _ _ h => h) (Or.inl ⟨by rfl, ?_⟩) ?_ ?_
                          rotate_left
                          · intro w'
                            go_simp
                            with_reducible rfl
                          rotate_left
                          · simp only [Act.put, List.setIfInBounds_toArray, List.set_cons_zero, List.set_cons_succ, i64_w, i32_w]
                            rfl
                          refine pure_ (i := 11) (N := some 48) (v := ?_) (a' := ?_) #[true, true, true, true, false, true, false, true, true, true, false, true, false, false, false, false, false] rfl rfl (any_of HT_.out (by kernel_rfl)) (fun _ _ _ h => h) (Or.inl ⟨by rfl, ?_⟩) ?_ ?_
                          rotate_left
                          · intro w'
                            go_simp
                            with_reducible rfl
                          rotate_left
                          · simp only [Act.put, List.setIfInBounds_toArray, List.set_cons_zero, List.set_cons_succ, i64_w, i32_w]
                            rfl
                          refine take_ (i := 4) (N := some 41) (v := ?_) (a' := ?_) #[true, true, true, true, true, true, false, true, true, true, false, true, false, false, false, false, false] rfl rfl (take_ofW HT_.out HW_.out (by kernel_rfl)) (fun _ _ _ h => h) (Or.inl ⟨by rfl, ?_⟩) hHeld ?_ ?_
                          rotate_left
                          · rintro w' ⟨s0, s1⟩
                            go_simp
                            with_reducible rfl
                          rotate_left
                          · simp only [Act.put, List.setIfInBounds_toArray, List.set_cons_zero, List.set_cons_succ, i64_w, i32_w]
                            rfl
                          refine pure_ (i := 6) (N := some 43) (v := ?_) (a' := ?_) #[true, true, true, true, true, true, true, true, true, true, false, true, false, false, false, false, false] rfl rfl (any_of HT_.out (by kernel_rfl)) (fun _ _ _ h => h) (Or.inl ⟨by rfl, ?_⟩) ?_ ?_
                          rotate_left
                          · intro w'
                            go_simp
                            with_reducible rfl
                          rotate_left
                          · simp only [Act.put, List.setIfInBounds_toArray, List.set_cons_zero, List.set_cons_succ, i64_w, i32_w]
                            rfl
                          refine take_ (i := 10) (N := some 47) (v := ?_) (a' := ?_) #[true, true, true, true, true, true, true, true, true, true, true, true, false, false, false, false, false] rfl rfl (take_ofW HT_.out HW_.out (by kernel_rfl)) (fun _ _ _ h => h) (Or.inl ⟨by rfl, ?_⟩) hHeld ?_ ?_
                          rotate_left
                          · rintro w' ⟨s0, s1⟩
                            go_simp
                            with_reducible rfl
                          rotate_left
                          · simp only [Act.put, List.setIfInBounds_toArray, List.set_cons_zero, List.set_cons_succ, i64_w, i32_w]
                            rfl
                          refine pure_ (i := 12) (N := some 49) (v := ?_) (a' := ?_) #[true, true, true, true, true, true, true, true, true, true, true, true, true, false, false, false, false] rfl rfl (any_of HT_.out (by kernel_rfl)) (fun _ _ _ h => h) (Or.inl ⟨by rfl, ?_⟩) ?_ ?_
                          rotate_left
                          · intro w'
                            go_simp
                            with_reducible rfl
                          rotate_left
                          · simp only [Act.put, List.setIfInBounds_toArray, List.set_cons_zero, List.set_cons_succ, i64_w, i32_w]
                            rfl
                          refine pure_ (i := 13) (N := some 50) (v := ?_) (a' := ?_) #[true, true, true, true, true, true, true, true, true, true, true, true, true, true, false, false, false] rfl rfl (any_of HT_.out (by kernel_rfl)) (fun _ _ _ h => h) (Or.inl ⟨by rfl, ?_⟩) ?_ ?_
                          rotate_left
                          · intro w'
                            go_simp
                            with_reducible rfl
                          rotate_left
                          · simp only [Act.put, List.setIfInBounds_toArray, List.set_cons_zero, List.set_cons_succ, i64_w, i32_w]
                            rfl
                          refine last_ (i := 14) (N := some 51) #[true, true, true, true, true, true, true, true, true, true, true, true, true, true, true, false, false] rfl rfl (one_of HT_.out (by kernel_rfl)) (by decide) (fun K hK => ?_)
                          refine value_ (w1 := ?_) (v := ?_) (by rfl) rfl ?_ ?_
                          rotate_left 2
                          · go_simp
                            constructor
                            · rfl
                            · rfl
                          refine hK.out _ _ ?_
                          clear hK K
                          refine norm_ (a' := ?_) ?_ ?_
                          rotate_left
                          · show Act.put _ (some 51) _ = _
                            simp only [Act.put, List.setIfInBounds_toArray, List.set_cons_zero, List.set_cons_succ, i64_w, i32_w]
                            rfl
                          refine last_ (i := 15) (N := some 52) #[true, true, true, true, true, true, true, true, true, true, true, true, true, true, true, true, false] rfl rfl (one_of HT_.out (by kernel_rfl)) (by decide) (fun K hK => ?_)
                          refine Kd.N_append_step k38 (w0 := w) w.heap.size (by rfl) (.tmp 37) (.tmp 51) 25 38 (.agg #[(.slice none 0 0), (.slice none 0 0)]) 48 rfl Try.underlying25 info38 rfl (by decide) (by omega) u6 x6_1 (⟨y126, y132⟩ : S38) [.slice A125_0 y126.length c125_0, .slice A22 y132.length c22] (fun k_ => (P0_ k_ ∨ w.heap.size ≤ k_) ∧ some k_ ≠ (u7 : Value).ownBlock) (fun k_ => ((fun k_ => (P0_ k_ ∨ w.heap.size ≤ k_) ∧ some k_ ≠ (u7 : Value).ownBlock)) k_ ∧ some k_ ≠ (u6 : Value).ownBlock) rfl rfl ?aP (fun _ hk => hk) ?aF ?aO ?aB ?aS ?aL ?_
                          (case aP => exact (k38_mkF _ _ (⟨y126, y132⟩ : S38) (Kd.V_reads' (Kd.V_mono (ok' := (fun k_ => ((fun k_ => (P0_ k_ ∨ w.heap.size ≤ k_) ∧ some k_ ≠ (u7 : Value).ownBlock)) k_ ∧ some k_ ≠ (u6 : Value).ownBlock)) (HO130.out) (fun k_ hk => ⟨⟨hk.1, hk.2.2⟩, hk.2.1⟩))).2.1 (Kd.V_F (Kd.V_mono (ok' := (fun k_ => ((fun k_ => (P0_ k_ ∨ w.heap.size ≤ k_) ∧ some k_ ≠ (u7 : Value).ownBlock)) k_ ∧ some k_ ≠ (u6 : Value).ownBlock)) (HO130.out) (fun k_ hk => ⟨⟨hk.1, hk.2.2⟩, hk.2.1⟩))) (Kd.V_reads' (Kd.V_mono (ok' := (fun k_ => ((fun k_ => (P0_ k_ ∨ w.heap.size ≤ k_) ∧ some k_ ≠ (u7 : Value).ownBlock)) k_ ∧ some k_ ≠ (u6 : Value).ownBlock)) (HO136.out) (fun k_ hk => ⟨⟨hk.1, hk.2.2⟩, hk.2.1⟩))).2.1 (Kd.V_F (Kd.V_mono (ok' := (fun k_ => ((fun k_ => (P0_ k_ ∨ w.heap.size ≤ k_) ∧ some k_ ≠ (u7 : Value).ownBlock)) k_ ∧ some k_ ≠ (u6 : Value).ownBlock)) (HO136.out) (fun k_ hk => ⟨⟨hk.1, hk.2.2⟩, hk.2.1⟩)))))
                          (case aB => exact (by repeat (first | (with_reducible first | exact HB.out | apply below_alloc | apply pw_below_drewN | apply below_drew1) | exact HB.out)))
                          (case aF => exact (fun k_ hk => ⟨(.inr (Nat.le_trans (below_size (by repeat (first | (with_reducible first | exact HB.out | apply below_alloc | apply pw_below_drewN | apply below_drew1) | exact HB.out))) hk)), Kd.fresh' (Kd.N_lt (by (with_reducible repeat (first | apply Kd.N_alloc | apply Kd.N_drewN | apply Kd.N_drew)); exact HO_7.out)) k_ hk⟩))
                          (case aO => exact (by (with_reducible repeat (first | apply Kd.N_alloc | apply Kd.N_drewN | apply Kd.N_drew)); exact HO_6.out))
                          (case aS => exact (below_size (by repeat (first | (with_reducible first | exact HB.out | apply below_alloc | apply pw_below_drewN | apply below_drew1) | exact HB.out))))
                          (case aL => have := LMc14.out; omega)
                          intro v138 w23 ho hb hg hat
                          rw [← Ny137.out] at ho
                          have n0_ := Aside0.mk (Kd.V_afterv (ok := (fun k_ => (P0_ k_ ∨ w.heap.size ≤ k_) ∧ some k_ ≠ (u7 : Value).ownBlock)) (by (with_reducible repeat (first | apply Kd.V_alloc | apply Kd.V_drewN | apply Kd.V_drew)); exact Kd.V_mono HO_0.out (fun _ hk => ⟨⟨hk.1, hk.2.2⟩, hk.2.1⟩)) hg hat)
                          have n1_ := Aside0.mk (Kd.N_afterv (ok := (fun k_ => (P0_ k_ ∨ w.heap.size ≤ k_))) (by (with_reducible repeat (first | apply Kd.N_alloc | apply Kd.N_drewN | apply Kd.N_drew)); exact HO_7.out) hg hat)
                          have n2_ := Aside0.mk (Kd.V_afterv (ok := (fun k_ => (P0_ k_ ∨ w.heap.size ≤ k_) ∧ some k_ ≠ (u7 : Value).ownBlock)) (by (with_reducible repeat (first | apply Kd.V_alloc | apply Kd.V_drewN | apply Kd.V_drew)); exact Kd.V_mono HL122_0.out (fun _ hk => ⟨⟨hk.1, hk.2.2⟩, hk.2.1⟩)) hg hat)
                          have n3_ := Aside0.mk (Kd.V_afterv (ok := (fun k_ => (P0_ k_ ∨ w.heap.size ≤ k_) ∧ some k_ ≠ (u7 : Value).ownBlock)) (by (with_reducible repeat (first | apply Kd.V_alloc | apply Kd.V_drewN | apply Kd.V_drew)); exact Kd.V_mono HL125_0.out (fun _ hk => ⟨⟨hk.1, hk.2.2⟩, hk.2.1⟩)) hg hat)
                          have n4_ := Aside0.mk (Kd.V_afterv (ok := (fun k_ => (P0_ k_ ∨ w.heap.size ≤ k_) ∧ some k_ ≠ (u7 : Value).ownBlock)) (by (with_reducible repeat (first | apply Kd.V_alloc | apply Kd.V_drewN | apply Kd.V_drew)); exact Kd.V_mono HO130.out (fun _ hk => ⟨⟨hk.1, hk.2.2⟩, hk.2.1⟩)) hg hat)
                          have n5_ := Aside0.mk (Kd.V_afterv (ok := (fun k_ => (P0_ k_ ∨ w.heap.size ≤ k_) ∧ some k_ ≠ (u7 : Value).ownBlock)) (by (with_reducible repeat (first | apply Kd.V_alloc | apply Kd.V_drewN | apply Kd.V_drew)); exact Kd.V_mono HL131_0.out (fun _ hk => ⟨⟨hk.1, hk.2.2⟩, hk.2.1⟩)) hg hat)
                          have n6_ := Aside0.mk (Kd.V_afterv (ok := (fun k_ => (P0_ k_ ∨ w.heap.size ≤ k_) ∧ some k_ ≠ (u7 : Value).ownBlock)) (by (with_reducible repeat (first | apply Kd.V_alloc | apply Kd.V_drewN | apply Kd.V_drew)); exact Kd.V_mono HO136.out (fun _ hk => ⟨⟨hk.1, hk.2.2⟩, hk.2.1⟩)) hg hat)
                          have n7_ := Aside0.mk (hb)
                          have n8_ := Aside0.mk (ho)
                          clear HO_0
                          clear HO_7
                          clear HL122_0
                          clear HL125_0
                          clear HO130
                          clear HL131_0
                          clear HO136
                          clear HB
                          clear HO_6
                          have HO_0 := n0_
                          have HO_7 := n1_
                          have HL122_0 := n2_
                          have HL125_0 := n3_
                          have HO130 := n4_
                          have HL131_0 := n5_
                          have HO136 := n6_
                          have HB := n7_
                          have HO139 := n8_
                          clear n0_ n1_ n2_ n3_ n4_ n5_ n6_ n7_ n8_
                          clear ho hb hg hat
                          refine hK.out _ _ ?_
                          clear hK K
                          refine norm_ (a' := ?_) ?_ ?_
                          rotate_left
                          · show Act.put _ (some 52) _ = _
                            simp only [Act.put, List.setIfInBounds_toArray, List.set_cons_zero, List.set_cons_succ, i64_w, i32_w]
                            rfl
                          refine pure_ (i := 16) (N := some 6) (v := ?_) (a' := ?_) #[true, true, true, true, true, true, true, true, true, true, true, true, true, true, true, true, true] rfl rfl (any_of HT_.out (by kernel_rfl)) (fun _ _ _ h => h) (Or.inl ⟨by rfl, ?_⟩) ?_ ?_
                          rotate_left
                          · intro w'
                            go_simp
                            with_reducible rfl
                          rotate_left
                          · simp only [Act.put, List.setIfInBounds_toArray, List.set_cons_zero, List.set_cons_succ, i64_w, i32_w]
                            rfl
                          refine done_ (done_of HT_.out (by kernel_rfl)) ?_
                          try go_wp2
                          have n0_ := Aside0.mk (Kd.V_drew HO_0.out)
                          have n1_ := Aside0.mk (Kd.N_drew HO_7.out)
                          have n2_ := Aside0.mk (Kd.V_drew HL122_0.out)
                          have n3_ := Aside0.mk (Kd.V_drew HL125_0.out)
                          have n4_ := Aside0.mk (Kd.V_drew HO130.out)
                          have n5_ := Aside0.mk (Kd.V_drew HL131_0.out)
                          have n6_ := Aside0.mk (Kd.V_drew HO136.out)
                          have n7_ := Aside0.mk (Kd.N_drew HO139.out)
                          have n8_ := Aside0.mk (below_drew1 HB.out)
                          clear HO_0
                          clear HO_7
                          clear HL122_0
                          clear HL125_0
                          clear HO130
                          clear HL131_0
                          clear HO136
                          clear HO139
                          clear HB
                          have HO_0 := n0_
                          have HO_7 := n1_
                          have HL122_0 := n2_
                          have HL125_0 := n3_
                          have HO130 := n4_
                          have HL131_0 := n5_
                          have HO136 := n6_
                          have HO139 := n7_
                          have HB := n8_
                          clear n0_ n1_ n2_ n3_ n4_ n5_ n6_ n7_ n8_
                          have p140 : 0 ≤ (x8_1 : Int) := of_decide_eq_true (by first | (with_reducible assumption) | assumption)
                          have q140 : x8_1 < (l0.length : Int) := of_decide_eq_true (by first | (with_reducible assumption) | assumption)
                          obtain ⟨ad140, A140_0, c140_0, e140, hx140_0, hl140_0, hi140_0⟩ := at_L1 (Kd.V_reads' HO_0.out).2.2 x8_1 p140 q140
                          obtain rfl : ad122 = ad140 := (by injection e140)
                          obtain ⟨ce140, hce140, hMe140, hcc140⟩ := Kd.V_get HO_0.out [] x8_1 p140 (by first | exact q140 | exact of_decide_eq_true (by first | (with_reducible assumption) | assumption) | (have e_ := (Kd.V_reads' HO_0.out).1; omega))
                          obtain ⟨ua140_0, uc140_0, rfl, ul140_0, ge140_0⟩ := Kd.FK_slice_open hMe140
                          have hv140_0 := hcc140 0 _ rfl
                          rw [Nat.add_zero, show ((Kd.slice 4 Kd.bool)).sz = 1 from rfl, Nat.mul_one] at hv140_0
                          replace hv140_0 := Option.some.inj (hv140_0.symm.trans hx140_0)
                          injection hv140_0 with hva_ hvn_ hvc_
                          rw [hva_] at ge140_0
                          rw [hvc_] at ul140_0
                          have HL140_0 := Aside0.mk (show Kd.V Kd.bool 4 _ w.heap.size _ _ (rd_L1 l0 x8_1) from Kd.V_mk ul140_0 ge140_0)
                          clear hva_ hvn_ hvc_ ge140_0 ul140_0
                          clear hcc140 hce140
                          have HR140_0 := Aside0.mk hi140_0
                          have HC140_0 := Aside0.mk hl140_0
                          clear hi140_0 hl140_0
                          replace p140 := eq_true p140
                          replace q140 := eq_true q140
                          have q25 : (t124 : Int) ≤ (((rd_L1 l0 x8_1).length : Int) : Int) := of_decide_eq_true (by first | (with_reducible assumption) | assumption)
                          obtain ⟨i025, hi025, _, hsz25, _⟩ := info_parts info4
                          have hroom25 : (rd_L1 l0 x8_1).length ≤ c140_0 := HC140_0.out
                          have hC25 : Kd.F Kd.bool _ _ A140_0 (rd_L1 l0 x8_1).length (rd_L1 l0 x8_1) := (Kd.V_at (base := w.heap.size) HL140_0.out).2.2
                          have hcut25 := cut_to (P := Try.prog) 35 4 .i64 Try.underlying35 hi025 A140_0 (rd_L1 l0 x8_1).length c140_0 t124 (of_decide_eq_true (by first | (with_reducible assumption) | assumption)) q25 hroom25
                          have hr25 := Kd.F_take (m := (t124 : Int).toNat) hC25 (by omega)
                          have hy25 : y141.length = (t124 : Int).toNat := (by rw [Ny141.out, List.length_take]; omega)
                          rw [← Ny141.out] at hr25
                          rw [← hy25] at hcut25
                          have HO145 := Aside0.mk (show Kd.V Kd.bool 4 _ w.heap.size _ (.slice A140_0 y141.length c140_0) y141 from Kd.V_mk (by omega) hr25)
                          have HC145 := Aside0.mk (show y141.length ≤ c140_0 from by omega)
                          clear hr25 hC25 hroom25 hi025 hsz25
                          have KY25 := Aside0.mk hy25
                          clear hy25
                          replace q25 := eq_true q25
                          have p146 : 0 ≤ (x8_1 : Int) := of_decide_eq_true (by first | (with_reducible assumption) | assumption)
                          have q146 : x8_1 < (l0.length : Int) := of_decide_eq_true (by first | (with_reducible assumption) | assumption)
                          obtain ⟨ad146, A146_0, c146_0, e146, hx146_0, hl146_0, hi146_0⟩ := at_L1 (Kd.V_reads' HO_0.out).2.2 x8_1 p146 q146
                          obtain rfl : ad122 = ad146 := (by injection e146)
                          obtain ⟨ce146, hce146, hMe146, hcc146⟩ := Kd.V_get HO_0.out [] x8_1 p146 (by first | exact q146 | exact of_decide_eq_true (by first | (with_reducible assumption) | assumption) | (have e_ := (Kd.V_reads' HO_0.out).1; omega))
                          obtain ⟨ua146_0, uc146_0, rfl, ul146_0, ge146_0⟩ := Kd.FK_slice_open hMe146
                          have hv146_0 := hcc146 0 _ rfl
                          rw [Nat.add_zero, show ((Kd.slice 4 Kd.bool)).sz = 1 from rfl, Nat.mul_one] at hv146_0
                          replace hv146_0 := Option.some.inj (hv146_0.symm.trans hx146_0)
                          injection hv146_0 with hva_ hvn_ hvc_
                          rw [hva_] at ge146_0
                          rw [hvc_] at ul146_0
                          have HL146_0 := Aside0.mk (show Kd.V Kd.bool 4 _ w.heap.size _ _ (rd_L1 l0 x8_1) from Kd.V_mk ul146_0 ge146_0)
                          clear hva_ hvn_ hvc_ ge146_0 ul146_0
                          clear hcc146 hce146
                          have HR146_0 := Aside0.mk hi146_0
                          have HC146_0 := Aside0.mk hl146_0
                          clear hi146_0 hl146_0
                          replace p146 := eq_true p146
                          replace q146 := eq_true q146
                          have ea_ := Option.some.inj (hx140_0.symm.trans hx146_0)
                          injection ea_ with ea_ en_ ec_
                          subst ea_
                          subst ec_
                          clear en_
                          have q26 : (t124 : Int) ≤ (((rd_L1 l0 x8_1).length : Int) : Int) := of_decide_eq_true (by first | (with_reducible assumption) | assumption)
                          obtain ⟨i026, hi026, _, hsz26, _⟩ := info_parts info4
                          have hroom26 : (rd_L1 l0 x8_1).length ≤ c140_0 := HC146_0.out
                          have hC26 : Kd.F Kd.bool _ _ A140_0 (rd_L1 l0 x8_1).length (rd_L1 l0 x8_1) := (Kd.V_at (base := w.heap.size) HL146_0.out).2.2
                          have q026 : (0 : Int) ≤ (t124 : Int) := of_decide_eq_true (by first | (with_reducible assumption) | assumption)
                          have hcut26 := cut_from (P := Try.prog) 35 4 .i64 Try.underlying35 hi026 1 hsz26 A140_0 (rd_L1 l0 x8_1).length c140_0 t124 q026 q26
                          have hr26 := Kd.F_cut (m := (t124 : Int).toNat) (c := c140_0) hC26 (by omega) hroom26
                          obtain ⟨A26, hA26⟩ : ∃ A1, A1 = (if c140_0 = (t124 : Int).toNat then A140_0 else (A140_0 : Option Addr).map (·.add ((t124 : Int).toNat * 1))) := ⟨_, rfl⟩
                          obtain ⟨c26, hc26⟩ : ∃ c1, c1 = c140_0 - (t124 : Int).toNat := ⟨_, rfl⟩
                          have hy26 : y147.length = (rd_L1 l0 x8_1).length - (t124 : Int).toNat := (by rw [Ny147.out, List.length_drop] <;> omega)
                          rw [show (rd_L1 l0 x8_1).drop (t124 : Int).toNat = y147 from Ny147.out.symm] at hr26
                          replace hr26 : Kd.F Kd.bool _ _ A26 y147.length y147 := (by rw [hA26]; exact hr26)
                          rw [← hy26, ← hA26, ← hc26] at hcut26
                          have HO151 := Aside0.mk (show Kd.V Kd.bool 4 _ w.heap.size _ (.slice A26 y147.length c26) y147 from Kd.V_mk (by rw [hy26, hc26]; exact Nat.sub_le_sub_right hroom26 _) hr26)
                          have HC151 := Aside0.mk (show y147.length ≤ c26 from by rw [hy26, hc26]; exact Nat.sub_le_sub_right hroom26 _)
                          clear hr26 hC26 hroom26 hi026 hsz26 hc26
                          have KY26 := Aside0.mk hy26
                          have KA26 := Aside0.mk hA26
                          clear hy26 hA26
                          replace q26 := eq_true q26
                          refine start_ (n := 17) (S := fun w' => w'.cell? (ad122.add (x8_1).toNat) = some (.slice A140_0 (rd_L1 l0 x8_1).length c140_0) ∧ w'.cell? (ad122.add (x8_1).toNat) = some (.slice A140_0 (rd_L1 l0 x8_1).length c140_0)) (ds := [14, 15]) #[false, false, false, false, false, false, false, false, false, false, false, false, false, false, false, false, false] (by kernel_rfl) rfl rfl ⟨hx140_0, hx146_0⟩ (fun hHeld => ?_); refine with_tabW cruciblelaw12_maps.tab11 cruciblelaw12_maps.bits11 (fun HT_ HW_ => ?_)
                          generalize w23.drew = w24 at HO_0 HO_7 HL122_0 HL125_0 HO130 HL131_0 HO136 HO139 HB HL140_0 HL146_0 HO145 HO151 HR140_0 HR146_0 hx140_0 hx146_0 hHeld ⊢
                          refine pure_ (i := 0) (N := some 53) (v := ?_) (a' := ?_) #[true, false, false, false, false, false, false, false, false, false, false, false, false, false, false, false, false] rfl rfl (any_of HT_.out (by kernel_rfl)) (fun _ _ _ h => h) (Or.inl ⟨by rfl, ?_⟩) ?_ ?_
                          rotate_left
                          · intro w'
                            go_simp
                            with_reducible rfl
                          rotate_left
                          · simp only [Act.put, List.setIfInBounds_toArray, List.set_cons_zero, List.set_cons_succ, i64_w, i32_w]
                            rfl
                          refine pure_ (i := 1) (N := some 54) (v := ?_) (a' := ?_) #[true, true, false, false, false, false, false, false, false, false, false, false, false, false, false, false, false] rfl rfl (any_of HT_.out (by kernel_rfl)) (fun _ _ _ h => h) (Or.inl ⟨by rfl, ?_⟩) ?_ ?_
                          rotate_left
                          · intro w'
                            go_simp
                            with_reducible rfl
                          rotate_left
                          · simp only [Act.put, List.setIfInBounds_toArray, List.set_cons_zero, List.set_cons_succ, i64_w, i32_w]
                            rfl
                          refine pure_ (i := 2) (N := some 55) (v := ?_) (a' := ?_) #[true, true, true, false, false, false, false, false, false, false, false, false, false, false, false, false, false] rfl rfl (any_of HT_.out (by kernel_rfl)) (fun _ _ _ h => h) (Or.inl ⟨by rfl, ?_⟩) ?_ ?_
                          rotate_left
                          · intro w'
                            go_simp
                            with_reducible rfl
                          rotate_left
                          · simp only [Act.put, List.setIfInBounds_toArray, List.set_cons_zero, List.set_cons_succ, i64_w, i32_w]
                            rfl
                          refine pure_ (i := 3) (N := some 56) (v := ?_) (a' := ?_) #[true, true, true, true, false, false, false, false, false, false, false, false, false, false, false, false, false] rfl rfl (any_of HT_.out (by kernel_rfl)) (fun _ _ _ h => h) (Or.inl ⟨by rfl, ?_⟩) ?_ ?_
                          rotate_left
                          · intro w'
                            go_simp
                            with_reducible rfl
                          rotate_left
                          · simp only [Act.put, List.setIfInBounds_toArray, List.set_cons_zero, List.set_cons_succ, i64_w, i32_w]
                            rfl
                          refine pure_ (i := 5) (N := some 58) (v := ?_) (a' := ?_) #[true, true, true, true, false, true, false, false, false, false, false, false, false, false, false, false, false] rfl rfl (any_of HT_.out (by kernel_rfl)) (fun _ _ _ h => h) (Or.inl ⟨by rfl, ?_⟩) ?_ ?_
                          rotate_left
                          · intro w'
                            go_simp
                            with_reducible rfl
                          rotate_left
                          · simp only [Act.put, List.setIfInBounds_toArray, List.set_cons_zero, List.set_cons_succ, i64_w, i32_w]
                            rfl
                          refine pure_ (i := 7) (N := some 60) (v := ?_) (a' := ?_) #[true, true, true, true, false, true, false, true, false, false, false, false, false, false, false, false, false] rfl rfl (any_of HT_.out (by kernel_rfl)) (fun _ _ _ h => h) (Or.inl ⟨by rfl, ?_⟩) ?_ ?_
                          rotate_left
                          · intro w'
                            go_simp
                            with_reducible rfl
                          rotate_left
                          · simp only [Act.put, List.setIfInBounds_toArray, List.set_cons_zero, List.set_cons_succ, i64_w, i32_w]
                            rfl
                          refine pure_ (i := 8) (N := some 61) (v := ?_) (a' := ?_) #[true, true, true, true, false, true, false, true, true, false, false, false, false, false, false, false, false] rfl rfl (any_of HT_.out (by kernel_rfl)) (fun _ _ _ h => h) (Or.inl ⟨by rfl, ?_⟩) ?_ ?_
                          rotate_left
                          · intro w'
                            go_simp
                            with_reducible rfl
                          rotate_left
                          · simp only [Act.put, List.setIfInBounds_toArray, List.set_cons_zero, List.set_cons_succ, i64_w, i32_w]
                            rfl
                          refine pure_ (i := 9) (N := some 62) (v := ?_) (a' := ?_) #[true, true, true, true, false, true, false, true, true, true, false, false, false, false, false, false, false] rfl rfl (any_of HT_.out (by kernel_rfl)) (fun _ _ _ h => h) (Or.inl ⟨by rfl, ?_⟩) ?_ ?_
                          rotate_left
                          · intro w'
                            go_simp
                            with_reducible rfl
                          rotate_left
                          · simp only [Act.put, List.setIfInBounds_toArray, List.set_cons_zero, List.set_cons_succ, i64_w, i32_w]
                            rfl
                          refine pure_ (i := 11) (N := some 64) (v := ?_) (a' := ?_) #[true, true, true, true, false, true, false, true, true, true, false, true, false, false, false, false, false] rfl rfl (any_of HT_.out (by kernel_rfl)) (fun _ _ _ h => h) (Or.inl ⟨by rfl, ?_⟩) ?_ ?_
                          rotate_left
                          · intro w'
                            go_simp
                            with_reducible rfl
                          rotate_left
                          · simp only [Act.put, List.setIfInBounds_toArray, List.set_cons_zero, List.set_cons_succ, i64_w, i32_w]
                            rfl
                          refine take_ (i := 4) (N := some 57) (v := ?_) (a' := ?_) #[true, true, true, true, true, true, false, true, true, true, false, true, false, false, false, false, false] rfl rfl (take_ofW HT_.out HW_.out (by kernel_rfl)) (fun _ _ _ h => h) (Or.inl ⟨by rfl, ?_⟩) hHeld ?_ ?_
                          rotate_left
                          · rintro w' ⟨s0, s1⟩
                            go_simp
                            with_reducible rfl
                          rotate_left
                          · simp only [Act.put, List.setIfInBounds_toArray, List.set_cons_zero, List.set_cons_succ, i64_w, i32_w]
                            rfl
                          refine pure_ (i := 6) (N := some 59) (v := ?_) (a' := ?_) #[true, true, true, true, true, true, true, true, true, true, false, true, false, false, false, false, false] rfl rfl (any_of HT_.out (by kernel_rfl)) (fun _ _ _ h => h) (Or.inl ⟨by rfl, ?_⟩) ?_ ?_
                          rotate_left
                          · intro w'
                            go_simp
                            with_reducible rfl
                          rotate_left
                          · simp only [Act.put, List.setIfInBounds_toArray, List.set_cons_zero, List.set_cons_succ, i64_w, i32_w]
                            rfl
                          refine take_ (i := 10) (N := some 63) (v := ?_) (a' := ?_) #[true, true, true, true, true, true, true, true, true, true, true, true, false, false, false, false, false] rfl rfl (take_ofW HT_.out HW_.out (by kernel_rfl)) (fun _ _ _ h => h) (Or.inl ⟨by rfl, ?_⟩) hHeld ?_ ?_
                          rotate_left
                          · rintro w' ⟨s0, s1⟩
                            go_simp
                            with_reducible rfl
                          rotate_left
                          · simp only [Act.put, List.setIfInBounds_toArray, List.set_cons_zero, List.set_cons_succ, i64_w, i32_w]
                            rfl
                          refine pure_ (i := 12) (N := some 65) (v := ?_) (a' := ?_) #[true, true, true, true, true, true, true, true, true, true, true, true, true, false, false, false, false] rfl rfl (any_of HT_.out (by kernel_rfl)) (fun _ _ _ h => h) (Or.inl ⟨by rfl, ?_⟩) ?_ ?_
                          rotate_left
                          · intro w'
                            go_simp
                            with_reducible rfl
                          rotate_left
                          · simp only [Act.put, List.setIfInBounds_toArray, List.set_cons_zero, List.set_cons_succ, i64_w, i32_w]
                            rfl
                          refine pure_ (i := 13) (N := some 66) (v := ?_) (a' := ?_) #[true, true, true, true, true, true, true, true, true, true, true, true, true, true, false, false, false] rfl rfl (any_of HT_.out (by kernel_rfl)) (fun _ _ _ h => h) (Or.inl ⟨by rfl, ?_⟩) ?_ ?_
                          rotate_left
                          · intro w'
                            go_simp
                            with_reducible rfl
                          rotate_left
                          · simp only [Act.put, List.setIfInBounds_toArray, List.set_cons_zero, List.set_cons_succ, i64_w, i32_w]
                            rfl
                          refine last_ (i := 14) (N := some 67) #[true, true, true, true, true, true, true, true, true, true, true, true, true, true, true, false, false] rfl rfl (one_of HT_.out (by kernel_rfl)) (by decide) (fun K hK => ?_)
                          refine value_ (w1 := ?_) (v := ?_) (by rfl) rfl ?_ ?_
                          rotate_left 2
                          · go_simp
                            constructor
                            · rfl
                            · rfl
                          refine hK.out _ _ ?_
                          clear hK K
                          refine norm_ (a' := ?_) ?_ ?_
                          rotate_left
                          · show Act.put _ (some 67) _ = _
                            simp only [Act.put, List.setIfInBounds_toArray, List.set_cons_zero, List.set_cons_succ, i64_w, i32_w]
                            rfl
                          refine last_ (i := 15) (N := some 68) #[true, true, true, true, true, true, true, true, true, true, true, true, true, true, true, true, false] rfl rfl (one_of HT_.out (by kernel_rfl)) (by decide) (fun K hK => ?_)
                          refine Kd.N_append_step k43 (w0 := w) w.heap.size (by rfl) (.tmp 53) (.tmp 67) 26 43 (.agg #[(.slice none 0 0), (.slice none 0 0)]) 48 rfl Try.underlying26 info43 rfl (by decide) (by omega) u7 x7_1 (⟨y141, y147⟩ : S43) [.slice A140_0 y141.length c140_0, .slice A26 y147.length c26] (fun k_ => (P0_ k_ ∨ w.heap.size ≤ k_) ∧ some k_ ≠ (v138 : Value).ownBlock) (fun k_ => ((fun k_ => (P0_ k_ ∨ w.heap.size ≤ k_) ∧ some k_ ≠ (v138 : Value).ownBlock)) k_ ∧ some k_ ≠ (u7 : Value).ownBlock) rfl rfl ?aP (fun _ hk => hk) ?aF ?aO ?aB ?aS ?aL ?_
                          (case aP => exact (k43_mkF _ _ (⟨y141, y147⟩ : S43) (Kd.V_reads' (Kd.V_mono (ok' := (fun k_ => ((fun k_ => (P0_ k_ ∨ w.heap.size ≤ k_) ∧ some k_ ≠ (v138 : Value).ownBlock)) k_ ∧ some k_ ≠ (u7 : Value).ownBlock)) (HO145.out) (fun k_ hk => ⟨⟨hk.1.1, hk.2⟩, hk.1.2⟩))).2.1 (Kd.V_F (Kd.V_mono (ok' := (fun k_ => ((fun k_ => (P0_ k_ ∨ w.heap.size ≤ k_) ∧ some k_ ≠ (v138 : Value).ownBlock)) k_ ∧ some k_ ≠ (u7 : Value).ownBlock)) (HO145.out) (fun k_ hk => ⟨⟨hk.1.1, hk.2⟩, hk.1.2⟩))) (Kd.V_reads' (Kd.V_mono (ok' := (fun k_ => ((fun k_ => (P0_ k_ ∨ w.heap.size ≤ k_) ∧ some k_ ≠ (v138 : Value).ownBlock)) k_ ∧ some k_ ≠ (u7 : Value).ownBlock)) (HO151.out) (fun k_ hk => ⟨⟨hk.1.1, hk.2⟩, hk.1.2⟩))).2.1 (Kd.V_F (Kd.V_mono (ok' := (fun k_ => ((fun k_ => (P0_ k_ ∨ w.heap.size ≤ k_) ∧ some k_ ≠ (v138 : Value).ownBlock)) k_ ∧ some k_ ≠ (u7 : Value).ownBlock)) (HO151.out) (fun k_ hk => ⟨⟨hk.1.1, hk.2⟩, hk.1.2⟩)))))
                          (case aB => exact (by repeat (first | (with_reducible first | exact HB.out | apply below_alloc | apply pw_below_drewN | apply below_drew1) | exact HB.out)))
                          (case aF => exact (fun k_ hk => ⟨(.inr (Nat.le_trans (below_size (by repeat (first | (with_reducible first | exact HB.out | apply below_alloc | apply pw_below_drewN | apply below_drew1) | exact HB.out))) hk)), Kd.fresh' (Kd.N_lt (by (with_reducible repeat (first | apply Kd.N_alloc | apply Kd.N_drewN | apply Kd.N_drew)); exact HO139.out)) k_ hk⟩))
                          (case aO => exact (by (with_reducible repeat (first | apply Kd.N_alloc | apply Kd.N_drewN | apply Kd.N_drew)); exact HO_7.out))
                          (case aS => exact (below_size (by repeat (first | (with_reducible first | exact HB.out | apply below_alloc | apply pw_below_drewN | apply below_drew1) | exact HB.out))))
                          (case aL => have := LMc19.out; omega)
                          intro v153 w27 ho hb hg hat
                          rw [← Ny152.out] at ho
                          have n0_ := Aside0.mk (Kd.V_afterv (ok := (fun k_ => (P0_ k_ ∨ w.heap.size ≤ k_) ∧ some k_ ≠ (v138 : Value).ownBlock)) (by (with_reducible repeat (first | apply Kd.V_alloc | apply Kd.V_drewN | apply Kd.V_drew)); exact Kd.V_mono HO_0.out (fun _ hk => ⟨⟨hk.1.1, hk.2⟩, hk.1.2⟩)) hg hat)
                          have n1_ := Aside0.mk (Kd.V_afterv (ok := (fun k_ => (P0_ k_ ∨ w.heap.size ≤ k_) ∧ some k_ ≠ (v138 : Value).ownBlock)) (by (with_reducible repeat (first | apply Kd.V_alloc | apply Kd.V_drewN | apply Kd.V_drew)); exact Kd.V_mono HL122_0.out (fun _ hk => ⟨⟨hk.1.1, hk.2⟩, hk.1.2⟩)) hg hat)
                          have n2_ := Aside0.mk (Kd.V_afterv (ok := (fun k_ => (P0_ k_ ∨ w.heap.size ≤ k_) ∧ some k_ ≠ (v138 : Value).ownBlock)) (by (with_reducible repeat (first | apply Kd.V_alloc | apply Kd.V_drewN | apply Kd.V_drew)); exact Kd.V_mono HL125_0.out (fun _ hk => ⟨⟨hk.1.1, hk.2⟩, hk.1.2⟩)) hg hat)
                          have n3_ := Aside0.mk (Kd.V_afterv (ok := (fun k_ => (P0_ k_ ∨ w.heap.size ≤ k_) ∧ some k_ ≠ (v138 : Value).ownBlock)) (by (with_reducible repeat (first | apply Kd.V_alloc | apply Kd.V_drewN | apply Kd.V_drew)); exact Kd.V_mono HO130.out (fun _ hk => ⟨⟨hk.1.1, hk.2⟩, hk.1.2⟩)) hg hat)
                          have n4_ := Aside0.mk (Kd.V_afterv (ok := (fun k_ => (P0_ k_ ∨ w.heap.size ≤ k_) ∧ some k_ ≠ (v138 : Value).ownBlock)) (by (with_reducible repeat (first | apply Kd.V_alloc | apply Kd.V_drewN | apply Kd.V_drew)); exact Kd.V_mono HL131_0.out (fun _ hk => ⟨⟨hk.1.1, hk.2⟩, hk.1.2⟩)) hg hat)
                          have n5_ := Aside0.mk (Kd.V_afterv (ok := (fun k_ => (P0_ k_ ∨ w.heap.size ≤ k_) ∧ some k_ ≠ (v138 : Value).ownBlock)) (by (with_reducible repeat (first | apply Kd.V_alloc | apply Kd.V_drewN | apply Kd.V_drew)); exact Kd.V_mono HO136.out (fun _ hk => ⟨⟨hk.1.1, hk.2⟩, hk.1.2⟩)) hg hat)
                          have n6_ := Aside0.mk (Kd.N_afterv (ok := (fun k_ => (P0_ k_ ∨ w.heap.size ≤ k_))) (by (with_reducible repeat (first | apply Kd.N_alloc | apply Kd.N_drewN | apply Kd.N_drew)); exact HO139.out) hg hat)
                          have n7_ := Aside0.mk (Kd.V_afterv (ok := (fun k_ => (P0_ k_ ∨ w.heap.size ≤ k_) ∧ some k_ ≠ (v138 : Value).ownBlock)) (by (with_reducible repeat (first | apply Kd.V_alloc | apply Kd.V_drewN | apply Kd.V_drew)); exact Kd.V_mono HL140_0.out (fun _ hk => ⟨⟨hk.1.1, hk.2⟩, hk.1.2⟩)) hg hat)
                          have n8_ := Aside0.mk (Kd.V_afterv (ok := (fun k_ => (P0_ k_ ∨ w.heap.size ≤ k_) ∧ some k_ ≠ (v138 : Value).ownBlock)) (by (with_reducible repeat (first | apply Kd.V_alloc | apply Kd.V_drewN | apply Kd.V_drew)); exact Kd.V_mono HO145.out (fun _ hk => ⟨⟨hk.1.1, hk.2⟩, hk.1.2⟩)) hg hat)
                          have n9_ := Aside0.mk (Kd.V_afterv (ok := (fun k_ => (P0_ k_ ∨ w.heap.size ≤ k_) ∧ some k_ ≠ (v138 : Value).ownBlock)) (by (with_reducible repeat (first | apply Kd.V_alloc | apply Kd.V_drewN | apply Kd.V_drew)); exact Kd.V_mono HL146_0.out (fun _ hk => ⟨⟨hk.1.1, hk.2⟩, hk.1.2⟩)) hg hat)
                          have n10_ := Aside0.mk (Kd.V_afterv (ok := (fun k_ => (P0_ k_ ∨ w.heap.size ≤ k_) ∧ some k_ ≠ (v138 : Value).ownBlock)) (by (with_reducible repeat (first | apply Kd.V_alloc | apply Kd.V_drewN | apply Kd.V_drew)); exact Kd.V_mono HO151.out (fun _ hk => ⟨⟨hk.1.1, hk.2⟩, hk.1.2⟩)) hg hat)
                          have n11_ := Aside0.mk (hb)
                          have n12_ := Aside0.mk (ho)
                          clear HO_0
                          clear HL122_0
                          clear HL125_0
                          clear HO130
                          clear HL131_0
                          clear HO136
                          clear HO139
                          clear HL140_0
                          clear HO145
                          clear HL146_0
                          clear HO151
                          clear HB
                          clear HO_7
                          have HO_0 := n0_
                          have HL122_0 := n1_
                          have HL125_0 := n2_
                          have HO130 := n3_
                          have HL131_0 := n4_
                          have HO136 := n5_
                          have HO139 := n6_
                          have HL140_0 := n7_
                          have HO145 := n8_
                          have HL146_0 := n9_
                          have HO151 := n10_
                          have HB := n11_
                          have HO154 := n12_
                          clear n0_ n1_ n2_ n3_ n4_ n5_ n6_ n7_ n8_ n9_ n10_ n11_ n12_
                          clear ho hb hg hat
                          refine hK.out _ _ ?_
                          clear hK K
                          refine norm_ (a' := ?_) ?_ ?_
                          rotate_left
                          · show Act.put _ (some 68) _ = _
                            simp only [Act.put, List.setIfInBounds_toArray, List.set_cons_zero, List.set_cons_succ, i64_w, i32_w]
                            rfl
                          refine pure_ (i := 16) (N := some 7) (v := ?_) (a' := ?_) #[true, true, true, true, true, true, true, true, true, true, true, true, true, true, true, true, true] rfl rfl (any_of HT_.out (by kernel_rfl)) (fun _ _ _ h => h) (Or.inl ⟨by rfl, ?_⟩) ?_ ?_
                          rotate_left
                          · intro w'
                            go_simp
                            with_reducible rfl
                          rotate_left
                          · simp only [Act.put, List.setIfInBounds_toArray, List.set_cons_zero, List.set_cons_succ, i64_w, i32_w]
                            rfl
                          refine done_ (done_of HT_.out (by kernel_rfl)) ?_
                          try go_wp2
                          go_roundg kj2
                          case measure => have := HK1.out; have := HJ2.out; omega
                          case rel => exact ⟨(y137), (y152), (wrap64 (x8_1 + 1)), (by first | rfl | (simp; done) | (simp [*]; done)), H', ⟨by have := HK1.out; have := HJ2.out; omega⟩, ⟨by (with_reducible repeat (first | apply Kd.V_alloc | apply Kd.V_drewN | apply Kd.V_drew)); exact Kd.V_mono HO_0.out (fun _ hk => ⟨hk.1.1, ⟨hk.1.2, hk.2⟩⟩)⟩, ⟨by (with_reducible repeat (first | apply Kd.N_alloc | apply Kd.N_drewN | apply Kd.N_drew)); exact HO139.out⟩, ⟨by (with_reducible repeat (first | apply Kd.N_alloc | apply Kd.N_drewN | apply Kd.N_drew)); exact HO154.out⟩, ⟨by repeat (first | (with_reducible first | exact HB.out | apply below_alloc | apply pw_below_drewN | apply below_drew1) | exact HB.out)⟩⟩
                        · rw [if_neg c19] at H
                          exact absurd H (by simp)
                      · rw [if_neg c14] at H
                        exact absurd H (by simp)
                    · rw [if_neg c11] at H
                      exact absurd H (by simp)
                  · rw [if_neg c10] at H
                    exact absurd H (by simp)
                · rw [if_neg c8] at H
                  have c8b0 : decide (x8_1 < (l1.length : Int)) = false := decide_eq_false c8
                  clear c8
                  by_cases c28 : 0 ≤ ((rd_L1 l0 x8_1).length : Int)
                  · rw [if_pos c28] at H
                    have c28b0 := eq_true c28
                    have c28b1 : decide (0 ≤ ((rd_L1 l0 x8_1).length : Int)) = true := decide_eq_true c28
                    clear c28
                    obtain ⟨y156, hy156⟩ : ∃ y_ : List Bool, y_ = ((rd_L1 l0 x8_1).take 0) := ⟨_, rfl⟩
                    replace H : (if x6_1.length < 2932031007402 then (if x7_1.length < 2932031007402 then (cruciblelaw12_maps.l0 kj2 l0 l1 (x6_1 ++ [(⟨y156, ((rd_L1 l0 x8_1).drop 0)⟩ : S38)]) (x7_1 ++ [(⟨((rd_L1 l0 x8_1).take 0), ((rd_L1 l0 x8_1).drop 0)⟩ : S43)]) (wrap64 (x8_1 + 1))) else (none)) else (none)) = some (r1, r2) := by first | (rw [hy156]; with_reducible exact H) | (have H2_ := (Option.bind_some _ _).symm.trans H; rw [hy156]; with_reducible exact H2_) | (have H2_ := (Option.bind_some _ _).symm.trans H; with_reducible exact H2_) | with_reducible exact H | (rw [hy156]; exact H) | exact H
                    have Ny156 := Aside0.mk hy156
                    clear hy156
                    have c29b0 := eq_true (of_decide_eq_true (by first | (with_reducible assumption) | assumption) : 0 ≤ ((rd_L1 l0 x8_1).length : Int))
                    obtain ⟨y162, hy162⟩ : ∃ y_ : List Bool, y_ = ((rd_L1 l0 x8_1).drop 0) := ⟨_, rfl⟩
                    replace H : (if x6_1.length < 2932031007402 then (if x7_1.length < 2932031007402 then (cruciblelaw12_maps.l0 kj2 l0 l1 (x6_1 ++ [(⟨y156, y162⟩ : S38)]) (x7_1 ++ [(⟨((rd_L1 l0 x8_1).take 0), ((rd_L1 l0 x8_1).drop 0)⟩ : S43)]) (wrap64 (x8_1 + 1))) else (none)) else (none)) = some (r1, r2) := by first | (rw [hy162]; with_reducible exact H) | (have H2_ := (Option.bind_some _ _).symm.trans H; rw [hy162]; with_reducible exact H2_) | (have H2_ := (Option.bind_some _ _).symm.trans H; with_reducible exact H2_) | with_reducible exact H | (rw [hy162]; exact H) | exact H
                    have Ny162 := Aside0.mk hy162
                    clear hy162
                    by_cases c30 : x6_1.length < 2932031007402
                    · rw [if_pos c30] at H
                      have LMc30 := Aside0.mk c30
                      clear c30
                      obtain ⟨y167, hy167⟩ : ∃ y_ : List (S38), y_ = (x6_1 ++ [(⟨y156, y162⟩ : S38)]) := ⟨_, rfl⟩
                      replace H : (if x7_1.length < 2932031007402 then (cruciblelaw12_maps.l0 kj2 l0 l1 y167 (x7_1 ++ [(⟨((rd_L1 l0 x8_1).take 0), ((rd_L1 l0 x8_1).drop 0)⟩ : S43)]) (wrap64 (x8_1 + 1))) else (none)) = some (r1, r2) := by first | (rw [hy167]; with_reducible exact H) | (have H2_ := (Option.bind_some _ _).symm.trans H; rw [hy167]; with_reducible exact H2_) | (have H2_ := (Option.bind_some _ _).symm.trans H; with_reducible exact H2_) | with_reducible exact H | (rw [hy167]; exact H) | exact H
                      have Ny167 := Aside0.mk hy167
                      clear hy167
                      have c31b0 := eq_true (of_decide_eq_true (by first | (with_reducible assumption) | assumption) : 0 ≤ ((rd_L1 l0 x8_1).length : Int))
                      obtain ⟨y171, hy171⟩ : ∃ y_ : List Bool, y_ = ((rd_L1 l0 x8_1).take 0) := ⟨_, rfl⟩
                      replace H : (if x7_1.length < 2932031007402 then (cruciblelaw12_maps.l0 kj2 l0 l1 y167 (x7_1 ++ [(⟨y171, ((rd_L1 l0 x8_1).drop 0)⟩ : S43)]) (wrap64 (x8_1 + 1))) else (none)) = some (r1, r2) := by first | (rw [hy171]; with_reducible exact H) | (have H2_ := (Option.bind_some _ _).symm.trans H; rw [hy171]; with_reducible exact H2_) | (have H2_ := (Option.bind_some _ _).symm.trans H; with_reducible exact H2_) | with_reducible exact H | (rw [hy171]; exact H) | exact H
                      have Ny171 := Aside0.mk hy171
                      clear hy171
                      have c32b0 := eq_true (of_decide_eq_true (by first | (with_reducible assumption) | assumption) : 0 ≤ ((rd_L1 l0 x8_1).length : Int))
                      obtain ⟨y177, hy177⟩ : ∃ y_ : List Bool, y_ = ((rd_L1 l0 x8_1).drop 0) := ⟨_, rfl⟩
                      replace H : (if x7_1.length < 2932031007402 then (cruciblelaw12_maps.l0 kj2 l0 l1 y167 (x7_1 ++ [(⟨y171, y177⟩ : S43)]) (wrap64 (x8_1 + 1))) else (none)) = some (r1, r2) := by first | (rw [hy177]; with_reducible exact H) | (have H2_ := (Option.bind_some _ _).symm.trans H; rw [hy177]; with_reducible exact H2_) | (have H2_ := (Option.bind_some _ _).symm.trans H; with_reducible exact H2_) | with_reducible exact H | (rw [hy177]; exact H) | exact H
                      have Ny177 := Aside0.mk hy177
                      clear hy177
                      by_cases c33 : x7_1.length < 2932031007402
                      · rw [if_pos c33] at H
                        have LMc33 := Aside0.mk c33
                        clear c33
                        obtain ⟨y182, hy182⟩ : ∃ y_ : List (S43), y_ = (x7_1 ++ [(⟨y171, y177⟩ : S43)]) := ⟨_, rfl⟩
                        replace H : (cruciblelaw12_maps.l0 kj2 l0 l1 y167 y182 (wrap64 (x8_1 + 1))) = some (r1, r2) := by first | (rw [hy182]; with_reducible exact H) | (have H2_ := (Option.bind_some _ _).symm.trans H; rw [hy182]; with_reducible exact H2_) | (have H2_ := (Option.bind_some _ _).symm.trans H; with_reducible exact H2_) | with_reducible exact H | (rw [hy182]; exact H) | exact H
                        have Ny182 := Aside0.mk hy182
                        clear hy182
                        have H' := Aside0.mk H
                        clear H
                        have p122 : 0 ≤ (x8_1 : Int) := of_decide_eq_true (by first | (with_reducible assumption) | assumption)
                        have q122 : x8_1 < (l0.length : Int) := of_decide_eq_true (by first | (with_reducible assumption) | assumption)
                        obtain ⟨ad122, A122_0, c122_0, e122, hx122_0, hl122_0, hi122_0⟩ := at_L1 (Kd.V_reads' HO_0.out).2.2 x8_1 p122 q122
                        cases e122
                        obtain ⟨ce122, hce122, hMe122, hcc122⟩ := Kd.V_get HO_0.out [] x8_1 p122 (by first | exact q122 | exact of_decide_eq_true (by first | (with_reducible assumption) | assumption) | (have e_ := (Kd.V_reads' HO_0.out).1; omega))
                        obtain ⟨ua122_0, uc122_0, rfl, ul122_0, ge122_0⟩ := Kd.FK_slice_open hMe122
                        have hv122_0 := hcc122 0 _ rfl
                        rw [Nat.add_zero, show ((Kd.slice 4 Kd.bool)).sz = 1 from rfl, Nat.mul_one] at hv122_0
                        replace hv122_0 := Option.some.inj (hv122_0.symm.trans hx122_0)
                        injection hv122_0 with hva_ hvn_ hvc_
                        rw [hva_] at ge122_0
                        rw [hvc_] at ul122_0
                        have HL122_0 := Aside0.mk (show Kd.V Kd.bool 4 _ w.heap.size _ _ (rd_L1 l0 x8_1) from Kd.V_mk ul122_0 ge122_0)
                        clear hva_ hvn_ hvc_ ge122_0 ul122_0
                        clear hcc122 hce122
                        have HR122_0 := Aside0.mk hi122_0
                        have HC122_0 := Aside0.mk hl122_0
                        clear hi122_0 hl122_0
                        replace p122 := eq_true p122
                        replace q122 := eq_true q122
                        try go_wp2
                        have n0_ := Aside0.mk (Kd.V_drew HO_0.out)
                        have n1_ := Aside0.mk (Kd.N_drew HO_6.out)
                        have n2_ := Aside0.mk (Kd.N_drew HO_7.out)
                        have n3_ := Aside0.mk (Kd.V_drew HL122_0.out)
                        have n4_ := Aside0.mk (Kd.C_drew HR122_0.out)
                        have n5_ := Aside0.mk (below_drew1 HB.out)
                        clear HO_0
                        clear HO_6
                        clear HO_7
                        clear HL122_0
                        clear HR122_0
                        clear HB
                        have HO_0 := n0_
                        have HO_6 := n1_
                        have HO_7 := n2_
                        have HL122_0 := n3_
                        have HR122_0 := n4_
                        have HB := n5_
                        clear n0_ n1_ n2_ n3_ n4_ n5_
                        have p155 : 0 ≤ (x8_1 : Int) := of_decide_eq_true (by first | (with_reducible assumption) | assumption)
                        have q155 : x8_1 < (l0.length : Int) := of_decide_eq_true (by first | (with_reducible assumption) | assumption)
                        obtain ⟨ad155, A155_0, c155_0, e155, hx155_0, hl155_0, hi155_0⟩ := at_L1 (Kd.V_reads' HO_0.out).2.2 x8_1 p155 q155
                        obtain rfl : ad122 = ad155 := (by injection e155)
                        obtain ⟨ce155, hce155, hMe155, hcc155⟩ := Kd.V_get HO_0.out [] x8_1 p155 (by first | exact q155 | exact of_decide_eq_true (by first | (with_reducible assumption) | assumption) | (have e_ := (Kd.V_reads' HO_0.out).1; omega))
                        obtain ⟨ua155_0, uc155_0, rfl, ul155_0, ge155_0⟩ := Kd.FK_slice_open hMe155
                        have hv155_0 := hcc155 0 _ rfl
                        rw [Nat.add_zero, show ((Kd.slice 4 Kd.bool)).sz = 1 from rfl, Nat.mul_one] at hv155_0
                        replace hv155_0 := Option.some.inj (hv155_0.symm.trans hx155_0)
                        injection hv155_0 with hva_ hvn_ hvc_
                        rw [hva_] at ge155_0
                        rw [hvc_] at ul155_0
                        have HL155_0 := Aside0.mk (show Kd.V Kd.bool 4 _ w.heap.size _ _ (rd_L1 l0 x8_1) from Kd.V_mk ul155_0 ge155_0)
                        clear hva_ hvn_ hvc_ ge155_0 ul155_0
                        clear hcc155 hce155
                        have HR155_0 := Aside0.mk hi155_0
                        have HC155_0 := Aside0.mk hl155_0
                        clear hi155_0 hl155_0
                        replace p155 := eq_true p155
                        replace q155 := eq_true q155
                        have q35 : (0 : Int) ≤ (((rd_L1 l0 x8_1).length : Int) : Int) := of_decide_eq_true (by first | (with_reducible assumption) | assumption)
                        obtain ⟨i035, hi035, _, hsz35, _⟩ := info_parts info4
                        have hroom35 : (rd_L1 l0 x8_1).length ≤ c155_0 := HC155_0.out
                        have hC35 : Kd.F Kd.bool _ _ A155_0 (rd_L1 l0 x8_1).length (rd_L1 l0 x8_1) := (Kd.V_at (base := w.heap.size) HL155_0.out).2.2
                        have hcut35 := cut_to (P := Try.prog) 35 4 .i64 Try.underlying35 hi035 A155_0 (rd_L1 l0 x8_1).length c155_0 0 (by omega) q35 hroom35
                        have hr35 := Kd.F_take (m := 0) hC35 (by omega)
                        have hy35 : y156.length = (0 : Int).toNat := (by rw [Ny156.out, List.length_take]; omega)
                        rw [← Ny156.out] at hr35
                        rw [← hy35] at hcut35
                        have HO160 := Aside0.mk (show Kd.V Kd.bool 4 _ w.heap.size _ (.slice A155_0 y156.length c155_0) y156 from Kd.V_mk (by omega) hr35)
                        have HC160 := Aside0.mk (show y156.length ≤ c155_0 from by omega)
                        clear hr35 hC35 hroom35 hi035 hsz35
                        have KY35 := Aside0.mk hy35
                        clear hy35
                        replace q35 := eq_true q35
                        have p161 : 0 ≤ (x8_1 : Int) := of_decide_eq_true (by first | (with_reducible assumption) | assumption)
                        have q161 : x8_1 < (l0.length : Int) := of_decide_eq_true (by first | (with_reducible assumption) | assumption)
                        obtain ⟨ad161, A161_0, c161_0, e161, hx161_0, hl161_0, hi161_0⟩ := at_L1 (Kd.V_reads' HO_0.out).2.2 x8_1 p161 q161
                        obtain rfl : ad122 = ad161 := (by injection e161)
                        obtain ⟨ce161, hce161, hMe161, hcc161⟩ := Kd.V_get HO_0.out [] x8_1 p161 (by first | exact q161 | exact of_decide_eq_true (by first | (with_reducible assumption) | assumption) | (have e_ := (Kd.V_reads' HO_0.out).1; omega))
                        obtain ⟨ua161_0, uc161_0, rfl, ul161_0, ge161_0⟩ := Kd.FK_slice_open hMe161
                        have hv161_0 := hcc161 0 _ rfl
                        rw [Nat.add_zero, show ((Kd.slice 4 Kd.bool)).sz = 1 from rfl, Nat.mul_one] at hv161_0
                        replace hv161_0 := Option.some.inj (hv161_0.symm.trans hx161_0)
                        injection hv161_0 with hva_ hvn_ hvc_
                        rw [hva_] at ge161_0
                        rw [hvc_] at ul161_0
                        have HL161_0 := Aside0.mk (show Kd.V Kd.bool 4 _ w.heap.size _ _ (rd_L1 l0 x8_1) from Kd.V_mk ul161_0 ge161_0)
                        clear hva_ hvn_ hvc_ ge161_0 ul161_0
                        clear hcc161 hce161
                        have HR161_0 := Aside0.mk hi161_0
                        have HC161_0 := Aside0.mk hl161_0
                        clear hi161_0 hl161_0
                        replace p161 := eq_true p161
                        replace q161 := eq_true q161
                        have ea_ := Option.some.inj (hx155_0.symm.trans hx161_0)
                        injection ea_ with ea_ en_ ec_
                        subst ea_
                        subst ec_
                        clear en_
                        have q36 : (0 : Int) ≤ (((rd_L1 l0 x8_1).length : Int) : Int) := of_decide_eq_true (by first | (with_reducible assumption) | assumption)
                        obtain ⟨i036, hi036, _, hsz36, _⟩ := info_parts info4
                        have hroom36 : (rd_L1 l0 x8_1).length ≤ c155_0 := HC161_0.out
                        have hC36 : Kd.F Kd.bool _ _ A155_0 (rd_L1 l0 x8_1).length (rd_L1 l0 x8_1) := (Kd.V_at (base := w.heap.size) HL161_0.out).2.2
                        have hcut36 := cut_from (P := Try.prog) 35 4 .i64 Try.underlying35 hi036 1 hsz36 A155_0 (rd_L1 l0 x8_1).length c155_0 0 (by omega) q36
                        have hr36 := Kd.F_cut (m := (0 : Int).toNat) (c := c155_0) hC36 (by omega) hroom36
                        obtain ⟨A36, hA36⟩ : ∃ A1, A1 = (if c155_0 = (0 : Int).toNat then A155_0 else (A155_0 : Option Addr).map (·.add ((0 : Int).toNat * 1))) := ⟨_, rfl⟩
                        obtain ⟨c36, hc36⟩ : ∃ c1, c1 = c155_0 - (0 : Int).toNat := ⟨_, rfl⟩
                        have hy36 : y162.length = (rd_L1 l0 x8_1).length - (0 : Int).toNat := (by rw [Ny162.out, List.length_drop] <;> omega)
                        rw [show (rd_L1 l0 x8_1).drop (0 : Int).toNat = y162 from Ny162.out.symm] at hr36
                        replace hr36 : Kd.F Kd.bool _ _ A36 y162.length y162 := (by rw [hA36]; exact hr36)
                        rw [← hy36, ← hA36, ← hc36] at hcut36
                        have HO166 := Aside0.mk (show Kd.V Kd.bool 4 _ w.heap.size _ (.slice A36 y162.length c36) y162 from Kd.V_mk (by rw [hy36, hc36]; exact Nat.sub_le_sub_right hroom36 _) hr36)
                        have HC166 := Aside0.mk (show y162.length ≤ c36 from by rw [hy36, hc36]; exact Nat.sub_le_sub_right hroom36 _)
                        clear hr36 hC36 hroom36 hi036 hsz36 hc36
                        have KY36 := Aside0.mk hy36
                        have KA36 := Aside0.mk hA36
                        clear hy36 hA36
                        replace q36 := eq_true q36
                        refine start_ (n := 17) (S := fun w' => w'.cell? (ad122.add (x8_1).toNat) = some (.slice A155_0 (rd_L1 l0 x8_1).length c155_0) ∧ w'.cell? (ad122.add (x8_1).toNat) = some (.slice A155_0 (rd_L1 l0 x8_1).length c155_0)) (ds := [14, 15]) #[false, false, false, false, false, false, false, false, false, false, false, false, false, false, false, false, false] (by kernel_rfl) rfl rfl ⟨hx155_0, hx161_0⟩ (fun hHeld => ?_); refine with_tabW cruciblelaw12_maps.tab10 cruciblelaw12_maps.bits10 (fun HT_ HW_ => ?_)
                        generalize wc.drew = w34 at HO_0 HO_6 HO_7 HL122_0 HR122_0 HB HL155_0 HL161_0 HO160 HO166 HR155_0 HR161_0 hx155_0 hx161_0 hHeld ⊢
                        refine pure_ (i := 0) (N := some 37) (v := ?_) (a' := ?_) #[true, false, false, false, false, false, false, false, false, false, false, false, false, false, false, false, false] rfl rfl (any_of HT_.out (by kernel_rfl)) (fun _ _ _ h => h) (Or.inl ⟨by rfl, ?_⟩) ?_ ?_
                        rotate_left
                        · intro w'
                          go_simp
                          with_reducible rfl
                        rotate_left
                        · simp only [Act.put, List.setIfInBounds_toArray, List.set_cons_zero, List.set_cons_succ, i64_w, i32_w]
                          rfl
                        refine pure_ (i := 1) (N := some 38) (v := ?_) (a' := ?_) #[true, true, false, false, false, false, false, false, false, false, false, false, false, false, false, false, false] rfl rfl (any_of HT_.out (by kernel_rfl)) (fun _ _ _ h => h) (Or.inl ⟨by rfl, ?_⟩) ?_ ?_
                        rotate_left
                        · intro w'
                          go_simp
                          with_reducible rfl
                        rotate_left
                        · simp only [Act.put, List.setIfInBounds_toArray, List.set_cons_zero, List.set_cons_succ, i64_w, i32_w]
                          rfl
                        refine pure_ (i := 2) (N := some 39) (v := ?_) (a' := ?_) #[true, true, true, false, false, false, false, false, false, false, false, false, false, false, false, false, false] rfl rfl (any_of HT_.out (by kernel_rfl)) (fun _ _ _ h => h) (Or.inl ⟨by rfl, ?_⟩) ?_ ?_
                        rotate_left
                        · intro w'
                          go_simp
                          with_reducible rfl
                        rotate_left
                        · simp only [Act.put, List.setIfInBounds_toArray, List.set_cons_zero, List.set_cons_succ, i64_w, i32_w]
                          rfl
                        refine pure_ (i := 3) (N := some 40) (v := ?_) (a' := ?_) #[true, true, true, true, false, false, false, false, false, false, false, false, false, false, false, false, false] rfl rfl (any_of HT_.out (by kernel_rfl)) (fun _ _ _ h => h) (Or.inl ⟨by rfl, ?_⟩) ?_ ?_
                        rotate_left
                        · intro w'
                          go_simp
                          with_reducible rfl
                        rotate_left
                        · simp only [Act.put, List.setIfInBounds_toArray, List.set_cons_zero, List.set_cons_succ, i64_w, i32_w]
                          rfl
                        refine pure_ (i := 5) (N := some 42) (v := ?_) (a' := ?_) #[true, true, true, true, false, true, false, false, false, false, false, false, false, false, false, false, false] rfl rfl (any_of HT_.out (by kernel_rfl)) (fun _ _ _ h => h) (Or.inl ⟨by rfl, ?_⟩) ?_ ?_
                        rotate_left
                        · intro w'
                          go_simp
                          with_reducible rfl
                        rotate_left
                        · simp only [Act.put, List.setIfInBounds_toArray, List.set_cons_zero, List.set_cons_succ, i64_w, i32_w]
                          rfl
                        refine pure_ (i := 7) (N := some 44) (v := ?_) (a' := ?_) #[true, true, true, true, false, true, false, true, false, false, false, false, false, false, false, false, false] rfl rfl (any_of HT_.out (by kernel_rfl)) (fun _ _ _ h => h) (Or.inl ⟨by rfl, ?_⟩) ?_ ?_
                        rotate_left
                        · intro w'
                          go_simp
                          with_reducible rfl
                        rotate_left
                        · simp only [Act.put, List.setIfInBounds_toArray, List.set_cons_zero, List.set_cons_succ, i64_w, i32_w]
                          rfl
                        refine pure_ (i := 8) (N := some 45) (v := ?_) (a' := ?_) #[true, true, true, true, false, true, false, true, true, false, false, false, false, false, false, false, false] rfl rfl (any_of HT_.out (by kernel_rfl)) (fun _ _ _ h => h) (Or.inl ⟨by rfl, ?_⟩) ?_ ?_
                        rotate_left
                        · intro w'
                          go_simp
                          with_reducible rfl
                        rotate_left
                        · simp only [Act.put, List.setIfInBounds_toArray, List.set_cons_zero, List.set_cons_succ, i64_w, i32_w]
                          rfl
                        refine pure_ (i := 9) (N := some 46) (v := ?_) (a' := ?_) #[true, true, true, true, false, true, false, true, true, true, false, false, false, false, false, false, false] rfl rfl (any_of HT_.out (by kernel_rfl)) (fun _ _ _ h => h) (Or.inl ⟨by rfl, ?_⟩) ?_ ?_
                        rotate_left
                        · intro w'
                          go_simp
                          with_reducible rfl
                        rotate_left
                        · simp only [Act.put, List.setIfInBounds_toArray, List.set_cons_zero, List.set_cons_succ, i64_w, i32_w]
                          rfl
                        refine pure_ (i := 11) (N := some 48) (v := ?_) (a' := ?_) #[true, true, true, true, false, true, false, true, true, true, false, true, false, false, false, false, false] rfl rfl (any_of HT_.out (by kernel_rfl)) (fun _ _ _ h => h) (Or.inl ⟨by rfl, ?_⟩) ?_ ?_
                        rotate_left
                        · intro w'
                          go_simp
                          with_reducible rfl
                        rotate_left
                        · simp only [Act.put, List.setIfInBounds_toArray, List.set_cons_zero, List.set_cons_succ, i64_w, i32_w]
                          rfl
                        refine take_ (i := 4) (N := some 41) (v := ?_) (a' := ?_) #[true, true, true, true, true, true, false, true, true, true, false, true, false, false, false, false, false] rfl rfl (take_ofW HT_.out HW_.out (by kernel_rfl)) (fun _ _ _ h => h) (Or.inl ⟨by rfl, ?_⟩) hHeld ?_ ?_
                        rotate_left
                        · rintro w' ⟨s0, s1⟩
                          go_simp
                          with_reducible rfl
                        rotate_left
                        · simp only [Act.put, List.setIfInBounds_toArray, List.set_cons_zero, List.set_cons_succ, i64_w, i32_w]
                          rfl
                        refine pure_ (i := 6) (N := some 43) (v := ?_) (a' := ?_) #[true, true, true, true, true, true, true, true, true, true, false, true, false, false, false, false, false] rfl rfl (any_of HT_.out (by kernel_rfl)) (fun _ _ _ h => h) (Or.inl ⟨by rfl, ?_⟩) ?_ ?_
                        rotate_left
                        · intro w'
                          go_simp
                          with_reducible rfl
                        rotate_left
                        · simp only [Act.put, List.setIfInBounds_toArray, List.set_cons_zero, List.set_cons_succ, i64_w, i32_w]
                          rfl
                        refine take_ (i := 10) (N := some 47) (v := ?_) (a' := ?_) #[true, true, true, true, true, true, true, true, true, true, true, true, false, false, false, false, false] rfl rfl (take_ofW HT_.out HW_.out (by kernel_rfl)) (fun _ _ _ h => h) (Or.inl ⟨by rfl, ?_⟩) hHeld ?_ ?_
                        rotate_left
                        · rintro w' ⟨s0, s1⟩
                          go_simp
                          with_reducible rfl
                        rotate_left
                        · simp only [Act.put, List.setIfInBounds_toArray, List.set_cons_zero, List.set_cons_succ, i64_w, i32_w]
                          rfl
                        refine pure_ (i := 12) (N := some 49) (v := ?_) (a' := ?_) #[true, true, true, true, true, true, true, true, true, true, true, true, true, false, false, false, false] rfl rfl (any_of HT_.out (by kernel_rfl)) (fun _ _ _ h => h) (Or.inl ⟨by rfl, ?_⟩) ?_ ?_
                        rotate_left
                        · intro w'
                          go_simp
                          with_reducible rfl
                        rotate_left
                        · simp only [Act.put, List.setIfInBounds_toArray, List.set_cons_zero, List.set_cons_succ, i64_w, i32_w]
                          rfl
                        refine pure_ (i := 13) (N := some 50) (v := ?_) (a' := ?_) #[true, true, true, true, true, true, true, true, true, true, true, true, true, true, false, false, false] rfl rfl (any_of HT_.out (by kernel_rfl)) (fun _ _ _ h => h) (Or.inl ⟨by rfl, ?_⟩) ?_ ?_
                        rotate_left
                        · intro w'
                          go_simp
                          with_reducible rfl
                        rotate_left
                        · simp only [Act.put, List.setIfInBounds_toArray, List.set_cons_zero, List.set_cons_succ, i64_w, i32_w]
                          rfl
                        refine last_ (i := 14) (N := some 51) #[true, true, true, true, true, true, true, true, true, true, true, true, true, true, true, false, false] rfl rfl (one_of HT_.out (by kernel_rfl)) (by decide) (fun K hK => ?_)
                        refine value_ (w1 := ?_) (v := ?_) (by rfl) rfl ?_ ?_
                        rotate_left 2
                        · go_simp
                          constructor
                          · rfl
                          · rfl
                        refine hK.out _ _ ?_
                        clear hK K
                        refine norm_ (a' := ?_) ?_ ?_
                        rotate_left
                        · show Act.put _ (some 51) _ = _
                          simp only [Act.put, List.setIfInBounds_toArray, List.set_cons_zero, List.set_cons_succ, i64_w, i32_w]
                          rfl
                        refine last_ (i := 15) (N := some 52) #[true, true, true, true, true, true, true, true, true, true, true, true, true, true, true, true, false] rfl rfl (one_of HT_.out (by kernel_rfl)) (by decide) (fun K hK => ?_)
                        refine Kd.N_append_step k38 (w0 := w) w.heap.size (by rfl) (.tmp 37) (.tmp 51) 25 38 (.agg #[(.slice none 0 0), (.slice none 0 0)]) 48 rfl Try.underlying25 info38 rfl (by decide) (by omega) u6 x6_1 (⟨y156, y162⟩ : S38) [.slice A155_0 y156.length c155_0, .slice A36 y162.length c36] (fun k_ => (P0_ k_ ∨ w.heap.size ≤ k_) ∧ some k_ ≠ (u7 : Value).ownBlock) (fun k_ => ((fun k_ => (P0_ k_ ∨ w.heap.size ≤ k_) ∧ some k_ ≠ (u7 : Value).ownBlock)) k_ ∧ some k_ ≠ (u6 : Value).ownBlock) rfl rfl ?aP (fun _ hk => hk) ?aF ?aO ?aB ?aS ?aL ?_
                        (case aP => exact (k38_mkF _ _ (⟨y156, y162⟩ : S38) (Kd.V_reads' (Kd.V_mono (ok' := (fun k_ => ((fun k_ => (P0_ k_ ∨ w.heap.size ≤ k_) ∧ some k_ ≠ (u7 : Value).ownBlock)) k_ ∧ some k_ ≠ (u6 : Value).ownBlock)) (HO160.out) (fun k_ hk => ⟨⟨hk.1, hk.2.2⟩, hk.2.1⟩))).2.1 (Kd.V_F (Kd.V_mono (ok' := (fun k_ => ((fun k_ => (P0_ k_ ∨ w.heap.size ≤ k_) ∧ some k_ ≠ (u7 : Value).ownBlock)) k_ ∧ some k_ ≠ (u6 : Value).ownBlock)) (HO160.out) (fun k_ hk => ⟨⟨hk.1, hk.2.2⟩, hk.2.1⟩))) (Kd.V_reads' (Kd.V_mono (ok' := (fun k_ => ((fun k_ => (P0_ k_ ∨ w.heap.size ≤ k_) ∧ some k_ ≠ (u7 : Value).ownBlock)) k_ ∧ some k_ ≠ (u6 : Value).ownBlock)) (HO166.out) (fun k_ hk => ⟨⟨hk.1, hk.2.2⟩, hk.2.1⟩))).2.1 (Kd.V_F (Kd.V_mono (ok' := (fun k_ => ((fun k_ => (P0_ k_ ∨ w.heap.size ≤ k_) ∧ some k_ ≠ (u7 : Value).ownBlock)) k_ ∧ some k_ ≠ (u6 : Value).ownBlock)) (HO166.out) (fun k_ hk => ⟨⟨hk.1, hk.2.2⟩, hk.2.1⟩)))))
                        (case aB => exact (by repeat (first | (with_reducible first | exact HB.out | apply below_alloc | apply pw_below_drewN | apply below_drew1) | exact HB.out)))
                        (case aF => exact (fun k_ hk => ⟨(.inr (Nat.le_trans (below_size (by repeat (first | (with_reducible first | exact HB.out | apply below_alloc | apply pw_below_drewN | apply below_drew1) | exact HB.out))) hk)), Kd.fresh' (Kd.N_lt (by (with_reducible repeat (first | apply Kd.N_alloc | apply Kd.N_drewN | apply Kd.N_drew)); exact HO_7.out)) k_ hk⟩))
                        (case aO => exact (by (with_reducible repeat (first | apply Kd.N_alloc | apply Kd.N_drewN | apply Kd.N_drew)); exact HO_6.out))
                        (case aS => exact (below_size (by repeat (first | (with_reducible first | exact HB.out | apply below_alloc | apply pw_below_drewN | apply below_drew1) | exact HB.out))))
                        (case aL => have := LMc30.out; omega)
                        intro v168 w37 ho hb hg hat
                        rw [← Ny167.out] at ho
                        have n0_ := Aside0.mk (Kd.V_afterv (ok := (fun k_ => (P0_ k_ ∨ w.heap.size ≤ k_) ∧ some k_ ≠ (u7 : Value).ownBlock)) (by (with_reducible repeat (first | apply Kd.V_alloc | apply Kd.V_drewN | apply Kd.V_drew)); exact Kd.V_mono HO_0.out (fun _ hk => ⟨⟨hk.1, hk.2.2⟩, hk.2.1⟩)) hg hat)
                        have n1_ := Aside0.mk (Kd.N_afterv (ok := (fun k_ => (P0_ k_ ∨ w.heap.size ≤ k_))) (by (with_reducible repeat (first | apply Kd.N_alloc | apply Kd.N_drewN | apply Kd.N_drew)); exact HO_7.out) hg hat)
                        have n2_ := Aside0.mk (Kd.V_afterv (ok := (fun k_ => (P0_ k_ ∨ w.heap.size ≤ k_) ∧ some k_ ≠ (u7 : Value).ownBlock)) (by (with_reducible repeat (first | apply Kd.V_alloc | apply Kd.V_drewN | apply Kd.V_drew)); exact Kd.V_mono HL122_0.out (fun _ hk => ⟨⟨hk.1, hk.2.2⟩, hk.2.1⟩)) hg hat)
                        have n3_ := Aside0.mk (Kd.V_afterv (ok := (fun k_ => (P0_ k_ ∨ w.heap.size ≤ k_) ∧ some k_ ≠ (u7 : Value).ownBlock)) (by (with_reducible repeat (first | apply Kd.V_alloc | apply Kd.V_drewN | apply Kd.V_drew)); exact Kd.V_mono HL155_0.out (fun _ hk => ⟨⟨hk.1, hk.2.2⟩, hk.2.1⟩)) hg hat)
                        have n4_ := Aside0.mk (Kd.V_afterv (ok := (fun k_ => (P0_ k_ ∨ w.heap.size ≤ k_) ∧ some k_ ≠ (u7 : Value).ownBlock)) (by (with_reducible repeat (first | apply Kd.V_alloc | apply Kd.V_drewN | apply Kd.V_drew)); exact Kd.V_mono HO160.out (fun _ hk => ⟨⟨hk.1, hk.2.2⟩, hk.2.1⟩)) hg hat)
                        have n5_ := Aside0.mk (Kd.V_afterv (ok := (fun k_ => (P0_ k_ ∨ w.heap.size ≤ k_) ∧ some k_ ≠ (u7 : Value).ownBlock)) (by (with_reducible repeat (first | apply Kd.V_alloc | apply Kd.V_drewN | apply Kd.V_drew)); exact Kd.V_mono HL161_0.out (fun _ hk => ⟨⟨hk.1, hk.2.2⟩, hk.2.1⟩)) hg hat)
                        have n6_ := Aside0.mk (Kd.V_afterv (ok := (fun k_ => (P0_ k_ ∨ w.heap.size ≤ k_) ∧ some k_ ≠ (u7 : Value).ownBlock)) (by (with_reducible repeat (first | apply Kd.V_alloc | apply Kd.V_drewN | apply Kd.V_drew)); exact Kd.V_mono HO166.out (fun _ hk => ⟨⟨hk.1, hk.2.2⟩, hk.2.1⟩)) hg hat)
                        have n7_ := Aside0.mk (hb)
                        have n8_ := Aside0.mk (ho)
                        clear HO_0
                        clear HO_7
                        clear HL122_0
                        clear HL155_0
                        clear HO160
                        clear HL161_0
                        clear HO166
                        clear HB
                        clear HO_6
                        have HO_0 := n0_
                        have HO_7 := n1_
                        have HL122_0 := n2_
                        have HL155_0 := n3_
                        have HO160 := n4_
                        have HL161_0 := n5_
                        have HO166 := n6_
                        have HB := n7_
                        have HO169 := n8_
                        clear n0_ n1_ n2_ n3_ n4_ n5_ n6_ n7_ n8_
                        clear ho hb hg hat
                        refine hK.out _ _ ?_
                        clear hK K
                        refine norm_ (a' := ?_) ?_ ?_
                        rotate_left
                        · show Act.put _ (some 52) _ = _
                          simp only [Act.put, List.setIfInBounds_toArray, List.set_cons_zero, List.set_cons_succ, i64_w, i32_w]
                          rfl
                        refine pure_ (i := 16) (N := some 6) (v := ?_) (a' := ?_) #[true, true, true, true, true, true, true, true, true, true, true, true, true, true, true, true, true] rfl rfl (any_of HT_.out (by kernel_rfl)) (fun _ _ _ h => h) (Or.inl ⟨by rfl, ?_⟩) ?_ ?_
                        rotate_left
                        · intro w'
                          go_simp
                          with_reducible rfl
                        rotate_left
                        · simp only [Act.put, List.setIfInBounds_toArray, List.set_cons_zero, List.set_cons_succ, i64_w, i32_w]
                          rfl
                        refine done_ (done_of HT_.out (by kernel_rfl)) ?_
                        try go_wp2
                        have n0_ := Aside0.mk (Kd.V_drew HO_0.out)
                        have n1_ := Aside0.mk (Kd.N_drew HO_7.out)
                        have n2_ := Aside0.mk (Kd.V_drew HL122_0.out)
                        have n3_ := Aside0.mk (Kd.V_drew HL155_0.out)
                        have n4_ := Aside0.mk (Kd.V_drew HO160.out)
                        have n5_ := Aside0.mk (Kd.V_drew HL161_0.out)
                        have n6_ := Aside0.mk (Kd.V_drew HO166.out)
                        have n7_ := Aside0.mk (Kd.N_drew HO169.out)
                        have n8_ := Aside0.mk (below_drew1 HB.out)
                        clear HO_0
                        clear HO_7
                        clear HL122_0
                        clear HL155_0
                        clear HO160
                        clear HL161_0
                        clear HO166
                        clear HO169
                        clear HB
                        have HO_0 := n0_
                        have HO_7 := n1_
                        have HL122_0 := n2_
                        have HL155_0 := n3_
                        have HO160 := n4_
                        have HL161_0 := n5_
                        have HO166 := n6_
                        have HO169 := n7_
                        have HB := n8_
                        clear n0_ n1_ n2_ n3_ n4_ n5_ n6_ n7_ n8_
                        have p170 : 0 ≤ (x8_1 : Int) := of_decide_eq_true (by first | (with_reducible assumption) | assumption)
                        have q170 : x8_1 < (l0.length : Int) := of_decide_eq_true (by first | (with_reducible assumption) | assumption)
                        obtain ⟨ad170, A170_0, c170_0, e170, hx170_0, hl170_0, hi170_0⟩ := at_L1 (Kd.V_reads' HO_0.out).2.2 x8_1 p170 q170
                        obtain rfl : ad122 = ad170 := (by injection e170)
                        obtain ⟨ce170, hce170, hMe170, hcc170⟩ := Kd.V_get HO_0.out [] x8_1 p170 (by first | exact q170 | exact of_decide_eq_true (by first | (with_reducible assumption) | assumption) | (have e_ := (Kd.V_reads' HO_0.out).1; omega))
                        obtain ⟨ua170_0, uc170_0, rfl, ul170_0, ge170_0⟩ := Kd.FK_slice_open hMe170
                        have hv170_0 := hcc170 0 _ rfl
                        rw [Nat.add_zero, show ((Kd.slice 4 Kd.bool)).sz = 1 from rfl, Nat.mul_one] at hv170_0
                        replace hv170_0 := Option.some.inj (hv170_0.symm.trans hx170_0)
                        injection hv170_0 with hva_ hvn_ hvc_
                        rw [hva_] at ge170_0
                        rw [hvc_] at ul170_0
                        have HL170_0 := Aside0.mk (show Kd.V Kd.bool 4 _ w.heap.size _ _ (rd_L1 l0 x8_1) from Kd.V_mk ul170_0 ge170_0)
                        clear hva_ hvn_ hvc_ ge170_0 ul170_0
                        clear hcc170 hce170
                        have HR170_0 := Aside0.mk hi170_0
                        have HC170_0 := Aside0.mk hl170_0
                        clear hi170_0 hl170_0
                        replace p170 := eq_true p170
                        replace q170 := eq_true q170
                        have q39 : (0 : Int) ≤ (((rd_L1 l0 x8_1).length : Int) : Int) := of_decide_eq_true (by first | (with_reducible assumption) | assumption)
                        obtain ⟨i039, hi039, _, hsz39, _⟩ := info_parts info4
                        have hroom39 : (rd_L1 l0 x8_1).length ≤ c170_0 := HC170_0.out
                        have hC39 : Kd.F Kd.bool _ _ A170_0 (rd_L1 l0 x8_1).length (rd_L1 l0 x8_1) := (Kd.V_at (base := w.heap.size) HL170_0.out).2.2
                        have hcut39 := cut_to (P := Try.prog) 35 4 .i64 Try.underlying35 hi039 A170_0 (rd_L1 l0 x8_1).length c170_0 0 (by omega) q39 hroom39
                        have hr39 := Kd.F_take (m := 0) hC39 (by omega)
                        have hy39 : y171.length = (0 : Int).toNat := (by rw [Ny171.out, List.length_take]; omega)
                        rw [← Ny171.out] at hr39
                        rw [← hy39] at hcut39
                        have HO175 := Aside0.mk (show Kd.V Kd.bool 4 _ w.heap.size _ (.slice A170_0 y171.length c170_0) y171 from Kd.V_mk (by omega) hr39)
                        have HC175 := Aside0.mk (show y171.length ≤ c170_0 from by omega)
                        clear hr39 hC39 hroom39 hi039 hsz39
                        have KY39 := Aside0.mk hy39
                        clear hy39
                        replace q39 := eq_true q39
                        have p176 : 0 ≤ (x8_1 : Int) := of_decide_eq_true (by first | (with_reducible assumption) | assumption)
                        have q176 : x8_1 < (l0.length : Int) := of_decide_eq_true (by first | (with_reducible assumption) | assumption)
                        obtain ⟨ad176, A176_0, c176_0, e176, hx176_0, hl176_0, hi176_0⟩ := at_L1 (Kd.V_reads' HO_0.out).2.2 x8_1 p176 q176
                        obtain rfl : ad122 = ad176 := (by injection e176)
                        obtain ⟨ce176, hce176, hMe176, hcc176⟩ := Kd.V_get HO_0.out [] x8_1 p176 (by first | exact q176 | exact of_decide_eq_true (by first | (with_reducible assumption) | assumption) | (have e_ := (Kd.V_reads' HO_0.out).1; omega))
                        obtain ⟨ua176_0, uc176_0, rfl, ul176_0, ge176_0⟩ := Kd.FK_slice_open hMe176
                        have hv176_0 := hcc176 0 _ rfl
                        rw [Nat.add_zero, show ((Kd.slice 4 Kd.bool)).sz = 1 from rfl, Nat.mul_one] at hv176_0
                        replace hv176_0 := Option.some.inj (hv176_0.symm.trans hx176_0)
                        injection hv176_0 with hva_ hvn_ hvc_
                        rw [hva_] at ge176_0
                        rw [hvc_] at ul176_0
                        have HL176_0 := Aside0.mk (show Kd.V Kd.bool 4 _ w.heap.size _ _ (rd_L1 l0 x8_1) from Kd.V_mk ul176_0 ge176_0)
                        clear hva_ hvn_ hvc_ ge176_0 ul176_0
                        clear hcc176 hce176
                        have HR176_0 := Aside0.mk hi176_0
                        have HC176_0 := Aside0.mk hl176_0
                        clear hi176_0 hl176_0
                        replace p176 := eq_true p176
                        replace q176 := eq_true q176
                        have ea_ := Option.some.inj (hx170_0.symm.trans hx176_0)
                        injection ea_ with ea_ en_ ec_
                        subst ea_
                        subst ec_
                        clear en_
                        have q40 : (0 : Int) ≤ (((rd_L1 l0 x8_1).length : Int) : Int) := of_decide_eq_true (by first | (with_reducible assumption) | assumption)
                        obtain ⟨i040, hi040, _, hsz40, _⟩ := info_parts info4
                        have hroom40 : (rd_L1 l0 x8_1).length ≤ c170_0 := HC176_0.out
                        have hC40 : Kd.F Kd.bool _ _ A170_0 (rd_L1 l0 x8_1).length (rd_L1 l0 x8_1) := (Kd.V_at (base := w.heap.size) HL176_0.out).2.2
                        have hcut40 := cut_from (P := Try.prog) 35 4 .i64 Try.underlying35 hi040 1 hsz40 A170_0 (rd_L1 l0 x8_1).length c170_0 0 (by omega) q40
                        have hr40 := Kd.F_cut (m := (0 : Int).toNat) (c := c170_0) hC40 (by omega) hroom40
                        obtain ⟨A40, hA40⟩ : ∃ A1, A1 = (if c170_0 = (0 : Int).toNat then A170_0 else (A170_0 : Option Addr).map (·.add ((0 : Int).toNat * 1))) := ⟨_, rfl⟩
                        obtain ⟨c40, hc40⟩ : ∃ c1, c1 = c170_0 - (0 : Int).toNat := ⟨_, rfl⟩
                        have hy40 : y177.length = (rd_L1 l0 x8_1).length - (0 : Int).toNat := (by rw [Ny177.out, List.length_drop] <;> omega)
                        rw [show (rd_L1 l0 x8_1).drop (0 : Int).toNat = y177 from Ny177.out.symm] at hr40
                        replace hr40 : Kd.F Kd.bool _ _ A40 y177.length y177 := (by rw [hA40]; exact hr40)
                        rw [← hy40, ← hA40, ← hc40] at hcut40
                        have HO181 := Aside0.mk (show Kd.V Kd.bool 4 _ w.heap.size _ (.slice A40 y177.length c40) y177 from Kd.V_mk (by rw [hy40, hc40]; exact Nat.sub_le_sub_right hroom40 _) hr40)
                        have HC181 := Aside0.mk (show y177.length ≤ c40 from by rw [hy40, hc40]; exact Nat.sub_le_sub_right hroom40 _)
                        clear hr40 hC40 hroom40 hi040 hsz40 hc40
                        have KY40 := Aside0.mk hy40
                        have KA40 := Aside0.mk hA40
                        clear hy40 hA40
                        replace q40 := eq_true q40
                        refine start_ (n := 17) (S := fun w' => w'.cell? (ad122.add (x8_1).toNat) = some (.slice A170_0 (rd_L1 l0 x8_1).length c170_0) ∧ w'.cell? (ad122.add (x8_1).toNat) = some (.slice A170_0 (rd_L1 l0 x8_1).length c170_0)) (ds := [14, 15]) #[false, false, false, false, false, false, false, false, false, false, false, false, false, false, false, false, false] (by kernel_rfl) rfl rfl ⟨hx170_0, hx176_0⟩ (fun hHeld => ?_); refine with_tabW cruciblelaw12_maps.tab11 cruciblelaw12_maps.bits11 (fun HT_ HW_ => ?_)
                        generalize w37.drew = w38 at HO_0 HO_7 HL122_0 HL155_0 HO160 HL161_0 HO166 HO169 HB HL170_0 HL176_0 HO175 HO181 HR170_0 HR176_0 hx170_0 hx176_0 hHeld ⊢
                        refine pure_ (i := 0) (N := some 53) (v := ?_) (a' := ?_) #[true, false, false, false, false, false, false, false, false, false, false, false, false, false, false, false, false] rfl rfl (any_of HT_.out (by kernel_rfl)) (fun _ _ _ h => h) (Or.inl ⟨by rfl, ?_⟩) ?_ ?_
                        rotate_left
                        · intro w'
                          go_simp
                          with_reducible rfl
                        rotate_left
                        · simp only [Act.put, List.setIfInBounds_toArray, List.set_cons_zero, List.set_cons_succ, i64_w, i32_w]
                          rfl
                        refine pure_ (i := 1) (N := some 54) (v := ?_) (a' := ?_) #[true, true, false, false, false, false, false, false, false, false, false, false, false, false, false, false, false] rfl rfl (any_of HT_.out (by kernel_rfl)) (fun _ _ _ h => h) (Or.inl ⟨by rfl, ?_⟩) ?_ ?_
                        rotate_left
                        · intro w'
                          go_simp
                          with_reducible rfl
                        rotate_left
                        · simp only [Act.put, List.setIfInBounds_toArray, List.set_cons_zero, List.set_cons_succ, i64_w, i32_w]
                          rfl
                        refine pure_ (i := 2) (N := some 55) (v := ?_) (a' := ?_) #[true, true, true, false, false, false, false, false, false, false, false, false, false, false, false, false, false] rfl rfl (any_of HT_.out (by kernel_rfl)) (fun _ _ _ h => h) (Or.inl ⟨by rfl, ?_⟩) ?_ ?_
                        rotate_left
                        · intro w'
                          go_simp
                          with_reducible rfl
                        rotate_left
                        · simp only [Act.put, List.setIfInBounds_toArray, List.set_cons_zero, List.set_cons_succ, i64_w, i32_w]
                          rfl
                        refine pure_ (i := 3) (N := some 56) (v := ?_) (a' := ?_) #[true, true, true, true, false, false, false, false, false, false, false, false, false, false, false, false, false] rfl rfl (any_of HT_.out (by kernel_rfl)) (fun _ _ _ h => h) (Or.inl ⟨by rfl, ?_⟩) ?_ ?_
                        rotate_left
                        · intro w'
                          go_simp
                          with_reducible rfl
                        rotate_left
                        · simp only [Act.put, List.setIfInBounds_toArray, List.set_cons_zero, List.set_cons_succ, i64_w, i32_w]
                          rfl
                        refine pure_ (i := 5) (N := some 58) (v := ?_) (a' := ?_) #[true, true, true, true, false, true, false, false, false, false, false, false, false, false, false, false, false] rfl rfl (any_of HT_.out (by kernel_rfl)) (fun _ _ _ h => h) (Or.inl ⟨by rfl, ?_⟩) ?_ ?_
                        rotate_left
                        · intro w'
                          go_simp
                          with_reducible rfl
                        rotate_left
                        · simp only [Act.put, List.setIfInBounds_toArray, List.set_cons_zero, List.set_cons_succ, i64_w, i32_w]
                          rfl
                        refine pure_ (i := 7) (N := some 60) (v := ?_) (a' := ?_) #[true, true, true, true, false, true, false, true, false, false, false, false, false, false, false, false, false] rfl rfl (any_of HT_.out (by kernel_rfl)) (fun _ _ _ h => h) (Or.inl ⟨by rfl, ?_⟩) ?_ ?_
                        rotate_left
                        · intro w'
                          go_simp
                          with_reducible rfl
                        rotate_left
                        · simp only [Act.put, List.setIfInBounds_toArray, List.set_cons_zero, List.set_cons_succ, i64_w, i32_w]
                          rfl
                        refine pure_ (i := 8) (N := some 61) (v := ?_) (a' := ?_) #[true, true, true, true, false, true, false, true, true, false, false, false, false, false, false, false, false] rfl rfl (any_of HT_.out (by kernel_rfl)) (fun _ _ _ h => h) (Or.inl ⟨by rfl, ?_⟩) ?_ ?_
                        rotate_left
                        · intro w'
                          go_simp
                          with_reducible rfl
                        rotate_left
                        · simp only [Act.put, List.setIfInBounds_toArray, List.set_cons_zero, List.set_cons_succ, i64_w, i32_w]
                          rfl
                        refine pure_ (i := 9) (N := some 62) (v := ?_) (a' := ?_) #[true, true, true, true, false, true, false, true, true, true, false, false, false, false, false, false, false] rfl rfl (any_of HT_.out (by kernel_rfl)) (fun _ _ _ h => h) (Or.inl ⟨by rfl, ?_⟩) ?_ ?_
                        rotate_left
                        · intro w'
                          go_simp
                          with_reducible rfl
                        rotate_left
                        · simp only [Act.put, List.setIfInBounds_toArray, List.set_cons_zero, List.set_cons_succ, i64_w, i32_w]
                          rfl
                        refine pure_ (i := 11) (N := some 64) (v := ?_) (a' := ?_) #[true, true, true, true, false, true, false, true, true, true, false, true, false, false, false, false, false] rfl rfl (any_of HT_.out (by kernel_rfl)) (fun _ _ _ h => h) (Or.inl ⟨by rfl, ?_⟩) ?_ ?_
                        rotate_left
                        · intro w'
                          go_simp
                          with_reducible rfl
                        rotate_left
                        · simp only [Act.put, List.setIfInBounds_toArray, List.set_cons_zero, List.set_cons_succ, i64_w, i32_w]
                          rfl
                        refine take_ (i := 4) (N := some 57) (v := ?_) (a' := ?_) #[true, true, true, true, true, true, false, true, true, true, false, true, false, false, false, false, false] rfl rfl (take_ofW HT_.out HW_.out (by kernel_rfl)) (fun _ _ _ h => h) (Or.inl ⟨by rfl, ?_⟩) hHeld ?_ ?_
                        rotate_left
                        · rintro w' ⟨s0, s1⟩
                          go_simp
                          with_reducible rfl
                        rotate_left
                        · simp only [Act.put, List.setIfInBounds_toArray, List.set_cons_zero, List.set_cons_succ, i64_w, i32_w]
                          rfl
                        refine pure_ (i := 6) (N := some 59) (v := ?_) (a' := ?_) #[true, true, true, true, true, true, true, true, true, true, false, true, false, false, false, false, false] rfl rfl (any_of HT_.out (by kernel_rfl)) (fun _ _ _ h => h) (Or.inl ⟨by rfl, ?_⟩) ?_ ?_
                        rotate_left
                        · intro w'
                          go_simp
                          with_reducible rfl
                        rotate_left
                        · simp only [Act.put, List.setIfInBounds_toArray, List.set_cons_zero, List.set_cons_succ, i64_w, i32_w]
                          rfl
                        refine take_ (i := 10) (N := some 63) (v := ?_) (a' := ?_) #[true, true, true, true, true, true, true, true, true, true, true, true, false, false, false, false, false] rfl rfl (take_ofW HT_.out HW_.out (by kernel_rfl)) (fun _ _ _ h => h) (Or.inl ⟨by rfl, ?_⟩) hHeld ?_ ?_
                        rotate_left
                        · rintro w' ⟨s0, s1⟩
                          go_simp
                          with_reducible rfl
                        rotate_left
                        · simp only [Act.put, List.setIfInBounds_toArray, List.set_cons_zero, List.set_cons_succ, i64_w, i32_w]
                          rfl
                        refine pure_ (i := 12) (N := some 65) (v := ?_) (a' := ?_) #[true, true, true, true, true, true, true, true, true, true, true, true, true, false, false, false, false] rfl rfl (any_of HT_.out (by kernel_rfl)) (fun _ _ _ h => h) (Or.inl ⟨by rfl, ?_⟩) ?_ ?_
                        rotate_left
                        · intro w'
                          go_simp
                          with_reducible rfl
                        rotate_left
                        · simp only [Act.put, List.setIfInBounds_toArray, List.set_cons_zero, List.set_cons_succ, i64_w, i32_w]
                          rfl
                        refine pure_ (i := 13) (N := some 66) (v := ?_) (a' := ?_) #[true, true, true, true, true, true, true, true, true, true, true, true, true, true, false, false, false] rfl rfl (any_of HT_.out (by kernel_rfl)) (fun _ _ _ h => h) (Or.inl ⟨by rfl, ?_⟩) ?_ ?_
                        rotate_left
                        · intro w'
                          go_simp
                          with_reducible rfl
                        rotate_left
                        · simp only [Act.put, List.setIfInBounds_toArray, List.set_cons_zero, List.set_cons_succ, i64_w, i32_w]
                          rfl
                        refine last_ (i := 14) (N := some 67) #[true, true, true, true, true, true, true, true, true, true, true, true, true, true, true, false, false] rfl rfl (one_of HT_.out (by kernel_rfl)) (by decide) (fun K hK => ?_)
                        refine value_ (w1 := ?_) (v := ?_) (by rfl) rfl ?_ ?_
                        rotate_left 2
                        · go_simp
                          constructor
                          · rfl
                          · rfl
                        refine hK.out _ _ ?_
                        clear hK K
                        refine norm_ (a' := ?_) ?_ ?_
                        rotate_left
                        · show Act.put _ (some 67) _ = _
                          simp only [Act.put, List.setIfInBounds_toArray, List.set_cons_zero, List.set_cons_succ, i64_w, i32_w]
                          rfl
                        refine last_ (i := 15) (N := some 68) #[true, true, true, true, true, true, true, true, true, true, true, true, true, true, true, true, false] rfl rfl (one_of HT_.out (by kernel_rfl)) (by decide) (fun K hK => ?_)
                        refine Kd.N_append_step k43 (w0 := w) w.heap.size (by rfl) (.tmp 53) (.tmp 67) 26 43 (.agg #[(.slice none 0 0), (.slice none 0 0)]) 48 rfl Try.underlying26 info43 rfl (by decide) (by omega) u7 x7_1 (⟨y171, y177⟩ : S43) [.slice A170_0 y171.length c170_0, .slice A40 y177.length c40] (fun k_ => (P0_ k_ ∨ w.heap.size ≤ k_) ∧ some k_ ≠ (v168 : Value).ownBlock) (fun k_ => ((fun k_ => (P0_ k_ ∨ w.heap.size ≤ k_) ∧ some k_ ≠ (v168 : Value).ownBlock)) k_ ∧ some k_ ≠ (u7 : Value).ownBlock) rfl rfl ?aP (fun _ hk => hk) ?aF ?aO ?aB ?aS ?aL ?_
                        (case aP => exact (k43_mkF _ _ (⟨y171, y177⟩ : S43) (Kd.V_reads' (Kd.V_mono (ok' := (fun k_ => ((fun k_ => (P0_ k_ ∨ w.heap.size ≤ k_) ∧ some k_ ≠ (v168 : Value).ownBlock)) k_ ∧ some k_ ≠ (u7 : Value).ownBlock)) (HO175.out) (fun k_ hk => ⟨⟨hk.1.1, hk.2⟩, hk.1.2⟩))).2.1 (Kd.V_F (Kd.V_mono (ok' := (fun k_ => ((fun k_ => (P0_ k_ ∨ w.heap.size ≤ k_) ∧ some k_ ≠ (v168 : Value).ownBlock)) k_ ∧ some k_ ≠ (u7 : Value).ownBlock)) (HO175.out) (fun k_ hk => ⟨⟨hk.1.1, hk.2⟩, hk.1.2⟩))) (Kd.V_reads' (Kd.V_mono (ok' := (fun k_ => ((fun k_ => (P0_ k_ ∨ w.heap.size ≤ k_) ∧ some k_ ≠ (v168 : Value).ownBlock)) k_ ∧ some k_ ≠ (u7 : Value).ownBlock)) (HO181.out) (fun k_ hk => ⟨⟨hk.1.1, hk.2⟩, hk.1.2⟩))).2.1 (Kd.V_F (Kd.V_mono (ok' := (fun k_ => ((fun k_ => (P0_ k_ ∨ w.heap.size ≤ k_) ∧ some k_ ≠ (v168 : Value).ownBlock)) k_ ∧ some k_ ≠ (u7 : Value).ownBlock)) (HO181.out) (fun k_ hk => ⟨⟨hk.1.1, hk.2⟩, hk.1.2⟩)))))
                        (case aB => exact (by repeat (first | (with_reducible first | exact HB.out | apply below_alloc | apply pw_below_drewN | apply below_drew1) | exact HB.out)))
                        (case aF => exact (fun k_ hk => ⟨(.inr (Nat.le_trans (below_size (by repeat (first | (with_reducible first | exact HB.out | apply below_alloc | apply pw_below_drewN | apply below_drew1) | exact HB.out))) hk)), Kd.fresh' (Kd.N_lt (by (with_reducible repeat (first | apply Kd.N_alloc | apply Kd.N_drewN | apply Kd.N_drew)); exact HO169.out)) k_ hk⟩))
                        (case aO => exact (by (with_reducible repeat (first | apply Kd.N_alloc | apply Kd.N_drewN | apply Kd.N_drew)); exact HO_7.out))
                        (case aS => exact (below_size (by repeat (first | (with_reducible first | exact HB.out | apply below_alloc | apply pw_below_drewN | apply below_drew1) | exact HB.out))))
                        (case aL => have := LMc33.out; omega)
                        intro v183 w41 ho hb hg hat
                        rw [← Ny182.out] at ho
                        have n0_ := Aside0.mk (Kd.V_afterv (ok := (fun k_ => (P0_ k_ ∨ w.heap.size ≤ k_) ∧ some k_ ≠ (v168 : Value).ownBlock)) (by (with_reducible repeat (first | apply Kd.V_alloc | apply Kd.V_drewN | apply Kd.V_drew)); exact Kd.V_mono HO_0.out (fun _ hk => ⟨⟨hk.1.1, hk.2⟩, hk.1.2⟩)) hg hat)
                        have n1_ := Aside0.mk (Kd.V_afterv (ok := (fun k_ => (P0_ k_ ∨ w.heap.size ≤ k_) ∧ some k_ ≠ (v168 : Value).ownBlock)) (by (with_reducible repeat (first | apply Kd.V_alloc | apply Kd.V_drewN | apply Kd.V_drew)); exact Kd.V_mono HL122_0.out (fun _ hk => ⟨⟨hk.1.1, hk.2⟩, hk.1.2⟩)) hg hat)
                        have n2_ := Aside0.mk (Kd.V_afterv (ok := (fun k_ => (P0_ k_ ∨ w.heap.size ≤ k_) ∧ some k_ ≠ (v168 : Value).ownBlock)) (by (with_reducible repeat (first | apply Kd.V_alloc | apply Kd.V_drewN | apply Kd.V_drew)); exact Kd.V_mono HL155_0.out (fun _ hk => ⟨⟨hk.1.1, hk.2⟩, hk.1.2⟩)) hg hat)
                        have n3_ := Aside0.mk (Kd.V_afterv (ok := (fun k_ => (P0_ k_ ∨ w.heap.size ≤ k_) ∧ some k_ ≠ (v168 : Value).ownBlock)) (by (with_reducible repeat (first | apply Kd.V_alloc | apply Kd.V_drewN | apply Kd.V_drew)); exact Kd.V_mono HO160.out (fun _ hk => ⟨⟨hk.1.1, hk.2⟩, hk.1.2⟩)) hg hat)
                        have n4_ := Aside0.mk (Kd.V_afterv (ok := (fun k_ => (P0_ k_ ∨ w.heap.size ≤ k_) ∧ some k_ ≠ (v168 : Value).ownBlock)) (by (with_reducible repeat (first | apply Kd.V_alloc | apply Kd.V_drewN | apply Kd.V_drew)); exact Kd.V_mono HL161_0.out (fun _ hk => ⟨⟨hk.1.1, hk.2⟩, hk.1.2⟩)) hg hat)
                        have n5_ := Aside0.mk (Kd.V_afterv (ok := (fun k_ => (P0_ k_ ∨ w.heap.size ≤ k_) ∧ some k_ ≠ (v168 : Value).ownBlock)) (by (with_reducible repeat (first | apply Kd.V_alloc | apply Kd.V_drewN | apply Kd.V_drew)); exact Kd.V_mono HO166.out (fun _ hk => ⟨⟨hk.1.1, hk.2⟩, hk.1.2⟩)) hg hat)
                        have n6_ := Aside0.mk (Kd.N_afterv (ok := (fun k_ => (P0_ k_ ∨ w.heap.size ≤ k_))) (by (with_reducible repeat (first | apply Kd.N_alloc | apply Kd.N_drewN | apply Kd.N_drew)); exact HO169.out) hg hat)
                        have n7_ := Aside0.mk (Kd.V_afterv (ok := (fun k_ => (P0_ k_ ∨ w.heap.size ≤ k_) ∧ some k_ ≠ (v168 : Value).ownBlock)) (by (with_reducible repeat (first | apply Kd.V_alloc | apply Kd.V_drewN | apply Kd.V_drew)); exact Kd.V_mono HL170_0.out (fun _ hk => ⟨⟨hk.1.1, hk.2⟩, hk.1.2⟩)) hg hat)
                        have n8_ := Aside0.mk (Kd.V_afterv (ok := (fun k_ => (P0_ k_ ∨ w.heap.size ≤ k_) ∧ some k_ ≠ (v168 : Value).ownBlock)) (by (with_reducible repeat (first | apply Kd.V_alloc | apply Kd.V_drewN | apply Kd.V_drew)); exact Kd.V_mono HO175.out (fun _ hk => ⟨⟨hk.1.1, hk.2⟩, hk.1.2⟩)) hg hat)
                        have n9_ := Aside0.mk (Kd.V_afterv (ok := (fun k_ => (P0_ k_ ∨ w.heap.size ≤ k_) ∧ some k_ ≠ (v168 : Value).ownBlock)) (by (with_reducible repeat (first | apply Kd.V_alloc | apply Kd.V_drewN | apply Kd.V_drew)); exact Kd.V_mono HL176_0.out (fun _ hk => ⟨⟨hk.1.1, hk.2⟩, hk.1.2⟩)) hg hat)
                        have n10_ := Aside0.mk (Kd.V_afterv (ok := (fun k_ => (P0_ k_ ∨ w.heap.size ≤ k_) ∧ some k_ ≠ (v168 : Value).ownBlock)) (by (with_reducible repeat (first | apply Kd.V_alloc | apply Kd.V_drewN | apply Kd.V_drew)); exact Kd.V_mono HO181.out (fun _ hk => ⟨⟨hk.1.1, hk.2⟩, hk.1.2⟩)) hg hat)
                        have n11_ := Aside0.mk (hb)
                        have n12_ := Aside0.mk (ho)
                        clear HO_0
                        clear HL122_0
                        clear HL155_0
                        clear HO160
                        clear HL161_0
                        clear HO166
                        clear HO169
                        clear HL170_0
                        clear HO175
                        clear HL176_0
                        clear HO181
                        clear HB
                        clear HO_7
                        have HO_0 := n0_
                        have HL122_0 := n1_
                        have HL155_0 := n2_
                        have HO160 := n3_
                        have HL161_0 := n4_
                        have HO166 := n5_
                        have HO169 := n6_
                        have HL170_0 := n7_
                        have HO175 := n8_
                        have HL176_0 := n9_
                        have HO181 := n10_
                        have HB := n11_
                        have HO184 := n12_
                        clear n0_ n1_ n2_ n3_ n4_ n5_ n6_ n7_ n8_ n9_ n10_ n11_ n12_
                        clear ho hb hg hat
                        refine hK.out _ _ ?_
                        clear hK K
                        refine norm_ (a' := ?_) ?_ ?_
                        rotate_left
                        · show Act.put _ (some 68) _ = _
                          simp only [Act.put, List.setIfInBounds_toArray, List.set_cons_zero, List.set_cons_succ, i64_w, i32_w]
                          rfl
                        refine pure_ (i := 16) (N := some 7) (v := ?_) (a' := ?_) #[true, true, true, true, true, true, true, true, true, true, true, true, true, true, true, true, true] rfl rfl (any_of HT_.out (by kernel_rfl)) (fun _ _ _ h => h) (Or.inl ⟨by rfl, ?_⟩) ?_ ?_
                        rotate_left
                        · intro w'
                          go_simp
                          with_reducible rfl
                        rotate_left
                        · simp only [Act.put, List.setIfInBounds_toArray, List.set_cons_zero, List.set_cons_succ, i64_w, i32_w]
                          rfl
                        refine done_ (done_of HT_.out (by kernel_rfl)) ?_
                        try go_wp2
                        go_roundg kj2
                        case measure => have := HK1.out; have := HJ2.out; omega
                        case rel => exact ⟨(y167), (y182), (wrap64 (x8_1 + 1)), (by first | rfl | (simp; done) | (simp [*]; done)), H', ⟨by have := HK1.out; have := HJ2.out; omega⟩, ⟨by (with_reducible repeat (first | apply Kd.V_alloc | apply Kd.V_drewN | apply Kd.V_drew)); exact Kd.V_mono HO_0.out (fun _ hk => ⟨hk.1.1, ⟨hk.1.2, hk.2⟩⟩)⟩, ⟨by (with_reducible repeat (first | apply Kd.N_alloc | apply Kd.N_drewN | apply Kd.N_drew)); exact HO169.out⟩, ⟨by (with_reducible repeat (first | apply Kd.N_alloc | apply Kd.N_drewN | apply Kd.N_drew)); exact HO184.out⟩, ⟨by repeat (first | (with_reducible first | exact HB.out | apply below_alloc | apply pw_below_drewN | apply below_drew1) | exact HB.out)⟩⟩
                      · rw [if_neg c33] at H
                        exact absurd H (by simp)
                    · rw [if_neg c30] at H
                      exact absurd H (by simp)
                  · rw [if_neg c28] at H
                    exact absurd H (by simp)
              · rw [if_neg c7] at H
                exact absurd H (by simp)
            · rw [if_neg c6] at H
              exact absurd H (by simp)
          · replace c5 := Bool.eq_false_iff.mpr c5
            subst c5
            have H1 : (some (x6_1, x7_1)) = some (r1, r2) := by rw [if_neg (show ¬ (false = true) by decide)] at H; exact H
            clear H
            have H := H1
            clear H1
            simp only [Option.some.injEq, Prod.mk.injEq] at H
            obtain ⟨rfl, rfl⟩ := H
            go_wp2
            go_ret2
            exact ⟨_, _, by first | rfl | (simp [errW_none, errW_some] <;> rfl) | (simp [*, errW_none, errW_some] <;> rfl), by (with_reducible repeat (first | apply Kd.N_alloc | apply Kd.N_drewN | apply Kd.N_drew)); exact HO_6.out, by (with_reducible repeat (first | apply Kd.N_alloc | apply Kd.N_drewN | apply Kd.N_drew)); exact HO_7.out, by repeat (first | (with_reducible first | exact HB.out | apply below_alloc | apply pw_below_drewN | apply below_drew1) | exact HB.out)⟩

end Go.Proofs.Ytnbjhfleoodncaa.X
