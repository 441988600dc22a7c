-- written by a program of this session's (xprint.py: a patched print); Lean checks it
import Derived.Test.YtnbjhfleoodncaaXx0
import Derived.Test.YtnbjhfleoodncaaXx4
namespace Go.Proofs.Ytnbjhfleoodncaa.X
open Go.RowKit Go.Proofs.YtnbjhfleoodncaaW.PrintWords Go.Proofs.YtnbjhfleoodncaaW.PrintLast Go.Proofs.YtnbjhfleoodncaaW.PrintMore
attribute [local go_sem] max2_int min2_int max_two min_two max_three min_three max_four min_four   -- for this text's walks alone
set_option linter.unusedVariables false
set_option linter.unusedSimpArgs false

/-! ### crucibleref12_Make: function 13 -/
mutual
def crucibleref12_Make.j0 : Nat → Bool → List (S57) → List (S42) → List Bool → Option ((List (S43)))
  | 0, _, _, _, _ => none
  | k + 1, x21, x253000, x253001, x253002 => if x21 = true then (some ([] : List (S43))) else (crucibleref12_Make.l0 k ([] : List (S43)) 0 x253000 x253001 x253002)
def crucibleref12_Make.l0 : Nat → List (S43) → Int → List (S57) → List (S42) → List Bool → Option ((List (S43)))
  | 0, _, _, _, _, _ => none
  | k + 1, x3, x4, x253000, x253001, x253002 => if x4 < (x253000.length : Int) then (if 0 ≤ x4 then (if x4 < (x253002.length : Int) then (if rdOf false x253002 x4 = true then (if x4 < (x253001.length : Int) then ((crucibleref12_Of.f k ((rd_T42 x253001 x4).f0) ((rd_T42 x253001 x4).f1)).bind fun bt256 => (if x3.length < 2932031007402 then (crucibleref12_Make.l0 k (x3 ++ [(⟨bt256.1, bt256.2⟩ : S43)]) (wrap64 (x4 + 1)) x253000 x253001 x253002) else (none))) else (none)) else (if x3.length < 2932031007402 then (crucibleref12_Make.l0 k (x3 ++ [(⟨([] : List Bool), ([] : List Bool)⟩ : S43)]) (wrap64 (x4 + 1)) x253000 x253001 x253002) else (none))) else (none)) else (none)) else (some x3)
end
def crucibleref12_Make.f (k : Nat) (l0_0 : List (S57)) (l0_1 : List (S42)) (l0_2 : List Bool) : Option ((List (S43))) := if (l0_0.length : Int) = (l0_1.length : Int) then (crucibleref12_Make.j0 k ((l0_0.length : Int) != (l0_2.length : Int)) l0_0 l0_1 l0_2) else (crucibleref12_Make.j0 k true l0_0 l0_1 l0_2)
theorem crucibleref12_Make.mono_l : ∀ k, (∀ y0 y1 y2 y3, LeO (crucibleref12_Make.j0 k y0 y1 y2 y3) (crucibleref12_Make.j0 (k + 1) y0 y1 y2 y3)) ∧ (∀ y0 y1 y2 y3 y4, LeO (crucibleref12_Make.l0 k y0 y1 y2 y3 y4) (crucibleref12_Make.l0 (k + 1) y0 y1 y2 y3 y4))
  | 0 => ⟨fun _ _ _ _ r h => by simp [crucibleref12_Make.j0] at h, fun _ _ _ _ _ r h => by simp [crucibleref12_Make.l0] at h⟩
  | k + 1 => by
    obtain ⟨ih0, ih1⟩ := crucibleref12_Make.mono_l k
    refine ⟨?_, ?_⟩
    · intro y0 y1 y2 y3
      unfold crucibleref12_Make.j0
      repeat' first
      | (with_reducible exact ih0 _ _ _ _)
      | (with_reducible exact ih1 _ _ _ _ _)
      | (with_reducible exact crucibleref12_Of.mono _ _ _)
      | (with_reducible exact LeO.refl _)
      | (with_reducible exact LeO.none _)
      | (with_reducible refine LeO.ite ?_ ?_)
      | (with_reducible refine LeO.bind ?_ (fun _ => ?_))
      | exact ih0 _ _ _ _
      | exact ih1 _ _ _ _ _
      | exact crucibleref12_Of.mono _ _ _
      | exact LeO.none _
      | refine LeO.ite ?_ ?_
      | refine LeO.bind ?_ (fun _ => ?_)
    · intro y0 y1 y2 y3 y4
      unfold crucibleref12_Make.l0
      repeat' first
      | (with_reducible exact ih0 _ _ _ _)
      | (with_reducible exact ih1 _ _ _ _ _)
      | (with_reducible exact crucibleref12_Of.mono _ _ _)
      | (with_reducible exact LeO.refl _)
      | (with_reducible exact LeO.none _)
      | (with_reducible refine LeO.ite ?_ ?_)
      | (with_reducible refine LeO.bind ?_ (fun _ => ?_))
      | exact ih0 _ _ _ _
      | exact ih1 _ _ _ _ _
      | exact crucibleref12_Of.mono _ _ _
      | exact LeO.none _
      | refine LeO.ite ?_ ?_
      | refine LeO.bind ?_ (fun _ => ?_)
theorem crucibleref12_Make.mono : ∀ a0 a1 a2 k, LeO (crucibleref12_Make.f k a0 a1 a2) (crucibleref12_Make.f (k + 1) a0 a1 a2) := by
  intro a0 a1 a2 k
  obtain ⟨ih0, ih1⟩ := crucibleref12_Make.mono_l k
  unfold crucibleref12_Make.f
  repeat' first
      | (with_reducible exact ih0 _ _ _ _)
      | (with_reducible exact ih1 _ _ _ _ _)
      | (with_reducible exact crucibleref12_Of.mono _ _ _)
      | (with_reducible exact LeO.refl _)
      | (with_reducible exact LeO.none _)
      | (with_reducible refine LeO.ite ?_ ?_)
      | (with_reducible refine LeO.bind ?_ (fun _ => ?_))
      | exact ih0 _ _ _ _
      | exact ih1 _ _ _ _ _
      | exact crucibleref12_Of.mono _ _ _
      | exact LeO.none _
      | refine LeO.ite ?_ ?_
      | refine LeO.bind ?_ (fun _ => ?_)
set_option maxHeartbeats 8000000 in
set_option maxRecDepth 100000 in
theorem crucibleref12_Make.calls (k : Nat) (A0_0 : Option Addr) (c0_0 : Nat) (l0_0 : List (S57)) (A0_1 : Option Addr) (c0_1 : Nat) (l0_1 : List (S42)) (A0_2 : Option Addr) (c0_2 : Nat) (l0_2 : List Bool) (r : List (S43)) (w : World) (hr0_0 : Kd.C k57 w A0_0 l0_0.length l0_0) (hc0_0 : l0_0.length ≤ c0_0) (hr0_1 : Kd.C k42 w A0_1 l0_1.length l0_1) (hc0_1 : l0_1.length ≤ c0_1) (hr0_2 : Kd.C Kd.bool w A0_2 l0_2.length l0_2) (hc0_2 : l0_2.length ≤ c0_2) (h : crucibleref12_Make.f k l0_0 l0_1 l0_2 = some r) :
    Calls Try.prog 13 #[.agg #[.slice A0_0 l0_0.length c0_0, .slice A0_1 l0_1.length c0_1, .slice A0_2 l0_2.length c0_2]] w fun e w' => ∃ v0_ : Value, e = .returned (v0_) ∧ Kd.S k43 43 w' w.heap.size (fun _ => True) v0_ r ∧ Below w.heap.size w w' := by
  have hu50 := Try.underlying50
  have hu43 := Try.underlying43
  have hu42 := Try.underlying42
  have HR0_0 := Aside0.mk hr0_0
  have HC0_0 := Aside0.mk hc0_0
  clear hr0_0 hc0_0
  have HR0_1 := Aside0.mk hr0_1
  have HC0_1 := Aside0.mk hc0_1
  clear hr0_1 hc0_1
  have HR0_2 := Aside0.mk hr0_2
  have HC0_2 := Aside0.mk hc0_2
  clear hr0_2 hc0_2
  have HB := Aside0.mk (Below.refl w.heap.size w)
  have H : (if (l0_0.length : Int) = (l0_1.length : Int) then (crucibleref12_Make.j0 k ((l0_0.length : Int) != (l0_2.length : Int)) l0_0 l0_1 l0_2) else (crucibleref12_Make.j0 k true l0_0 l0_1 l0_2)) = some r := h
  clear h
  have HC2 := Aside0.mk H
  clear H
  go_enter Try.func13, Try.ntmps13
  go_upto_region 1 with (first | ((with_reducible refine gate_dst (N := 1) rfl ?_); (try (refine gate_guard (by rfl) ?_; dsimp only)); refine box_event ?hg (N := 1) ?hd (cs := #[.slice A0_0 l0_0.length c0_0, .slice A0_1 l0_1.length c0_1, .slice A0_2 l0_2.length c0_2]) (t := 50) ?hr ?_; (case hd => rfl); (case hg => rfl); (case hr => first | (go_simp; done) | (go_simp; rfl)); intro gb252 hg w3 hbox hb; have n0_ := Aside0.mk (below_step (by repeat (first | (with_reducible first | exact HB.out | apply below_alloc | apply pw_below_drewN | apply below_drew1) | exact HB.out)) hb); have n1_ := Aside0.mk (hbox); have n2_ := Aside0.mk ((by rw [hg]; exact (below_size (by repeat (first | (with_reducible first | exact HB.out | apply below_alloc | apply pw_below_drewN | apply below_drew1) | exact HB.out))) : w.heap.size ≤ gb252)); have n3_ := Aside0.mk ((by rw [hg]; exact (below_size (by repeat (first | (with_reducible first | exact HB.out | apply below_alloc | apply pw_below_drewN | apply below_drew1) | exact HB.out))) : w.heap.size ≤ gb252)); clear HB; have HB := n0_; have BK252 := n1_; have GW252 := n2_; have GE252 := n3_; clear n0_ n1_ n2_ n3_; clear hb hbox hg))
  (try simp only [Act.put, List.setIfInBounds_toArray, List.set_cons_zero, List.set_cons_succ])
  go_cut [21] (fun v21 wc => ∃ (kq : Nat) (x21_1 : Bool), v21 = .bool x21_1 ∧ Aside0 (crucibleref12_Make.j0 kq x21_1 l0_0 l0_1 l0_2 = some r) ∧ Aside0 (kq ≤ k) ∧ Aside0 (wc.heap[gb252]? = some (.cells #[(.slice A0_0 l0_0.length c0_0), (.slice A0_1 l0_1.length c0_1), (.slice A0_2 l0_2.length c0_2)] 50 (0, 0))) ∧ Aside0 (Below w.heap.size w wc))
  case first =>
    have H := HC2.out
    clear HC2
    by_cases c4 : (l0_0.length : Int) = (l0_1.length : Int)
    · rw [if_pos c4] at H
      have c4b0 : ((l0_0.length : Int) == (l0_1.length : Int)) = true := beq_iff_eq.mpr c4
      have c4b1 : ((l0_0.length : Int) != (l0_1.length : Int)) = false := bne_eq_false_iff_eq.mpr c4
      have c4b2 : (l0_0.length == l0_1.length) = true := by first | simpa using c4 | (simp at c4 ⊢; omega)
      clear c4
      (first | rw [c4b0] | (simp only [i64_w, i32_w]; rw [c4b0]) | skip)
      have H' := Aside0.mk H
      clear H
      have hcz5_0 : w3.cell? ⟨gb252, 0, none⟩ = some (.slice A0_0 l0_0.length c0_0) := (blk_cell BK252.out 0).trans rfl
      have hcz5_1 : w3.cell? ⟨gb252, 1, none⟩ = some (.slice A0_1 l0_1.length c0_1) := (blk_cell BK252.out 1).trans rfl
      have hcz5_2 : w3.cell? ⟨gb252, 2, none⟩ = some (.slice A0_2 l0_2.length c0_2) := (blk_cell BK252.out 2).trans rfl
      have hfz5_0 := blk_frozen BK252.out 0
      have hfz5_1 := blk_frozen BK252.out 1
      have hfz5_2 := blk_frozen BK252.out 2
      go_wp2
      go_meet
      case rel => exact ⟨_, (((l0_0.length : Int) != (l0_2.length : Int))), (by first | rfl | (simp; done) | (simp [*]; done)), H', ⟨by first | omega | exact Nat.le_refl _⟩, ⟨by (with_reducible repeat (first | refine blk_drewN ?_ _ | refine blk_drew ?_ | refine blk_alloc ?_ _)); exact BK252.out⟩, ⟨by repeat (first | (with_reducible first | exact HB.out | apply below_alloc | apply pw_below_drewN | apply below_drew1 | refine below_set ?_ GE252.out) | exact HB.out)⟩⟩
    · rw [if_neg c4] at H
      have c4b0 : ((l0_0.length : Int) == (l0_1.length : Int)) = false := beq_eq_false_iff_ne.mpr c4
      have c4b1 : ((l0_0.length : Int) != (l0_1.length : Int)) = true := bne_iff_ne.mpr c4
      have c4b2 : (l0_0.length == l0_1.length) = false := by first | simpa using c4 | (simp at c4 ⊢; omega)
      (first | rw [c4b0] | (simp only [i64_w, i32_w]; rw [c4b0]) | skip)
      have H' := Aside0.mk H
      clear H
      have hcz6_0 : w3.cell? ⟨gb252, 0, none⟩ = some (.slice A0_0 l0_0.length c0_0) := (blk_cell BK252.out 0).trans rfl
      have hcz6_1 : w3.cell? ⟨gb252, 1, none⟩ = some (.slice A0_1 l0_1.length c0_1) := (blk_cell BK252.out 1).trans rfl
      have hcz6_2 : w3.cell? ⟨gb252, 2, none⟩ = some (.slice A0_2 l0_2.length c0_2) := (blk_cell BK252.out 2).trans rfl
      have hfz6_0 := blk_frozen BK252.out 0
      have hfz6_1 := blk_frozen BK252.out 1
      have hfz6_2 := blk_frozen BK252.out 2
      go_wp2
      go_meet
      case rel => exact ⟨_, (true), (by first | rfl | (simp; done) | (simp [*]; done)), H', ⟨by first | omega | exact Nat.le_refl _⟩, ⟨by (with_reducible repeat (first | refine blk_drewN ?_ _ | refine blk_drew ?_ | refine blk_alloc ?_ _)); exact BK252.out⟩, ⟨by repeat (first | (with_reducible first | exact HB.out | apply below_alloc | apply pw_below_drewN | apply below_drew1 | refine below_set ?_ GE252.out) | exact HB.out)⟩⟩
  case rest =>
    clear HC2
    try clear c1
    try clear p2
    try clear c4
    try clear c4b0
    try clear c4b1
    try clear c4b2
    try clear hcz5_0
    try clear hcz5_1
    try clear hcz5_2
    try clear hcz6_0
    try clear hcz6_1
    try clear hcz6_2
    try clear hfz5_0
    try clear hfz5_1
    try clear hfz5_2
    try clear hfz6_0
    try clear hfz6_1
    try clear hfz6_2
    obtain ⟨kq, x21_1, rfl, HA, HJ1, BK252, HB⟩ := hcut
    cases kq with
    | zero => exact absurd HA.out (by simp [crucibleref12_Make.j0])
    | succ kj1 =>
      have H := HA.out
      clear HA
      simp only [crucibleref12_Make.j0] at H
      by_cases c7 : x21_1 = true
      · subst c7
        have H1 : (some ([] : List (S43))) = some r := by rw [if_pos rfl] at H; exact H
        clear H
        have H := H1
        clear H1
        obtain rfl := Option.some.inj H
        go_wp2
        go_ret
        exact ⟨_, by first | rfl | (simp [errW_none, errW_some] <;> rfl) | (simp [*, errW_none, errW_some] <;> rfl), by first | exact Kd.S_nil _ _ _ _ _ | exact Kd.N_nil _ _ _ _ _ | exact Kd.V_nil _ _ _ _ _ | exact Kd.Q_nil _ _ _ _ _ | exact Kd.R_nil _ _ _ _ _, by repeat (first | (with_reducible first | exact HB.out | apply below_alloc | apply pw_below_drewN | apply below_drew1 | refine below_set ?_ GE252.out) | exact HB.out)⟩
      · replace c7 := Bool.eq_false_iff.mpr c7
        subst c7
        have H1 : (crucibleref12_Make.l0 kj1 ([] : List (S43)) 0 l0_0 l0_1 l0_2) = some r := by rw [if_neg (show ¬ (false = true) by decide)] at H; exact H
        clear H
        have H := H1
        clear H1
        have H' := Aside0.mk H
        clear H
        go_wp2
        go_loopg [3, 4] kj1 (fun kq v3 v4 w' => ∃ (x3_2 : List (S43)) (x4_2 : Int), v4 = .int .i64 x4_2 ∧ Aside0 (crucibleref12_Make.l0 kq x3_2 x4_2 l0_0 l0_1 l0_2 = some r) ∧ Aside0 (kq ≤ kj1) ∧ Aside0 (Kd.S k43 43 w' w.heap.size (fun _ => True) v3 x3_2) ∧ Aside0 (w'.heap[gb252]? = some (.cells #[(.slice A0_0 l0_0.length c0_0), (.slice A0_1 l0_1.length c0_1), (.slice A0_2 l0_2.length c0_2)] 50 (0, 0))) ∧ Aside0 (Below w.heap.size w w'))
        case atStart => exact ⟨(([] : List (S43))), (0), (by first | rfl | (simp; done) | (simp [*]; done)), H', ⟨Nat.le_refl _⟩, ⟨by first | exact Kd.S_nil _ _ _ _ _ | exact Kd.N_nil _ _ _ _ _ | exact Kd.V_nil _ _ _ _ _ | exact Kd.Q_nil _ _ _ _ _ | exact Kd.R_nil _ _ _ _ _⟩, ⟨by (with_reducible repeat (first | refine blk_drewN ?_ _ | refine blk_drew ?_ | refine blk_alloc ?_ _)); exact BK252.out⟩, ⟨by repeat (first | (with_reducible first | exact HB.out | apply below_alloc | apply pw_below_drewN | apply below_drew1 | refine below_set ?_ GE252.out) | exact HB.out)⟩⟩
        case round =>
          clear H'
          try clear c1
          try clear p2
          try clear c4
          try clear c4b0
          try clear c4b1
          try clear c4b2
          try clear c7
          try clear hcz5_0
          try clear hcz5_1
          try clear hcz5_2
          try clear hcz6_0
          try clear hcz6_1
          try clear hcz6_2
          try clear hfz5_0
          try clear hfz5_1
          try clear hfz5_2
          try clear hfz6_0
          try clear hfz6_1
          try clear hfz6_2
          try clear p2
          obtain ⟨x3_2, x4_2, rfl, HA, HK2, HO_3, BK252, HB⟩ := hrel
          cases gk with
          | zero => exact absurd HA.out (by simp [crucibleref12_Make.l0])
          | succ k2 =>
            have H := HA.out
            clear HA
            simp only [crucibleref12_Make.l0] at H
            by_cases c8 : x4_2 < (l0_0.length : Int)
            · rw [if_pos c8] at H
              have c8b0 : decide (x4_2 < (l0_0.length : Int)) = true := decide_eq_true c8
              clear c8
              by_cases c9 : 0 ≤ x4_2
              · rw [if_pos c9] at H
                have c9b0 : decide (0 ≤ x4_2) = true := decide_eq_true c9
                clear c9
                by_cases c10 : x4_2 < (l0_2.length : Int)
                · rw [if_pos c10] at H
                  have c10b0 : decide (x4_2 < (l0_2.length : Int)) = true := decide_eq_true c10
                  clear c10
                  obtain ⟨bq11, hbq11⟩ : ∃ b_ : Bool, b_ = (rdOf false l0_2 x4_2) := ⟨_, rfl⟩
                  replace H : (if bq11 = true then (if x4_2 < (l0_1.length : Int) then ((crucibleref12_Of.f k2 ((rd_T42 l0_1 x4_2).f0) ((rd_T42 l0_1 x4_2).f1)).bind fun bt256 => (if x3_2.length < 2932031007402 then (crucibleref12_Make.l0 k2 (x3_2 ++ [(⟨bt256.1, bt256.2⟩ : S43)]) (wrap64 (x4_2 + 1)) l0_0 l0_1 l0_2) else (none))) else (none)) else (if x3_2.length < 2932031007402 then (crucibleref12_Make.l0 k2 (x3_2 ++ [(⟨([] : List Bool), ([] : List Bool)⟩ : S43)]) (wrap64 (x4_2 + 1)) l0_0 l0_1 l0_2) else (none))) = some r := by rw [← hbq11] at H; exact H
                  have Nbq11 := Aside0.mk hbq11
                  clear hbq11
                  by_cases c12 : bq11 = true
                  · subst c12
                    have H1 : (if x4_2 < (l0_1.length : Int) then ((crucibleref12_Of.f k2 ((rd_T42 l0_1 x4_2).f0) ((rd_T42 l0_1 x4_2).f1)).bind fun bt256 => (if x3_2.length < 2932031007402 then (crucibleref12_Make.l0 k2 (x3_2 ++ [(⟨bt256.1, bt256.2⟩ : S43)]) (wrap64 (x4_2 + 1)) l0_0 l0_1 l0_2) else (none))) else (none)) = some r := by rw [if_pos rfl] at H; exact H
                    clear H
                    have H := H1
                    clear H1
                    by_cases c13 : x4_2 < (l0_1.length : Int)
                    · rw [if_pos c13] at H
                      have c13b0 : decide (x4_2 < (l0_1.length : Int)) = true := decide_eq_true c13
                      clear c13
                      replace H := Option.bind_eq_some_iff.mp H
                      obtain ⟨⟨t256, t259⟩, A140, H⟩ := H
                      replace H : (if x3_2.length < 2932031007402 then (crucibleref12_Make.l0 k2 (x3_2 ++ [(⟨t256, t259⟩ : S43)]) (wrap64 (x4_2 + 1)) l0_0 l0_1 l0_2) else (none)) = some r := H
                      have A14 := Aside0.mk A140
                      clear A140
                      by_cases c15 : x3_2.length < 2932031007402
                      · rw [if_pos c15] at H
                        have LMc15 := Aside0.mk c15
                        clear c15
                        obtain ⟨y262, hy262⟩ : ∃ y_ : List (S43), y_ = (x3_2 ++ [(⟨t256, t259⟩ : S43)]) := ⟨_, rfl⟩
                        replace H : (crucibleref12_Make.l0 k2 y262 (wrap64 (x4_2 + 1)) l0_0 l0_1 l0_2) = some r := by first | (rw [hy262]; with_reducible exact H) | (have H2_ := (Option.bind_some _ _).symm.trans H; rw [hy262]; with_reducible exact H2_) | (have H2_ := (Option.bind_some _ _).symm.trans H; with_reducible exact H2_) | with_reducible exact H | (rw [hy262]; exact H) | exact H
                        have Ny262 := Aside0.mk hy262
                        clear hy262
                        have H' := Aside0.mk H
                        clear H
                        have hcz16_0 : wr.cell? ⟨gb252, 0, none⟩ = some (.slice A0_0 l0_0.length c0_0) := (blk_cell BK252.out 0).trans rfl
                        have hcz16_1 : wr.cell? ⟨gb252, 1, none⟩ = some (.slice A0_1 l0_1.length c0_1) := (blk_cell BK252.out 1).trans rfl
                        have hcz16_2 : wr.cell? ⟨gb252, 2, none⟩ = some (.slice A0_2 l0_2.length c0_2) := (blk_cell BK252.out 2).trans rfl
                        have hfz16_0 := blk_frozen BK252.out 0
                        have hfz16_1 := blk_frozen BK252.out 1
                        have hfz16_2 := blk_frozen BK252.out 2
                        go_wp2_with (first | ((with_reducible refine gate_dst (N := 5) rfl ?_); (try (refine gate_guard (by rfl) ?_; dsimp only)); refine box_event ?hg (N := 5) ?hd (cs := #[.slice none 0 0, .slice none 0 0]) (t := 43) ?hr ?_; (case hd => rfl); (case hg => rfl); (case hr => first | (go_simp; done) | (go_simp; rfl)); intro gb253 hg w17 hbox hb; have n0_ := Aside0.mk (Kd.S_below (Kd.S_elderB (by (with_reducible repeat (first | apply Kd.S_alloc | apply Kd.S_drewN | apply Kd.S_drew)); exact HO_3.out) gb253 (Nat.le_of_eq hg.symm)) hb); have n1_ := Aside0.mk (blk_below (g := gb252) (o := .cells #[.slice A0_0 l0_0.length c0_0, .slice A0_1 l0_1.length c0_1, .slice A0_2 l0_2.length c0_2] 50 (0, 0)) (by (with_reducible repeat (first | refine blk_drewN ?_ _ | refine blk_drew ?_ | refine blk_alloc ?_ _)); exact BK252.out) hb); have n2_ := Aside0.mk (below_step (by repeat (first | (with_reducible first | exact HB.out | apply below_alloc | apply pw_below_drewN | apply below_drew1 | refine below_set ?_ GE252.out) | exact HB.out)) hb); have n3_ := Aside0.mk (hbox); have n4_ := Aside0.mk ((by rw [hg]; exact (below_size (by repeat (first | (with_reducible first | exact HB.out | apply below_alloc | apply pw_below_drewN | apply below_drew1 | refine below_set ?_ GE252.out) | exact HB.out))) : w.heap.size ≤ gb253)); have n5_ := Aside0.mk ((by rw [hg]; exact (below_size (by repeat (first | (with_reducible first | exact HB.out | apply below_alloc | apply pw_below_drewN | apply below_drew1 | refine below_set ?_ GE252.out) | exact HB.out))) : w.heap.size ≤ gb253)); have n6_ := Aside0.mk ((by rw [hg]; exact Nat.ne_of_lt (blk_lt (g := gb252) (o := .cells #[.slice A0_0 l0_0.length c0_0, .slice A0_1 l0_1.length c0_1, .slice A0_2 l0_2.length c0_2] 50 (0, 0)) (by (with_reducible repeat (first | refine blk_drewN ?_ _ | refine blk_drew ?_ | refine blk_alloc ?_ _)); exact BK252.out)) : gb252 ≠ gb253)); have n7_ := Aside0.mk ((by rw [hg]; exact Nat.ne_of_gt (blk_lt (g := gb252) (o := .cells #[.slice A0_0 l0_0.length c0_0, .slice A0_1 l0_1.length c0_1, .slice A0_2 l0_2.length c0_2] 50 (0, 0)) (by (with_reducible repeat (first | refine blk_drewN ?_ _ | refine blk_drew ?_ | refine blk_alloc ?_ _)); exact BK252.out)) : gb253 ≠ gb252)); clear HO_3; clear BK252; clear HB; have HO_3 := n0_; have BK252 := n1_; have HB := n2_; have BK253 := n3_; have GW253 := n4_; have GE253 := n5_; have NB252_253 := n6_; have NB253_252 := n7_; clear n0_ n1_ n2_ n3_ n4_ n5_ n6_ n7_; clear hb hbox hg; have hnb18 := NB253_252.out; have hnc18 := NB252_253.out; have hcz19_0 : w17.cell? ⟨gb253, 0, none⟩ = some (.slice none 0 0) := (blk_cell BK253.out 0).trans rfl; have hcz19_1 : w17.cell? ⟨gb253, 1, none⟩ = some (.slice none 0 0) := (blk_cell BK253.out 1).trans rfl; have hfz19_0 := blk_frozen BK253.out 0; have hfz19_1 := blk_frozen BK253.out 1; have hcz20_0 : w17.cell? ⟨gb252, 0, none⟩ = some (.slice A0_0 l0_0.length c0_0) := (blk_cell BK252.out 0).trans rfl; have hcz20_1 : w17.cell? ⟨gb252, 1, none⟩ = some (.slice A0_1 l0_1.length c0_1) := (blk_cell BK252.out 1).trans rfl; have hcz20_2 : w17.cell? ⟨gb252, 2, none⟩ = some (.slice A0_2 l0_2.length c0_2) := (blk_cell BK252.out 2).trans rfl; have hfz20_0 := blk_frozen BK252.out 0; have hfz20_1 := blk_frozen BK252.out 1; have hfz20_2 := blk_frozen BK252.out 2; have p254 : 0 ≤ (x4_2 : Int) := of_decide_eq_true (by first | (with_reducible assumption) | assumption); have q254 : x4_2 < (l0_2.length : Int) := of_decide_eq_true (by first | (with_reducible assumption) | assumption); obtain ⟨ad254, e254, hx254_0⟩ := Kd.at_bool HR0_2.out x4_2 p254 q254; (try rw [← Nbq11.out] at hx254_0); cases e254; have hn254_0 : ad254.block ≠ gb253 := Nat.ne_of_lt (Nat.lt_of_lt_of_le (by have := World.block_lt_of_cell? _ _ hx254_0; first | rwa [add_block] at this | exact this) GW253.out); have hn254_1 : ad254.block ≠ gb253 := Nat.ne_of_lt (Nat.lt_of_lt_of_le (by have := World.block_lt_of_cell? _ _ hx254_0; first | rwa [add_block] at this | exact this) GW253.out); replace hx254_0 := (HB.out.cell (World.block_lt_of_cell? w _ hx254_0)).trans hx254_0; replace hx254_0 := (cell_far (p := ⟨gb253, 0, none⟩) (by first | (rw [add_block]; exact hn254_0) | (show (Addr.add _ _).block ≠ _; rw [add_block]; exact hn254_0) | exact hn254_0) (.slice none 0 0)).trans hx254_0; replace hx254_0 := (cell_far (p := ⟨gb253, 1, none⟩) (by first | (rw [add_block]; exact hn254_1) | (show (Addr.add _ _).block ≠ _; rw [add_block]; exact hn254_1) | exact hn254_1) (.slice none 0 0)).trans hx254_0; clear hn254_0; clear hn254_1; replace p254 := eq_true p254; replace q254 := eq_true q254; have p255 : 0 ≤ (x4_2 : Int) := of_decide_eq_true (by first | (with_reducible assumption) | assumption); have q255 : x4_2 < (l0_1.length : Int) := of_decide_eq_true (by first | (with_reducible assumption) | assumption); obtain ⟨ad255, A255_0, c255_0, A255_1, c255_1, e255, hx255_0, hx255_1, hl255_0, hi255_0, hl255_1, hi255_1⟩ := at_T42 HR0_1.out x4_2 p255 q255; cases e255; have hn255_0 : ad255.block ≠ gb253 := Nat.ne_of_lt (Nat.lt_of_lt_of_le (by have := World.block_lt_of_cell? _ _ hx255_0; first | rwa [add_block] at this | exact this) GW253.out); have hn255_1 : ad255.block ≠ gb253 := Nat.ne_of_lt (Nat.lt_of_lt_of_le (by have := World.block_lt_of_cell? _ _ hx255_0; first | rwa [add_block] at this | exact this) GW253.out); replace hx255_0 := (HB.out.cell (World.block_lt_of_cell? w _ hx255_0)).trans hx255_0; replace hx255_1 := (HB.out.cell (World.block_lt_of_cell? w _ hx255_1)).trans hx255_1; have HR255_0 := Aside0.mk hi255_0; have HC255_0 := Aside0.mk hl255_0; clear hi255_0 hl255_0; have HR255_1 := Aside0.mk hi255_1; have HC255_1 := Aside0.mk hl255_1; clear hi255_1 hl255_1; replace hx255_0 := (cell_far (p := ⟨gb253, 0, none⟩) (by first | (rw [add_block]; exact hn255_0) | (show (Addr.add _ _).block ≠ _; rw [add_block]; exact hn255_0) | exact hn255_0) (.slice none 0 0)).trans hx255_0; replace hx255_1 := (cell_far (p := ⟨gb253, 0, none⟩) (by first | (rw [add_block]; exact hn255_0) | (show (Addr.add _ _).block ≠ _; rw [add_block]; exact hn255_0) | exact hn255_0) (.slice none 0 0)).trans hx255_1; replace hx255_0 := (cell_far (p := ⟨gb253, 1, none⟩) (by first | (rw [add_block]; exact hn255_1) | (show (Addr.add _ _).block ≠ _; rw [add_block]; exact hn255_1) | exact hn255_1) (.slice none 0 0)).trans hx255_0; replace hx255_1 := (cell_far (p := ⟨gb253, 1, none⟩) (by first | (rw [add_block]; exact hn255_1) | (show (Addr.add _ _).block ≠ _; rw [add_block]; exact hn255_1) | exact hn255_1) (.slice none 0 0)).trans hx255_1; clear hn255_0; clear hn255_1; replace p255 := eq_true p255; replace q255 := eq_true q255) | ((with_reducible refine gate_callee (f := 10) rfl ?_); refine goesL_ (some 40) rfl rfl Try.func10 (by kernel_rfl) rfl #[.agg #[.slice A255_0 ((rd_T42 l0_1 x4_2).f0).length c255_0, .slice A255_1 ((rd_T42 l0_1 x4_2).f1).length c255_1]] rfl (by (try simp only [List.map_toArray, List.map_cons, List.map_nil]); first | done | rfl | (simp only [List.length_drop, List.length_take]; rfl)) ?_; (with_reducible refine (crucibleref12_Of.calls k2 _ _ ((rd_T42 l0_1 x4_2).f0) _ _ ((rd_T42 l0_1 x4_2).f1) t256 t259 _ ?side1 ?side2 ?side3 ?side4 A14.out).mono ?_); (case side1 => exact Kd.C_below HR255_0.out (by repeat (first | (with_reducible first | exact HB.out | apply below_alloc | apply pw_below_drewN | apply below_drew1 | refine below_set ?_ GE252.out | refine below_set ?_ GE253.out) | exact HB.out))); (case side2 => exact HC255_0.out); (case side3 => exact Kd.C_below HR255_1.out (by repeat (first | (with_reducible first | exact HB.out | apply below_alloc | apply pw_below_drewN | apply below_drew1 | refine below_set ?_ GE252.out | refine below_set ?_ GE253.out) | exact HB.out))); (case side4 => exact HC255_1.out); rintro e w21 ⟨v257, v260, rfl, ho0, ho1, hb⟩; refine ⟨_, rfl, ?_⟩; have n0_ := Aside0.mk (Kd.S_mono (Kd.S_told (Kd.S_told (Kd.S_old (by (with_reducible repeat (first | apply Kd.S_alloc | apply Kd.S_drewN | apply Kd.S_drew)); exact (Kd.S_mono (Kd.S_far (p := ⟨gb253, 1, none⟩) (Kd.S_far (p := ⟨gb253, 0, none⟩) (Kd.S_mono HO_3.out (fun k_ hk => (⟨hk, hk.2⟩ : _ ∧ k_ ≠ gb253))) (fun _ hk => hk.2) (.slice none 0 0)) (fun _ hk => hk.2) (.slice none 0 0)) (fun _ h_ => h_.1))) hb) (Kd.R_base ho0)) (Kd.R_base ho1)) (fun _ h_ => h_.1)); have n1_ := Aside0.mk (Kd.R_lower ho0 (below_size (by repeat (first | (with_reducible first | exact HB.out | apply below_alloc | apply pw_below_drewN | apply below_drew1 | refine below_set ?_ GE252.out | refine below_set ?_ GE253.out) | exact HB.out)))); have n2_ := Aside0.mk (Kd.R_lower ho1 (below_size (by repeat (first | (with_reducible first | exact HB.out | apply below_alloc | apply pw_below_drewN | apply below_drew1 | refine below_set ?_ GE252.out | refine below_set ?_ GE253.out) | exact HB.out)))); have n3_ := Aside0.mk (blk_below (g := gb252) (o := .cells #[.slice A0_0 l0_0.length c0_0, .slice (some ad255) l0_1.length c0_1, .slice (some ad254) l0_2.length c0_2] 50 (0, 0)) (by (with_reducible repeat (first | refine blk_drewN ?_ _ | refine blk_drew ?_ | refine blk_alloc ?_ _)); refine blk_far ?_ NB252_253.out _; (with_reducible repeat (first | refine blk_drewN ?_ _ | refine blk_drew ?_ | refine blk_alloc ?_ _)); refine blk_far ?_ NB252_253.out _; (with_reducible repeat (first | refine blk_drewN ?_ _ | refine blk_drew ?_ | refine blk_alloc ?_ _)); exact BK252.out) hb); have n4_ := Aside0.mk (blk_below (g := gb253) (o := .cells #[.slice none 0 0, .slice none 0 0] 43 (0, 0)) (by (with_reducible repeat (first | refine blk_drewN ?_ _ | refine blk_drew ?_ | refine blk_alloc ?_ _)); refine blk_put (cs := #[.slice none 0 0, .slice none 0 0]) ?_ 1 _ rfl; (with_reducible repeat (first | refine blk_drewN ?_ _ | refine blk_drew ?_ | refine blk_alloc ?_ _)); refine blk_put (cs := #[.slice none 0 0, .slice none 0 0]) ?_ 0 _ rfl; (with_reducible repeat (first | refine blk_drewN ?_ _ | refine blk_drew ?_ | refine blk_alloc ?_ _)); exact BK253.out) hb); have n5_ := Aside0.mk (below_step (by repeat (first | (with_reducible first | exact HB.out | apply below_alloc | apply pw_below_drewN | apply below_drew1 | refine below_set ?_ GE252.out | refine below_set ?_ GE253.out) | exact HB.out)) hb); clear HO_3; clear BK252; clear BK253; clear HB; have HO_3 := n0_; have HO258 := n1_; have HO261 := n2_; have BK252 := n3_; have BK253 := n4_; have HB := n5_; clear n0_ n1_ n2_ n3_ n4_ n5_; (try clear hb); (try clear hb2); (try clear hk); (try clear hi); (try clear ho0); (try clear ho1); obtain ⟨Ao22, co22, eo22⟩ := Kd.R_slice HO258.out; subst eo22; have hcz23_0 : w21.cell? ⟨gb253, 0, none⟩ = some (.slice none 0 0) := (blk_cell BK253.out 0).trans rfl; have hcz23_1 : w21.cell? ⟨gb253, 1, none⟩ = some (.slice none 0 0) := (blk_cell BK253.out 1).trans rfl; have hfz23_0 := blk_frozen BK253.out 0; have hfz23_1 := blk_frozen BK253.out 1; obtain ⟨Ao24, co24, eo24⟩ := Kd.R_slice HO261.out; subst eo24) | ((with_reducible refine gate_store (t := 43) (p := 5) rfl ?_); refine store_event (t := 43) (p := 5) (v := ?vo_w25) (w1 := ((w21.setCell ⟨gb253, 0, none⟩ (.slice Ao22 t256.length co22)).setCell ⟨gb253, 1, none⟩ (.slice Ao24 t259.length co24))) ?hg ?ho ?hn ?hr ?_; (case ho => rfl); (case hg => rfl); (case hn => rfl); (case hr => first | (go_simp; done) | (go_simp; rfl)); intro w25 hw; have n0_ : Aside0 (Kd.S k43 43 w25 w.heap.size (fun k_ => some k_ ≠ (.slice Ao22 t256.length co22 : Value).ownBlock ∧ some k_ ≠ (.slice Ao24 t259.length co24 : Value).ownBlock ∧ k_ ≠ gb253) u3 x3_2) := ⟨(by rw [hw]; exact (by (with_reducible repeat (first | apply Kd.S_alloc | apply Kd.S_drewN | apply Kd.S_drew)); exact Kd.S_mono (Kd.S_far (p := ⟨gb253, 1, none⟩) (Kd.S_far (p := ⟨gb253, 0, none⟩) (Kd.S_mono HO_3.out (fun k_ hk => (⟨hk, hk.1.1.2⟩ : _ ∧ k_ ≠ gb253))) (fun _ hk => hk.2) (.slice Ao22 t256.length co22)) (fun _ hk => hk.2) (.slice Ao24 t259.length co24)) (fun _ hk => ⟨hk.1.1.2, ⟨hk.1.2, hk.1.1.1.2⟩⟩)))⟩; have n1_ : Aside0 (Kd.R Kd.bool 4 w25 w.heap.size (fun k_ => some k_ ≠ (.slice Ao24 t259.length co24 : Value).ownBlock) (.slice Ao22 t256.length co22) t256) := ⟨(by rw [hw]; exact (by (with_reducible repeat (first | apply Kd.R_alloc | apply Kd.R_drewN | apply Kd.R_drew)); exact Kd.R_mono (Kd.R_far (p := ⟨gb253, 1, none⟩) (Kd.R_far (p := ⟨gb253, 0, none⟩) (Kd.R_types HO258.out BK253.out (by decide)) (fun _ hk => hk.2) (.slice Ao22 t256.length co22)) (fun _ hk => hk.2) (.slice Ao24 t259.length co24)) (fun _ hk => hk.1)))⟩; have n2_ : Aside0 (Kd.R Kd.bool 4 w25 w.heap.size (fun k_ => some k_ ≠ (.slice Ao22 t256.length co22 : Value).ownBlock) (.slice Ao24 t259.length co24) t259) := ⟨(by rw [hw]; exact (by (with_reducible repeat (first | apply Kd.R_alloc | apply Kd.R_drewN | apply Kd.R_drew)); exact Kd.R_mono (Kd.R_far (p := ⟨gb253, 1, none⟩) (Kd.R_far (p := ⟨gb253, 0, none⟩) (Kd.R_types HO261.out BK253.out (by decide)) (fun _ hk => hk.2) (.slice Ao22 t256.length co22)) (fun _ hk => hk.2) (.slice Ao24 t259.length co24)) (fun _ hk => hk.1)))⟩; have n3_ : Aside0 (w25.heap[gb252]? = some (.cells #[.slice A0_0 l0_0.length c0_0, .slice (some ad255) l0_1.length c0_1, .slice (some ad254) l0_2.length c0_2] 50 (0, 0))) := ⟨(by rw [hw]; exact (by (with_reducible repeat (first | refine blk_drewN ?_ _ | refine blk_drew ?_ | refine blk_alloc ?_ _)); refine blk_far ?_ NB252_253.out _; (with_reducible repeat (first | refine blk_drewN ?_ _ | refine blk_drew ?_ | refine blk_alloc ?_ _)); refine blk_far ?_ NB252_253.out _; (with_reducible repeat (first | refine blk_drewN ?_ _ | refine blk_drew ?_ | refine blk_alloc ?_ _)); exact BK252.out))⟩; have n4_ : Aside0 (w25.heap[gb253]? = some (.cells #[.slice Ao22 t256.length co22, .slice Ao24 t259.length co24] 43 (0, 0))) := ⟨(by rw [hw]; exact (by (with_reducible repeat (first | refine blk_drewN ?_ _ | refine blk_drew ?_ | refine blk_alloc ?_ _)); refine blk_put (cs := #[.slice Ao22 t256.length co22, .slice none 0 0]) ?_ 1 _ rfl; (with_reducible repeat (first | refine blk_drewN ?_ _ | refine blk_drew ?_ | refine blk_alloc ?_ _)); refine blk_put (cs := #[.slice none 0 0, .slice none 0 0]) ?_ 0 _ rfl; (with_reducible repeat (first | refine blk_drewN ?_ _ | refine blk_drew ?_ | refine blk_alloc ?_ _)); exact BK253.out))⟩; have n5_ : Aside0 (Below w.heap.size w w25) := ⟨(by rw [hw]; exact (by repeat (first | (with_reducible first | exact HB.out | apply below_alloc | apply pw_below_drewN | apply below_drew1 | refine below_set ?_ GE252.out | refine below_set ?_ GE253.out) | exact HB.out)))⟩; clear hw; clear HO_3; clear HO258; clear HO261; clear BK252; clear BK253; clear HB; have HO_3 := n0_; have HO258 := n1_; have HO261 := n2_; have BK252 := n3_; have BK253 := n4_; have HB := n5_; clear n0_ n1_ n2_ n3_ n4_ n5_; have hcz26_0 : w25.cell? ⟨gb253, 0, none⟩ = some (.slice Ao22 t256.length co22) := (blk_cell BK253.out 0).trans rfl; have hcz26_1 : w25.cell? ⟨gb253, 1, none⟩ = some (.slice Ao24 t259.length co24) := (blk_cell BK253.out 1).trans rfl; have hfz26_0 := blk_frozen BK253.out 0; have hfz26_1 := blk_frozen BK253.out 1) | ((with_reducible refine gate_builtin (b := .append) (xs := #[.tmp 41, .tmp 43]) rfl ?_); (try (refine gate_guard (by rfl) ?_; dsimp only)); at_builtin; refine Kd.S_append k43 (w0 := w) w.heap.size rfl (.tmp 41) (.tmp 43) 26 43 (.agg #[(.slice none 0 0), (.slice none 0 0)]) 48 rfl Try.underlying26 info43 rfl (by decide) (by omega) u3 x3_2 (⟨t256, t259⟩ : S43) [.slice Ao22 t256.length co22, .slice Ao24 t259.length co24] (fun k_ => k_ ≠ gb253) (fun k_ => some k_ = (.slice Ao22 t256.length co22 : Value).ownBlock ∨ some k_ = (.slice Ao24 t259.length co24 : Value).ownBlock) rfl rfl ?aP (fun k_ hk_ => hk_.elim (fun h_ => ((Kd.R_mono (ok' := fun k_ => ((fun k_ => k_ ≠ gb253)) k_ ∧ some k_ ≠ (u3 : Value).ownBlock) (Kd.R_types (Kd.R_apart' (HO258.out) (Kd.S_typed HO_3.out) (by decide)) BK253.out (by decide)) (fun k_ hk => ⟨hk.2, hk.1.2⟩))).1 k_ h_.symm) (fun h_ => ((Kd.R_mono (ok' := fun k_ => ((fun k_ => k_ ≠ gb253)) k_ ∧ some k_ ≠ (u3 : Value).ownBlock) (Kd.R_types (Kd.R_apart' (HO261.out) (Kd.S_typed HO_3.out) (by decide)) BK253.out (by decide)) (fun k_ hk => ⟨hk.2, hk.1.2⟩))).1 k_ h_.symm)) ?aF ?aO ?aB ?aS ?aL ?_; (case aP => exact k43_mkM _ _ _ (⟨t256, t259⟩ : S43) (Kd.R_mono (Kd.R_tight rfl (Kd.R_mono (ok' := fun k_ => ((fun k_ => k_ ≠ gb253)) k_ ∧ some k_ ≠ (u3 : Value).ownBlock) (Kd.R_types (Kd.R_apart' (HO258.out) (Kd.S_typed HO_3.out) (by decide)) BK253.out (by decide)) (fun k_ hk => ⟨hk.2, hk.1.2⟩))) (fun _ h_ => Or.inl h_)) (Kd.R_mono (Kd.R_tight rfl (Kd.R_mono (ok' := fun k_ => ((fun k_ => k_ ≠ gb253)) k_ ∧ some k_ ≠ (u3 : Value).ownBlock) (Kd.R_types (Kd.R_apart' (HO261.out) (Kd.S_typed HO_3.out) (by decide)) BK253.out (by decide)) (fun k_ hk => ⟨hk.2, hk.1.2⟩))) (fun _ h_ => Or.inr (h_)))); (case aB => exact (by repeat (first | (with_reducible first | exact HB.out | apply below_alloc | apply pw_below_drewN | apply below_drew1 | refine below_set ?_ GE252.out | refine below_set ?_ GE253.out) | exact HB.out))); (case aF => exact (fun k_ hk => Kd.freshB (g := gb253) (o := .cells #[.slice Ao22 t256.length co22, .slice Ao24 t259.length co24] 43 (0, 0)) (by (with_reducible repeat (first | refine blk_drewN ?_ _ | refine blk_drew ?_ | refine blk_alloc ?_ _)); exact BK253.out) k_ hk)); (case aO => exact (by (with_reducible repeat (first | apply Kd.S_alloc | apply Kd.S_drewN | apply Kd.S_drew)); exact Kd.S_mono HO_3.out (fun k_ hk => ⟨hk.2.2, fun e_ => e_.elim (fun h_ => hk.1 h_) (fun h_ => hk.2.1 h_)⟩))); (case aS => exact (below_size (by repeat (first | (with_reducible first | exact HB.out | apply below_alloc | apply pw_below_drewN | apply below_drew1 | refine below_set ?_ GE252.out | refine below_set ?_ GE253.out) | exact HB.out)))); (case aL => have := LMc15.out; omega); intro v263 w27 ho hb hg hat; rw [← Ny262.out] at ho; have n0_ := Aside0.mk (blk_grown (g := gb252) (o := .cells #[.slice A0_0 l0_0.length c0_0, .slice (some ad255) l0_1.length c0_1, .slice (some ad254) l0_2.length c0_2] 50 (0, 0)) (by (with_reducible repeat (first | refine blk_drewN ?_ _ | refine blk_drew ?_ | refine blk_alloc ?_ _)); exact BK252.out) hg (Kd.S_ne HO_3.out BK252.out (by decide))); have n1_ := Aside0.mk (blk_grown (g := gb253) (o := .cells #[.slice Ao22 t256.length co22, .slice Ao24 t259.length co24] 43 (0, 0)) (by (with_reducible repeat (first | refine blk_drewN ?_ _ | refine blk_drew ?_ | refine blk_alloc ?_ _)); exact BK253.out) hg (Kd.S_away HO_3.out (fun _ hk => hk.2.2))); have n2_ := Aside0.mk (hb); have n3_ := Aside0.mk (ho); clear BK252; clear BK253; clear HB; clear HO_3; clear HO258; clear HO261; have BK252 := n0_; have BK253 := n1_; have HB := n2_; have HO264 := n3_; clear n0_ n1_ n2_ n3_; clear ho hb hg hat))
                        go_roundg k2
                        case measure => have := HJ1.out; have := HK2.out; omega
                        case rel => exact ⟨(y262), (wrap64 (x4_2 + 1)), (by first | rfl | (simp; done) | (simp [*]; done)), H', ⟨by have := HJ1.out; have := HK2.out; omega⟩, ⟨by (with_reducible repeat (first | apply Kd.S_alloc | apply Kd.S_drewN | apply Kd.S_drew)); exact Kd.S_mono HO264.out (fun _ hk => trivial)⟩, ⟨by (with_reducible repeat (first | refine blk_drewN ?_ _ | refine blk_drew ?_ | refine blk_alloc ?_ _)); exact BK252.out⟩, ⟨by repeat (first | (with_reducible first | exact HB.out | apply below_alloc | apply pw_below_drewN | apply below_drew1 | refine below_set ?_ GE252.out | refine below_set ?_ GE253.out) | exact HB.out)⟩⟩
                      · rw [if_neg c15] at H
                        exact absurd H (by simp)
                    · rw [if_neg c13] at H
                      exact absurd H (by simp)
                  · replace c12 := Bool.eq_false_iff.mpr c12
                    subst c12
                    have H1 : (if x3_2.length < 2932031007402 then (crucibleref12_Make.l0 k2 (x3_2 ++ [(⟨([] : List Bool), ([] : List Bool)⟩ : S43)]) (wrap64 (x4_2 + 1)) l0_0 l0_1 l0_2) else (none)) = some r := by rw [if_neg (show ¬ (false = true) by decide)] at H; exact H
                    clear H
                    have H := H1
                    clear H1
                    by_cases c28 : x3_2.length < 2932031007402
                    · rw [if_pos c28] at H
                      have LMc28 := Aside0.mk c28
                      clear c28
                      obtain ⟨y265, hy265⟩ : ∃ y_ : List (S43), y_ = (x3_2 ++ [(⟨([] : List Bool), ([] : List Bool)⟩ : S43)]) := ⟨_, rfl⟩
                      replace H : (crucibleref12_Make.l0 k2 y265 (wrap64 (x4_2 + 1)) l0_0 l0_1 l0_2) = some r := by first | (rw [hy265]; with_reducible exact H) | (have H2_ := (Option.bind_some _ _).symm.trans H; rw [hy265]; with_reducible exact H2_) | (have H2_ := (Option.bind_some _ _).symm.trans H; with_reducible exact H2_) | with_reducible exact H | (rw [hy265]; exact H) | exact H
                      have Ny265 := Aside0.mk hy265
                      clear hy265
                      have H' := Aside0.mk H
                      clear H
                      have hcz29_0 : wr.cell? ⟨gb252, 0, none⟩ = some (.slice A0_0 l0_0.length c0_0) := (blk_cell BK252.out 0).trans rfl
                      have hcz29_1 : wr.cell? ⟨gb252, 1, none⟩ = some (.slice A0_1 l0_1.length c0_1) := (blk_cell BK252.out 1).trans rfl
                      have hcz29_2 : wr.cell? ⟨gb252, 2, none⟩ = some (.slice A0_2 l0_2.length c0_2) := (blk_cell BK252.out 2).trans rfl
                      have hfz29_0 := blk_frozen BK252.out 0
                      have hfz29_1 := blk_frozen BK252.out 1
                      have hfz29_2 := blk_frozen BK252.out 2
                      go_wp2_with (first | ((with_reducible refine gate_dst (N := 5) rfl ?_); (try (refine gate_guard (by rfl) ?_; dsimp only)); refine box_event ?hg (N := 5) ?hd (cs := #[.slice none 0 0, .slice none 0 0]) (t := 43) ?hr ?_; (case hd => rfl); (case hg => rfl); (case hr => first | (go_simp; done) | (go_simp; rfl)); intro gb253 hg w30 hbox hb; have n0_ := Aside0.mk (Kd.S_below (Kd.S_elderB (by (with_reducible repeat (first | apply Kd.S_alloc | apply Kd.S_drewN | apply Kd.S_drew)); exact HO_3.out) gb253 (Nat.le_of_eq hg.symm)) hb); have n1_ := Aside0.mk (blk_below (g := gb252) (o := .cells #[.slice A0_0 l0_0.length c0_0, .slice A0_1 l0_1.length c0_1, .slice A0_2 l0_2.length c0_2] 50 (0, 0)) (by (with_reducible repeat (first | refine blk_drewN ?_ _ | refine blk_drew ?_ | refine blk_alloc ?_ _)); exact BK252.out) hb); have n2_ := Aside0.mk (below_step (by repeat (first | (with_reducible first | exact HB.out | apply below_alloc | apply pw_below_drewN | apply below_drew1 | refine below_set ?_ GE252.out) | exact HB.out)) hb); have n3_ := Aside0.mk (hbox); have n4_ := Aside0.mk ((by rw [hg]; exact (below_size (by repeat (first | (with_reducible first | exact HB.out | apply below_alloc | apply pw_below_drewN | apply below_drew1 | refine below_set ?_ GE252.out) | exact HB.out))) : w.heap.size ≤ gb253)); have n5_ := Aside0.mk ((by rw [hg]; exact (below_size (by repeat (first | (with_reducible first | exact HB.out | apply below_alloc | apply pw_below_drewN | apply below_drew1 | refine below_set ?_ GE252.out) | exact HB.out))) : w.heap.size ≤ gb253)); have n6_ := Aside0.mk ((by rw [hg]; exact Nat.ne_of_lt (blk_lt (g := gb252) (o := .cells #[.slice A0_0 l0_0.length c0_0, .slice A0_1 l0_1.length c0_1, .slice A0_2 l0_2.length c0_2] 50 (0, 0)) (by (with_reducible repeat (first | refine blk_drewN ?_ _ | refine blk_drew ?_ | refine blk_alloc ?_ _)); exact BK252.out)) : gb252 ≠ gb253)); have n7_ := Aside0.mk ((by rw [hg]; exact Nat.ne_of_gt (blk_lt (g := gb252) (o := .cells #[.slice A0_0 l0_0.length c0_0, .slice A0_1 l0_1.length c0_1, .slice A0_2 l0_2.length c0_2] 50 (0, 0)) (by (with_reducible repeat (first | refine blk_drewN ?_ _ | refine blk_drew ?_ | refine blk_alloc ?_ _)); exact BK252.out)) : gb253 ≠ gb252)); clear HO_3; clear BK252; clear HB; have HO_3 := n0_; have BK252 := n1_; have HB := n2_; have BK253 := n3_; have GW253 := n4_; have GE253 := n5_; have NB252_253 := n6_; have NB253_252 := n7_; clear n0_ n1_ n2_ n3_ n4_ n5_ n6_ n7_; clear hb hbox hg; have hnb31 := NB253_252.out; have hnc31 := NB252_253.out; have hcz32_0 : w30.cell? ⟨gb253, 0, none⟩ = some (.slice none 0 0) := (blk_cell BK253.out 0).trans rfl; have hcz32_1 : w30.cell? ⟨gb253, 1, none⟩ = some (.slice none 0 0) := (blk_cell BK253.out 1).trans rfl; have hfz32_0 := blk_frozen BK253.out 0; have hfz32_1 := blk_frozen BK253.out 1; have hcz33_0 : w30.cell? ⟨gb252, 0, none⟩ = some (.slice A0_0 l0_0.length c0_0) := (blk_cell BK252.out 0).trans rfl; have hcz33_1 : w30.cell? ⟨gb252, 1, none⟩ = some (.slice A0_1 l0_1.length c0_1) := (blk_cell BK252.out 1).trans rfl; have hcz33_2 : w30.cell? ⟨gb252, 2, none⟩ = some (.slice A0_2 l0_2.length c0_2) := (blk_cell BK252.out 2).trans rfl; have hfz33_0 := blk_frozen BK252.out 0; have hfz33_1 := blk_frozen BK252.out 1; have hfz33_2 := blk_frozen BK252.out 2; have p254 : 0 ≤ (x4_2 : Int) := of_decide_eq_true (by first | (with_reducible assumption) | assumption); have q254 : x4_2 < (l0_2.length : Int) := of_decide_eq_true (by first | (with_reducible assumption) | assumption); obtain ⟨ad254, e254, hx254_0⟩ := Kd.at_bool HR0_2.out x4_2 p254 q254; (try rw [← Nbq11.out] at hx254_0); cases e254; have hn254_0 : ad254.block ≠ gb253 := Nat.ne_of_lt (Nat.lt_of_lt_of_le (by have := World.block_lt_of_cell? _ _ hx254_0; first | rwa [add_block] at this | exact this) GW253.out); have hn254_1 : ad254.block ≠ gb253 := Nat.ne_of_lt (Nat.lt_of_lt_of_le (by have := World.block_lt_of_cell? _ _ hx254_0; first | rwa [add_block] at this | exact this) GW253.out); replace hx254_0 := (HB.out.cell (World.block_lt_of_cell? w _ hx254_0)).trans hx254_0; replace hx254_0 := (cell_far (p := ⟨gb253, 0, none⟩) (by first | (rw [add_block]; exact hn254_0) | (show (Addr.add _ _).block ≠ _; rw [add_block]; exact hn254_0) | exact hn254_0) (.slice none 0 0)).trans hx254_0; replace hx254_0 := (cell_far (p := ⟨gb253, 1, none⟩) (by first | (rw [add_block]; exact hn254_1) | (show (Addr.add _ _).block ≠ _; rw [add_block]; exact hn254_1) | exact hn254_1) (.slice none 0 0)).trans hx254_0; clear hn254_0; clear hn254_1; replace p254 := eq_true p254; replace q254 := eq_true q254) | ((with_reducible refine gate_builtin (b := .append) (xs := #[.tmp 41, .tmp 43]) rfl ?_); (try (refine gate_guard (by rfl) ?_; dsimp only)); at_builtin; refine Kd.S_append k43 (w0 := w) w.heap.size rfl (.tmp 41) (.tmp 43) 26 43 (.agg #[(.slice none 0 0), (.slice none 0 0)]) 48 rfl Try.underlying26 info43 rfl (by decide) (by omega) u3 x3_2 (⟨([] : List Bool), ([] : List Bool)⟩ : S43) [.slice none 0 0, .slice none 0 0] (fun k_ => k_ ≠ gb253) (fun _ => False) rfl (by first | (go_simp; done) | (go_simp; rfl)) ?aP (fun k_ hk_ => hk_.elim) ?aF ?aO ?aB ?aS ?aL ?_; (case aP => exact k43_mkM _ _ _ (⟨([] : List Bool), ([] : List Bool)⟩ : S43) (Kd.R_nil _ _ _ _ _) (Kd.R_nil _ _ _ _ _)); (case aB => exact (by repeat (first | (with_reducible first | exact HB.out | apply below_alloc | apply pw_below_drewN | apply below_drew1 | refine below_set ?_ GE252.out | refine below_set ?_ GE253.out) | exact HB.out))); (case aF => exact (fun k_ hk => Kd.freshB (g := gb253) (o := .cells #[.slice none 0 0, .slice none 0 0] 43 (0, 0)) (by (with_reducible repeat (first | refine blk_drewN ?_ _ | refine blk_drew ?_ | refine blk_alloc ?_ _)); refine blk_put (cs := #[.slice none 0 0, .slice none 0 0]) ?_ 1 _ rfl; (with_reducible repeat (first | refine blk_drewN ?_ _ | refine blk_drew ?_ | refine blk_alloc ?_ _)); refine blk_put (cs := #[.slice none 0 0, .slice none 0 0]) ?_ 0 _ rfl; (with_reducible repeat (first | refine blk_drewN ?_ _ | refine blk_drew ?_ | refine blk_alloc ?_ _)); exact BK253.out) k_ hk)); (case aO => exact (by (with_reducible repeat (first | apply Kd.S_alloc | apply Kd.S_drewN | apply Kd.S_drew)); exact Kd.S_mono (Kd.S_far (p := ⟨gb253, 1, none⟩) (Kd.S_far (p := ⟨gb253, 0, none⟩) (Kd.S_mono HO_3.out (fun k_ hk => (⟨hk, hk.2⟩ : _ ∧ k_ ≠ gb253))) (fun _ hk => hk.2) (.slice none 0 0)) (fun _ hk => hk.2) (.slice none 0 0)) (fun k_ hk => ⟨hk.1.2, fun e_ => e_⟩))); (case aS => exact (below_size (by repeat (first | (with_reducible first | exact HB.out | apply below_alloc | apply pw_below_drewN | apply below_drew1 | refine below_set ?_ GE252.out | refine below_set ?_ GE253.out) | exact HB.out)))); (case aL => have := LMc28.out; omega); intro v266 w34 ho hb hg hat; rw [← Ny265.out] at ho; have n0_ := Aside0.mk (blk_grown (g := gb252) (o := .cells #[.slice A0_0 l0_0.length c0_0, .slice A0_1 l0_1.length c0_1, .slice (some ad254) l0_2.length c0_2] 50 (0, 0)) (by (with_reducible repeat (first | refine blk_drewN ?_ _ | refine blk_drew ?_ | refine blk_alloc ?_ _)); refine blk_far ?_ NB252_253.out _; (with_reducible repeat (first | refine blk_drewN ?_ _ | refine blk_drew ?_ | refine blk_alloc ?_ _)); refine blk_far ?_ NB252_253.out _; (with_reducible repeat (first | refine blk_drewN ?_ _ | refine blk_drew ?_ | refine blk_alloc ?_ _)); exact BK252.out) hg (Kd.S_ne HO_3.out BK252.out (by decide))); have n1_ := Aside0.mk (blk_grown (g := gb253) (o := .cells #[.slice none 0 0, .slice none 0 0] 43 (0, 0)) (by (with_reducible repeat (first | refine blk_drewN ?_ _ | refine blk_drew ?_ | refine blk_alloc ?_ _)); refine blk_put (cs := #[.slice none 0 0, .slice none 0 0]) ?_ 1 _ rfl; (with_reducible repeat (first | refine blk_drewN ?_ _ | refine blk_drew ?_ | refine blk_alloc ?_ _)); refine blk_put (cs := #[.slice none 0 0, .slice none 0 0]) ?_ 0 _ rfl; (with_reducible repeat (first | refine blk_drewN ?_ _ | refine blk_drew ?_ | refine blk_alloc ?_ _)); exact BK253.out) hg (Kd.S_away HO_3.out (fun _ hk => hk.2))); have n2_ := Aside0.mk (hb); have n3_ := Aside0.mk (ho); clear BK252; clear BK253; clear HB; clear HO_3; have BK252 := n0_; have BK253 := n1_; have HB := n2_; have HO267 := n3_; clear n0_ n1_ n2_ n3_; clear ho hb hg hat))
                      go_roundg k2
                      case measure => have := HJ1.out; have := HK2.out; omega
                      case rel => exact ⟨(y265), (wrap64 (x4_2 + 1)), (by first | rfl | (simp; done) | (simp [*]; done)), H', ⟨by have := HJ1.out; have := HK2.out; omega⟩, ⟨by (with_reducible repeat (first | apply Kd.S_alloc | apply Kd.S_drewN | apply Kd.S_drew)); exact Kd.S_mono HO267.out (fun _ hk => trivial)⟩, ⟨by (with_reducible repeat (first | refine blk_drewN ?_ _ | refine blk_drew ?_ | refine blk_alloc ?_ _)); exact BK252.out⟩, ⟨by repeat (first | (with_reducible first | exact HB.out | apply below_alloc | apply pw_below_drewN | apply below_drew1 | refine below_set ?_ GE252.out | refine below_set ?_ GE253.out) | exact HB.out)⟩⟩
                    · rw [if_neg c28] at H
                      exact absurd H (by simp)
                · rw [if_neg c10] at H
                  exact absurd H (by simp)
              · rw [if_neg c9] at H
                exact absurd H (by simp)
            · rw [if_neg c8] at H
              have c8b0 : decide (x4_2 < (l0_0.length : Int)) = false := decide_eq_false c8
              clear c8
              obtain rfl := Option.some.inj H
              have hcz35_0 : wr.cell? ⟨gb252, 0, none⟩ = some (.slice A0_0 l0_0.length c0_0) := (blk_cell BK252.out 0).trans rfl
              have hcz35_1 : wr.cell? ⟨gb252, 1, none⟩ = some (.slice A0_1 l0_1.length c0_1) := (blk_cell BK252.out 1).trans rfl
              have hcz35_2 : wr.cell? ⟨gb252, 2, none⟩ = some (.slice A0_2 l0_2.length c0_2) := (blk_cell BK252.out 2).trans rfl
              have hfz35_0 := blk_frozen BK252.out 0
              have hfz35_1 := blk_frozen BK252.out 1
              have hfz35_2 := blk_frozen BK252.out 2
              go_wp2
              go_ret
              exact ⟨_, by first | rfl | (simp [errW_none, errW_some] <;> rfl) | (simp [*, errW_none, errW_some] <;> rfl), by (with_reducible repeat (first | apply Kd.S_alloc | apply Kd.S_drewN | apply Kd.S_drew)); exact HO_3.out, by repeat (first | (with_reducible first | exact HB.out | apply below_alloc | apply pw_below_drewN | apply below_drew1 | refine below_set ?_ GE252.out) | exact HB.out)⟩

-- NOT PRINTED: function 4 (cruciblelaw12_RefmapMakes)

-- NOT PRINTED: function 31 (code_rows)

-- function 17 (code_Form): its contract is typed by hand

-- NOT PRINTED: function 36 (code_take)

/-! ### code_far: function 37 -/
def code_far.f (a0 : Int) (a1 : Int) : Option (Int) := if a1 ≥ 32768 then (some (wrap64 (a0 + (wrap64 (a1 - 65536))))) else (some (wrap64 (a0 + a1)))
set_option maxHeartbeats 8000000 in
set_option maxRecDepth 100000 in
theorem code_far.calls (a0 : Int) (a1 : Int) (r : Int) (w : World) (h : code_far.f a0 a1 = some r) :
    Calls Try.prog 37 #[.int .i64 a0, .int .i64 a1] w fun e w' => e = .returned (.int .i64 r) ∧ Drawn0 w w' := by
  have H : (if a1 ≥ 32768 then (some (wrap64 (a0 + (wrap64 (a1 - 65536))))) else (some (wrap64 (a0 + a1)))) = some r := h
  clear h
  by_cases c3 : a1 ≥ 32768
  · rw [if_pos c3] at H
    have c3b0 : decide (32768 ≤ a1) = true := decide_eq_true c3
    clear c3
    obtain rfl := Option.some.inj H
    go_enter Try.func37, Try.ntmps37
    go_wp2
    go_ret
    exact ⟨by first | rfl | (simp; done) | (simp [*]; done), by repeat (first | exact Drawn0.refl _ | apply Drawn0.step)⟩
  · rw [if_neg c3] at H
    have c3b0 : decide (32768 ≤ a1) = false := decide_eq_false c3
    clear c3
    obtain rfl := Option.some.inj H
    go_enter Try.func37, Try.ntmps37
    go_wp2
    go_ret
    exact ⟨by first | rfl | (simp; done) | (simp [*]; done), by repeat (first | exact Drawn0.refl _ | apply Drawn0.step)⟩

-- NOT PRINTED: function 29 (code_read)

/-! ### code_Ends: function 18 -/
def code_Ends.f (a0 : Int) : Option (Bool) := if a0 = 20 then (some true) else (if a0 = 30 then (some true) else (if a0 = 44 then (some true) else (if a0 = 45 then (some true) else (if a0 = 46 then (some true) else (some false)))))
set_option maxHeartbeats 8000000 in
set_option maxRecDepth 100000 in
theorem code_Ends.calls (a0 : Int) (r : Bool) (w : World) (h : code_Ends.f a0 = some r) :
    Calls Try.prog 18 #[.int .i64 a0] w fun e w' => e = .returned (.bool r) ∧ Drawn0 w w' := by
  have H : (if a0 = 20 then (some true) else (if a0 = 30 then (some true) else (if a0 = 44 then (some true) else (if a0 = 45 then (some true) else (if a0 = 46 then (some true) else (some false)))))) = some r := h
  clear h
  by_cases c2 : a0 = 20
  · rw [if_pos c2] at H
    have c2b0 : (a0 == 20) = true := beq_iff_eq.mpr c2
    have c2b1 : (a0 != 20) = false := bne_eq_false_iff_eq.mpr c2
    clear c2
    obtain rfl := Option.some.inj H
    go_enter Try.func18, Try.ntmps18
    go_wp2
    go_ret
    exact ⟨by first | rfl | (simp; done) | (simp [*]; done), by repeat (first | exact Drawn0.refl _ | apply Drawn0.step)⟩
  · rw [if_neg c2] at H
    have c2b0 : (a0 == 20) = false := beq_eq_false_iff_ne.mpr c2
    have c2b1 : (a0 != 20) = true := bne_iff_ne.mpr c2
    by_cases c3 : a0 = 30
    · rw [if_pos c3] at H
      have c3b0 : (a0 == 30) = true := beq_iff_eq.mpr c3
      have c3b1 : (a0 != 30) = false := bne_eq_false_iff_eq.mpr c3
      clear c3
      obtain rfl := Option.some.inj H
      go_enter Try.func18, Try.ntmps18
      go_wp2
      go_ret
      exact ⟨by first | rfl | (simp; done) | (simp [*]; done), by repeat (first | exact Drawn0.refl _ | apply Drawn0.step)⟩
    · rw [if_neg c3] at H
      have c3b0 : (a0 == 30) = false := beq_eq_false_iff_ne.mpr c3
      have c3b1 : (a0 != 30) = true := bne_iff_ne.mpr c3
      by_cases c4 : a0 = 44
      · rw [if_pos c4] at H
        have c4b0 : (a0 == 44) = true := beq_iff_eq.mpr c4
        have c4b1 : (a0 != 44) = false := bne_eq_false_iff_eq.mpr c4
        clear c4
        obtain rfl := Option.some.inj H
        go_enter Try.func18, Try.ntmps18
        go_wp2
        go_ret
        exact ⟨by first | rfl | (simp; done) | (simp [*]; done), by repeat (first | exact Drawn0.refl _ | apply Drawn0.step)⟩
      · rw [if_neg c4] at H
        have c4b0 : (a0 == 44) = false := beq_eq_false_iff_ne.mpr c4
        have c4b1 : (a0 != 44) = true := bne_iff_ne.mpr c4
        by_cases c5 : a0 = 45
        · rw [if_pos c5] at H
          have c5b0 : (a0 == 45) = true := beq_iff_eq.mpr c5
          have c5b1 : (a0 != 45) = false := bne_eq_false_iff_eq.mpr c5
          clear c5
          obtain rfl := Option.some.inj H
          go_enter Try.func18, Try.ntmps18
          go_wp2
          go_ret
          exact ⟨by first | rfl | (simp; done) | (simp [*]; done), by repeat (first | exact Drawn0.refl _ | apply Drawn0.step)⟩
        · rw [if_neg c5] at H
          have c5b0 : (a0 == 45) = false := beq_eq_false_iff_ne.mpr c5
          have c5b1 : (a0 != 45) = true := bne_iff_ne.mpr c5
          by_cases c6 : a0 = 46
          · rw [if_pos c6] at H
            have c6b0 : (a0 == 46) = true := beq_iff_eq.mpr c6
            have c6b1 : (a0 != 46) = false := bne_eq_false_iff_eq.mpr c6
            clear c6
            obtain rfl := Option.some.inj H
            go_enter Try.func18, Try.ntmps18
            go_wp2
            go_ret
            exact ⟨by first | rfl | (simp; done) | (simp [*]; done), by repeat (first | exact Drawn0.refl _ | apply Drawn0.step)⟩
          · rw [if_neg c6] at H
            have c6b0 : (a0 == 46) = false := beq_eq_false_iff_ne.mpr c6
            have c6b1 : (a0 != 46) = true := bne_iff_ne.mpr c6
            obtain rfl := Option.some.inj H
            go_enter Try.func18, Try.ntmps18
            go_wp2
            go_ret
            exact ⟨by first | rfl | (simp; done) | (simp [*]; done), by repeat (first | exact Drawn0.refl _ | apply Drawn0.step)⟩

-- NOT PRINTED: function 42 (slices_IndexFunc_int_int)

-- NOT PRINTED: function 38 (slices_ContainsFunc_int_int)

-- NOT PRINTED: function 30 (code_lands)

-- function 15 (code_Decode): its contract is typed by hand

-- function 27 (code_Name): its contract is typed by hand

-- function 28 (code_Op): its contract is typed by hand

-- function 14 (cruciblelaw4_shown): its contract is typed by hand

/-! ### cruciblelaw4_pick: function 16 -/
def cruciblelaw4_pick.f (a0 : Int) (a1 : Int) : Option (Int) := if a0 < 0 then (if a1 = 0 then (none) else (some (Int.tmod (wrap64 (-(wrap64 (a0 + 1)))) a1))) else (if a1 = 0 then (none) else (some (Int.tmod a0 a1)))
set_option maxHeartbeats 8000000 in
set_option maxRecDepth 100000 in
theorem cruciblelaw4_pick.calls (a0 : Int) (a1 : Int) (r : Int) (w : World) (h : cruciblelaw4_pick.f a0 a1 = some r) :
    Calls Try.prog 16 #[.int .i64 a0, .int .i64 a1] w fun e w' => e = .returned (.int .i64 r) ∧ Drawn0 w w' := by
  have H : (if a0 < 0 then (if a1 = 0 then (none) else (some (Int.tmod (wrap64 (-(wrap64 (a0 + 1)))) a1))) else (if a1 = 0 then (none) else (some (Int.tmod a0 a1)))) = some r := h
  clear h
  by_cases c3 : a0 < 0
  · rw [if_pos c3] at H
    have c3b0 : decide (a0 < 0) = true := decide_eq_true c3
    clear c3
    by_cases c4 : a1 = 0
    · rw [if_pos c4] at H
      exact absurd H (by simp)
    · rw [if_neg c4] at H
      have c4b0 : (a1 == 0) = false := beq_eq_false_iff_ne.mpr c4
      have c4b1 : (a1 != 0) = true := bne_iff_ne.mpr c4
      obtain rfl := Option.some.inj H
      go_enter Try.func16, Try.ntmps16
      go_wp2
      go_ret
      exact ⟨by first | rfl | (simp; done) | (simp [*]; done), by repeat (first | exact Drawn0.refl _ | apply Drawn0.step)⟩
  · rw [if_neg c3] at H
    have c3b0 : decide (a0 < 0) = false := decide_eq_false c3
    clear c3
    by_cases c5 : a1 = 0
    · rw [if_pos c5] at H
      exact absurd H (by simp)
    · rw [if_neg c5] at H
      have c5b0 : (a1 == 0) = false := beq_eq_false_iff_ne.mpr c5
      have c5b1 : (a1 != 0) = true := bne_iff_ne.mpr c5
      obtain rfl := Option.some.inj H
      go_enter Try.func16, Try.ntmps16
      go_wp2
      go_ret
      exact ⟨by first | rfl | (simp; done) | (simp [*]; done), by repeat (first | exact Drawn0.refl _ | apply Drawn0.step)⟩

/-! ### cruciblelaw4_sameInts: function 32 -/
def cruciblelaw4_sameInts.l0 : Nat → List Int → List Int → Int → Option (Bool)
  | 0, _, _, _ => none
  | k + 1, x0, x1, x5 => if x5 < (x0.length : Int) then (if 0 ≤ x5 then (if x5 < (x1.length : Int) then (if (rd x0 x5) = (rd x1 x5) then (cruciblelaw4_sameInts.l0 k x0 x1 (wrap64 (x5 + 1))) else (some false)) else (none)) else (none)) else (some true)
def cruciblelaw4_sameInts.f (k : Nat) (l0 : List Int) (l1 : List Int) : Option (Bool) := if (l0.length : Int) = (l1.length : Int) then (cruciblelaw4_sameInts.l0 k l0 l1 0) else (some false)
theorem cruciblelaw4_sameInts.mono_l : ∀ k, (∀ y0 y1 y2, LeO (cruciblelaw4_sameInts.l0 k y0 y1 y2) (cruciblelaw4_sameInts.l0 (k + 1) y0 y1 y2))
  | 0 => fun _ _ _ r h => by simp [cruciblelaw4_sameInts.l0] at h
  | k + 1 => by
    have ih0 := cruciblelaw4_sameInts.mono_l k
    · intro y0 y1 y2
      unfold cruciblelaw4_sameInts.l0
      repeat' first
      | (with_reducible exact ih0 _ _ _)
      | (with_reducible exact LeO.refl _)
      | (with_reducible exact LeO.none _)
      | (with_reducible refine LeO.ite ?_ ?_)
      | (with_reducible refine LeO.bind ?_ (fun _ => ?_))
      | exact ih0 _ _ _
      | exact LeO.none _
      | refine LeO.ite ?_ ?_
      | refine LeO.bind ?_ (fun _ => ?_)
theorem cruciblelaw4_sameInts.mono : ∀ a0 a1 k, LeO (cruciblelaw4_sameInts.f k a0 a1) (cruciblelaw4_sameInts.f (k + 1) a0 a1) := by
  intro a0 a1 k
  have ih0 := cruciblelaw4_sameInts.mono_l k
  unfold cruciblelaw4_sameInts.f
  repeat' first
      | (with_reducible exact ih0 _ _ _)
      | (with_reducible exact LeO.refl _)
      | (with_reducible exact LeO.none _)
      | (with_reducible refine LeO.ite ?_ ?_)
      | (with_reducible refine LeO.bind ?_ (fun _ => ?_))
      | exact ih0 _ _ _
      | exact LeO.none _
      | refine LeO.ite ?_ ?_
      | refine LeO.bind ?_ (fun _ => ?_)
set_option maxHeartbeats 8000000 in
set_option maxRecDepth 100000 in
theorem cruciblelaw4_sameInts.calls (k : Nat) (A0 : Option Addr) (c0 : Nat) (l0 : List Int) (A1 : Option Addr) (c1 : Nat) (l1 : List Int) (r : Bool) (w : World) (hr0 : Kd.C (Kd.int .i64) w A0 l0.length l0) (hc0 : l0.length ≤ c0) (hr1 : Kd.C (Kd.int .i64) w A1 l1.length l1) (hc1 : l1.length ≤ c1) (h : cruciblelaw4_sameInts.f k l0 l1 = some r) :
    Calls Try.prog 32 #[.slice A0 l0.length c0, .slice A1 l1.length c1] w fun e w' => e = .returned (.bool r) ∧ Drawn0 w w' := by
  have HR0 := Aside0.mk hr0
  have HC0 := Aside0.mk hc0
  clear hr0 hc0
  have HR1 := Aside0.mk hr1
  have HC1 := Aside0.mk hc1
  clear hr1 hc1
  have H : (if (l0.length : Int) = (l1.length : Int) then (cruciblelaw4_sameInts.l0 k l0 l1 0) else (some false)) = some r := h
  clear h
  by_cases c3 : (l0.length : Int) = (l1.length : Int)
  · rw [if_pos c3] at H
    have c3b0 : ((l0.length : Int) == (l1.length : Int)) = true := beq_iff_eq.mpr c3
    have c3b1 : ((l0.length : Int) != (l1.length : Int)) = false := bne_eq_false_iff_eq.mpr c3
    have c3b2 : (l0.length == l1.length) = true := by first | simpa using c3 | (simp at c3 ⊢; omega)
    clear c3
    have H' := Aside0.mk H
    clear H
    go_enter Try.func32, Try.ntmps32
    go_wp2
    repeat (go_quiet (fail); try go_wp2)
    go_loopg [5] k (fun kq v5 w' => ∃ (x5_1 : Int), v5 = .int .i64 x5_1 ∧ Aside0 (cruciblelaw4_sameInts.l0 kq l0 l1 x5_1 = some r) ∧ Aside0 (kq ≤ k) ∧ Drawn0 w w')
    case atStart => exact ⟨(0), (by first | rfl | (simp; done) | (simp [*]; done)), H', ⟨Nat.le_refl _⟩, by repeat (first | exact Drawn0.refl _ | apply Drawn0.step)⟩
    case round =>
      clear H'
      try clear c1
      try clear p2
      try clear c3
      try clear c3b0
      try clear c3b1
      try clear c3b2
      obtain ⟨x5_1, rfl, HA, HK1, ⟨m1, rfl⟩⟩ := hrel
      cases gk with
      | zero => exact absurd HA.out (by simp [cruciblelaw4_sameInts.l0])
      | succ k1 =>
        have H := HA.out
        clear HA
        simp only [cruciblelaw4_sameInts.l0] at H
        by_cases c4 : x5_1 < (l0.length : Int)
        · rw [if_pos c4] at H
          have c4b0 : decide (x5_1 < (l0.length : Int)) = true := decide_eq_true c4
          clear c4
          by_cases c5 : 0 ≤ x5_1
          · rw [if_pos c5] at H
            have c5b0 : decide (0 ≤ x5_1) = true := decide_eq_true c5
            clear c5
            by_cases c6 : x5_1 < (l1.length : Int)
            · rw [if_pos c6] at H
              have c6b0 : decide (x5_1 < (l1.length : Int)) = true := decide_eq_true c6
              clear c6
              by_cases c7 : (rd l0 x5_1) = (rd l1 x5_1)
              · rw [if_pos c7] at H
                have c7b0 : ((rd l0 x5_1) == (rd l1 x5_1)) = true := beq_iff_eq.mpr c7
                have c7b1 : ((rd l0 x5_1) != (rd l1 x5_1)) = false := bne_eq_false_iff_eq.mpr c7
                clear c7
                have H' := Aside0.mk H
                clear H
                have p301 : 0 ≤ (x5_1 : Int) := of_decide_eq_true (by first | (with_reducible assumption) | assumption)
                have q301 : x5_1 < (l0.length : Int) := of_decide_eq_true (by first | (with_reducible assumption) | assumption)
                obtain ⟨ad301, e301, hx301_0⟩ := Kd.at_int HR0.out x5_1 p301 q301
                cases e301
                replace p301 := eq_true p301
                replace q301 := eq_true q301
                have p302 : 0 ≤ (x5_1 : Int) := of_decide_eq_true (by first | (with_reducible assumption) | assumption)
                have q302 : x5_1 < (l1.length : Int) := of_decide_eq_true (by first | (with_reducible assumption) | assumption)
                obtain ⟨ad302, e302, hx302_0⟩ := Kd.at_int HR1.out x5_1 p302 q302
                cases e302
                replace p302 := eq_true p302
                replace q302 := eq_true q302
                go_wp2
                repeat (go_quiet (fail); try go_wp2)
                go_roundg k1
                case measure => have := HK1.out; omega
                case rel => exact ⟨(wrap64 (x5_1 + 1)), (by first | rfl | (simp; done) | (simp [*]; done)), H', ⟨by have := HK1.out; omega⟩, by repeat (first | exact Drawn0.refl _ | apply Drawn0.step)⟩
              · rw [if_neg c7] at H
                have c7b0 : ((rd l0 x5_1) == (rd l1 x5_1)) = false := beq_eq_false_iff_ne.mpr c7
                have c7b1 : ((rd l0 x5_1) != (rd l1 x5_1)) = true := bne_iff_ne.mpr c7
                obtain rfl := Option.some.inj H
                have p301 : 0 ≤ (x5_1 : Int) := of_decide_eq_true (by first | (with_reducible assumption) | assumption)
                have q301 : x5_1 < (l0.length : Int) := of_decide_eq_true (by first | (with_reducible assumption) | assumption)
                obtain ⟨ad301, e301, hx301_0⟩ := Kd.at_int HR0.out x5_1 p301 q301
                cases e301
                replace p301 := eq_true p301
                replace q301 := eq_true q301
                have p302 : 0 ≤ (x5_1 : Int) := of_decide_eq_true (by first | (with_reducible assumption) | assumption)
                have q302 : x5_1 < (l1.length : Int) := of_decide_eq_true (by first | (with_reducible assumption) | assumption)
                obtain ⟨ad302, e302, hx302_0⟩ := Kd.at_int HR1.out x5_1 p302 q302
                cases e302
                replace p302 := eq_true p302
                replace q302 := eq_true q302
                go_wp2
                repeat (go_quiet (fail); try go_wp2)
                go_ret
                exact ⟨by first | rfl | (simp; done) | (simp [*]; done), by repeat (first | exact Drawn0.refl _ | apply Drawn0.step)⟩
            · rw [if_neg c6] at H
              exact absurd H (by simp)
          · rw [if_neg c5] at H
            exact absurd H (by simp)
        · rw [if_neg c4] at H
          have c4b0 : decide (x5_1 < (l0.length : Int)) = false := decide_eq_false c4
          clear c4
          obtain rfl := Option.some.inj H
          go_wp2
          repeat (go_quiet (fail); try go_wp2)
          go_ret
          exact ⟨by first | rfl | (simp; done) | (simp [*]; done), by repeat (first | exact Drawn0.refl _ | apply Drawn0.step)⟩
  · rw [if_neg c3] at H
    have c3b0 : ((l0.length : Int) == (l1.length : Int)) = false := beq_eq_false_iff_ne.mpr c3
    have c3b1 : ((l0.length : Int) != (l1.length : Int)) = true := bne_iff_ne.mpr c3
    have c3b2 : (l0.length == l1.length) = false := by first | simpa using c3 | (simp at c3 ⊢; omega)
    obtain rfl := Option.some.inj H
    go_enter Try.func32, Try.ntmps32
    go_wp2
    repeat (go_quiet (fail); try go_wp2)
    go_ret
    exact ⟨by first | rfl | (simp; done) | (simp [*]; done), by repeat (first | exact Drawn0.refl _ | apply Drawn0.step)⟩

end Go.Proofs.Ytnbjhfleoodncaa.X
