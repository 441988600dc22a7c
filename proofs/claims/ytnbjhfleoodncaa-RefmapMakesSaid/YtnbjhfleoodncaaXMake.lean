-- written by a program of this session's (xprint.py: a patched print); Lean checks it
import Derived.Test.YtnbjhfleoodncaaXx0
import Derived.Test.YtnbjhfleoodncaaXx1
import Derived.Test.YtnbjhfleoodncaaXx4
import Derived.Deep.DeepMust
namespace Go.Proofs.Ytnbjhfleoodncaa.X
open Go.RowKit Go.Proofs.YtnbjhfleoodncaaW.PrintWords Go.Proofs.YtnbjhfleoodncaaW.PrintLast Go.Proofs.YtnbjhfleoodncaaW.PrintMore
attribute [local go_sem] max2_int min2_int max_two min_two max_three min_three max_four min_four   -- for this text's walks alone
set_option linter.unusedVariables false
set_option linter.unusedSimpArgs false

/-! ### refmap_Make: function 12 -/
mutual
def refmap_Make.j0 : Nat → Bool → List (S57) → List (S42) → List Bool → Option ((List (S38)))
  | 0, _, _, _, _ => none
  | k + 1, x21, x239000, x239001, x239002 => if x21 = true then (some ([] : List (S38))) else (if 0 ≤ (x239000.length : Int) then (if ((x239000.length : Int) : Int).toNat ≤ 5864062014805 then (refmap_Make.l0 k (List.replicate ((x239000.length : Int) : Int).toNat z38) x239001 (x239001.length : Int) 0 x239000 x239001 x239002) else (none)) else (none))
def refmap_Make.l0 : Nat → List (S38) → List (S42) → Int → Int → List (S57) → List (S42) → List Bool → Option ((List (S38)))
  | 0, _, _, _, _, _, _, _ => none
  | k + 1, x3, x27, x28, x29, x239000, x239001, x239002 => if x29 < x28 then (if 0 ≤ x29 then (if x29 < (x27.length : Int) then (if x29 < (x239002.length : Int) then (if rdOf false x239002 x29 = true then ((refmap_Of.f k ((rd_T42 x27 x29).f0) ((rd_T42 x27 x29).f1)).bind fun bt245 => (if x29 < (x3.length : Int) then (refmap_Make.l0 k (x3.set (x29 : Int).toNat (⟨bt245.1, bt245.2⟩ : S38)) x27 x28 (wrap64 (x29 + 1)) x239000 x239001 x239002) else (none))) else (refmap_Make.l0 k x3 x27 x28 (wrap64 (x29 + 1)) x239000 x239001 x239002)) else (none)) else (none)) else (none)) else (some x3)
end
def refmap_Make.f (k : Nat) (l0_0 : List (S57)) (l0_1 : List (S42)) (l0_2 : List Bool) : Option ((List (S38))) := if (l0_0.length : Int) = (l0_1.length : Int) then (refmap_Make.j0 k ((l0_0.length : Int) != (l0_2.length : Int)) l0_0 l0_1 l0_2) else (refmap_Make.j0 k true l0_0 l0_1 l0_2)
theorem refmap_Make.mono_l : ∀ k, (∀ y0 y1 y2 y3, LeO (refmap_Make.j0 k y0 y1 y2 y3) (refmap_Make.j0 (k + 1) y0 y1 y2 y3)) ∧ (∀ y0 y1 y2 y3 y4 y5 y6, LeO (refmap_Make.l0 k y0 y1 y2 y3 y4 y5 y6) (refmap_Make.l0 (k + 1) y0 y1 y2 y3 y4 y5 y6))
  | 0 => ⟨fun _ _ _ _ r h => by simp [refmap_Make.j0] at h, fun _ _ _ _ _ _ _ r h => by simp [refmap_Make.l0] at h⟩
  | k + 1 => by
    obtain ⟨ih0, ih1⟩ := refmap_Make.mono_l k
    refine ⟨?_, ?_⟩
    · intro y0 y1 y2 y3
      unfold refmap_Make.j0
      repeat' first
      | (with_reducible exact ih0 _ _ _ _)
      | (with_reducible exact ih1 _ _ _ _ _ _ _)
      | (with_reducible exact refmap_Of.mono _ _ _)
      | (with_reducible exact LeO.refl _)
      | (with_reducible exact LeO.none _)
      | (with_reducible refine LeO.ite ?_ ?_)
      | (with_reducible refine LeO.bind ?_ (fun _ => ?_))
      | exact ih0 _ _ _ _
      | exact ih1 _ _ _ _ _ _ _
      | exact refmap_Of.mono _ _ _
      | exact LeO.none _
      | refine LeO.ite ?_ ?_
      | refine LeO.bind ?_ (fun _ => ?_)
    · intro y0 y1 y2 y3 y4 y5 y6
      unfold refmap_Make.l0
      repeat' first
      | (with_reducible exact ih0 _ _ _ _)
      | (with_reducible exact ih1 _ _ _ _ _ _ _)
      | (with_reducible exact refmap_Of.mono _ _ _)
      | (with_reducible exact LeO.refl _)
      | (with_reducible exact LeO.none _)
      | (with_reducible refine LeO.ite ?_ ?_)
      | (with_reducible refine LeO.bind ?_ (fun _ => ?_))
      | exact ih0 _ _ _ _
      | exact ih1 _ _ _ _ _ _ _
      | exact refmap_Of.mono _ _ _
      | exact LeO.none _
      | refine LeO.ite ?_ ?_
      | refine LeO.bind ?_ (fun _ => ?_)
theorem refmap_Make.mono : ∀ a0 a1 a2 k, LeO (refmap_Make.f k a0 a1 a2) (refmap_Make.f (k + 1) a0 a1 a2) := by
  intro a0 a1 a2 k
  obtain ⟨ih0, ih1⟩ := refmap_Make.mono_l k
  unfold refmap_Make.f
  repeat' first
      | (with_reducible exact ih0 _ _ _ _)
      | (with_reducible exact ih1 _ _ _ _ _ _ _)
      | (with_reducible exact refmap_Of.mono _ _ _)
      | (with_reducible exact LeO.refl _)
      | (with_reducible exact LeO.none _)
      | (with_reducible refine LeO.ite ?_ ?_)
      | (with_reducible refine LeO.bind ?_ (fun _ => ?_))
      | exact ih0 _ _ _ _
      | exact ih1 _ _ _ _ _ _ _
      | exact refmap_Of.mono _ _ _
      | exact LeO.none _
      | refine LeO.ite ?_ ?_
      | refine LeO.bind ?_ (fun _ => ?_)
set_option maxHeartbeats 8000000 in
set_option maxRecDepth 100000 in
theorem refmap_Make.calls (k : Nat) (A0_0 : Option Addr) (c0_0 : Nat) (l0_0 : List (S57)) (A0_1 : Option Addr) (c0_1 : Nat) (l0_1 : List (S42)) (A0_2 : Option Addr) (c0_2 : Nat) (l0_2 : List Bool) (r : List (S38)) (w : World) (hr0_0 : Kd.C k57 w A0_0 l0_0.length l0_0) (hc0_0 : l0_0.length ≤ c0_0) (hr0_1 : Kd.C k42 w A0_1 l0_1.length l0_1) (hc0_1 : l0_1.length ≤ c0_1) (hr0_2 : Kd.C Kd.bool w A0_2 l0_2.length l0_2) (hc0_2 : l0_2.length ≤ c0_2) (h : refmap_Make.f k l0_0 l0_1 l0_2 = some r) :
    Calls Try.prog 12 #[.agg #[.slice A0_0 l0_0.length c0_0, .slice A0_1 l0_1.length c0_1, .slice A0_2 l0_2.length c0_2]] w fun e w' => ∃ v0_ : Value, e = .returned (v0_) ∧ Kd.S k38 38 w' w.heap.size (fun _ => True) v0_ r ∧ Below w.heap.size w w' := by
  have hu48 := Try.underlying48
  have hu42 := Try.underlying42
  have hu38 := Try.underlying38
  have HR0_0 := Aside0.mk hr0_0
  have HC0_0 := Aside0.mk hc0_0
  clear hr0_0 hc0_0
  have HR0_1 := Aside0.mk hr0_1
  have HC0_1 := Aside0.mk hc0_1
  clear hr0_1 hc0_1
  have HR0_2 := Aside0.mk hr0_2
  have HC0_2 := Aside0.mk hc0_2
  clear hr0_2 hc0_2
  have HB := Aside0.mk (Below.refl w.heap.size w)
  have H : (if (l0_0.length : Int) = (l0_1.length : Int) then (refmap_Make.j0 k ((l0_0.length : Int) != (l0_2.length : Int)) l0_0 l0_1 l0_2) else (refmap_Make.j0 k true l0_0 l0_1 l0_2)) = some r := h
  clear h
  have HC2 := Aside0.mk H
  clear H
  go_enter Try.func12, Try.ntmps12
  go_upto_region 1 with (first | ((with_reducible refine gate_dst (N := 1) rfl ?_); (try (refine gate_guard (by rfl) ?_; dsimp only)); refine box_event ?hg (N := 1) ?hd (cs := #[.slice A0_0 l0_0.length c0_0, .slice A0_1 l0_1.length c0_1, .slice A0_2 l0_2.length c0_2]) (t := 48) ?hr ?_; (case hd => rfl); (case hg => rfl); (case hr => first | (go_simp; done) | (go_simp; rfl)); intro gb238 hg w3 hbox hb; have n0_ := Aside0.mk (below_step (by repeat (first | (with_reducible first | exact HB.out | apply below_alloc | apply pw_below_drewN | apply below_drew1) | exact HB.out)) hb); have n1_ := Aside0.mk (hbox); have n2_ := Aside0.mk ((by rw [hg]; exact (below_size (by repeat (first | (with_reducible first | exact HB.out | apply below_alloc | apply pw_below_drewN | apply below_drew1) | exact HB.out))) : w.heap.size ≤ gb238)); have n3_ := Aside0.mk ((by rw [hg]; exact (below_size (by repeat (first | (with_reducible first | exact HB.out | apply below_alloc | apply pw_below_drewN | apply below_drew1) | exact HB.out))) : w.heap.size ≤ gb238)); clear HB; have HB := n0_; have BK238 := n1_; have GW238 := n2_; have GE238 := n3_; clear n0_ n1_ n2_ n3_; clear hb hbox hg))
  (try simp only [Act.put, List.setIfInBounds_toArray, List.set_cons_zero, List.set_cons_succ])
  go_cut [21] (fun v21 wc => ∃ (kq : Nat) (x21_1 : Bool), v21 = .bool x21_1 ∧ Aside0 (refmap_Make.j0 kq x21_1 l0_0 l0_1 l0_2 = some r) ∧ Aside0 (kq ≤ k) ∧ Aside0 (wc.heap[gb238]? = some (.cells #[(.slice A0_0 l0_0.length c0_0), (.slice A0_1 l0_1.length c0_1), (.slice A0_2 l0_2.length c0_2)] 48 (0, 0))) ∧ Aside0 (Below w.heap.size w wc))
  case first =>
    have H := HC2.out
    clear HC2
    by_cases c4 : (l0_0.length : Int) = (l0_1.length : Int)
    · rw [if_pos c4] at H
      have c4b0 : ((l0_0.length : Int) == (l0_1.length : Int)) = true := beq_iff_eq.mpr c4
      have c4b1 : ((l0_0.length : Int) != (l0_1.length : Int)) = false := bne_eq_false_iff_eq.mpr c4
      have c4b2 : (l0_0.length == l0_1.length) = true := by first | simpa using c4 | (simp at c4 ⊢; omega)
      clear c4
      (first | rw [c4b0] | (simp only [i64_w, i32_w]; rw [c4b0]) | skip)
      have H' := Aside0.mk H
      clear H
      have hcz5_0 : w3.cell? ⟨gb238, 0, none⟩ = some (.slice A0_0 l0_0.length c0_0) := (blk_cell BK238.out 0).trans rfl
      have hcz5_1 : w3.cell? ⟨gb238, 1, none⟩ = some (.slice A0_1 l0_1.length c0_1) := (blk_cell BK238.out 1).trans rfl
      have hcz5_2 : w3.cell? ⟨gb238, 2, none⟩ = some (.slice A0_2 l0_2.length c0_2) := (blk_cell BK238.out 2).trans rfl
      have hfz5_0 := blk_frozen BK238.out 0
      have hfz5_1 := blk_frozen BK238.out 1
      have hfz5_2 := blk_frozen BK238.out 2
      go_wp2
      go_meet
      case rel => exact ⟨_, (((l0_0.length : Int) != (l0_2.length : Int))), (by first | rfl | (simp; done) | (simp [*]; done)), H', ⟨by first | omega | exact Nat.le_refl _⟩, ⟨by (with_reducible repeat (first | refine blk_drewN ?_ _ | refine blk_drew ?_ | refine blk_alloc ?_ _)); exact BK238.out⟩, ⟨by repeat (first | (with_reducible first | exact HB.out | apply below_alloc | apply pw_below_drewN | apply below_drew1 | refine below_set ?_ GE238.out) | exact HB.out)⟩⟩
    · rw [if_neg c4] at H
      have c4b0 : ((l0_0.length : Int) == (l0_1.length : Int)) = false := beq_eq_false_iff_ne.mpr c4
      have c4b1 : ((l0_0.length : Int) != (l0_1.length : Int)) = true := bne_iff_ne.mpr c4
      have c4b2 : (l0_0.length == l0_1.length) = false := by first | simpa using c4 | (simp at c4 ⊢; omega)
      (first | rw [c4b0] | (simp only [i64_w, i32_w]; rw [c4b0]) | skip)
      have H' := Aside0.mk H
      clear H
      have hcz6_0 : w3.cell? ⟨gb238, 0, none⟩ = some (.slice A0_0 l0_0.length c0_0) := (blk_cell BK238.out 0).trans rfl
      have hcz6_1 : w3.cell? ⟨gb238, 1, none⟩ = some (.slice A0_1 l0_1.length c0_1) := (blk_cell BK238.out 1).trans rfl
      have hcz6_2 : w3.cell? ⟨gb238, 2, none⟩ = some (.slice A0_2 l0_2.length c0_2) := (blk_cell BK238.out 2).trans rfl
      have hfz6_0 := blk_frozen BK238.out 0
      have hfz6_1 := blk_frozen BK238.out 1
      have hfz6_2 := blk_frozen BK238.out 2
      go_wp2
      go_meet
      case rel => exact ⟨_, (true), (by first | rfl | (simp; done) | (simp [*]; done)), H', ⟨by first | omega | exact Nat.le_refl _⟩, ⟨by (with_reducible repeat (first | refine blk_drewN ?_ _ | refine blk_drew ?_ | refine blk_alloc ?_ _)); exact BK238.out⟩, ⟨by repeat (first | (with_reducible first | exact HB.out | apply below_alloc | apply pw_below_drewN | apply below_drew1 | refine below_set ?_ GE238.out) | exact HB.out)⟩⟩
  case rest =>
    clear HC2
    try clear c1
    try clear p2
    try clear c4
    try clear c4b0
    try clear c4b1
    try clear c4b2
    try clear hcz5_0
    try clear hcz5_1
    try clear hcz5_2
    try clear hcz6_0
    try clear hcz6_1
    try clear hcz6_2
    try clear hfz5_0
    try clear hfz5_1
    try clear hfz5_2
    try clear hfz6_0
    try clear hfz6_1
    try clear hfz6_2
    obtain ⟨kq, x21_1, rfl, HA, HJ1, BK238, HB⟩ := hcut
    cases kq with
    | zero => exact absurd HA.out (by simp [refmap_Make.j0])
    | succ kj1 =>
      have H := HA.out
      clear HA
      simp only [refmap_Make.j0] at H
      by_cases c7 : x21_1 = true
      · subst c7
        have H1 : (some ([] : List (S38))) = some r := by rw [if_pos rfl] at H; exact H
        clear H
        have H := H1
        clear H1
        obtain rfl := Option.some.inj H
        go_wp2
        go_ret
        exact ⟨_, by first | rfl | (simp [errW_none, errW_some] <;> rfl) | (simp [*, errW_none, errW_some] <;> rfl), by first | exact Kd.S_nil _ _ _ _ _ | exact Kd.N_nil _ _ _ _ _ | exact Kd.V_nil _ _ _ _ _ | exact Kd.Q_nil _ _ _ _ _ | exact Kd.R_nil _ _ _ _ _, by repeat (first | (with_reducible first | exact HB.out | apply below_alloc | apply pw_below_drewN | apply below_drew1 | refine below_set ?_ GE238.out) | exact HB.out)⟩
      · replace c7 := Bool.eq_false_iff.mpr c7
        subst c7
        have H1 : (if 0 ≤ (l0_0.length : Int) then (if ((l0_0.length : Int) : Int).toNat ≤ 5864062014805 then (refmap_Make.l0 kj1 (List.replicate ((l0_0.length : Int) : Int).toNat z38) l0_1 (l0_1.length : Int) 0 l0_0 l0_1 l0_2) else (none)) else (none)) = some r := by rw [if_neg (show ¬ (false = true) by decide)] at H; exact H
        clear H
        have H := H1
        clear H1
        by_cases c8 : 0 ≤ (l0_0.length : Int)
        · rw [if_pos c8] at H
          have c8b0 := eq_true c8
          have c8b1 : decide (0 ≤ (l0_0.length : Int)) = true := decide_eq_true c8
          clear c8
          by_cases c9 : ((l0_0.length : Int) : Int).toNat ≤ 5864062014805
          · rw [if_pos c9] at H
            have c9b0 := eq_true c9
            have c9b1 : decide (((l0_0.length : Int) : Int).toNat ≤ 5864062014805) = true := decide_eq_true c9
            clear c9
            obtain ⟨y239, hy239⟩ : ∃ y_ : List (S38), y_ = (List.replicate ((l0_0.length : Int) : Int).toNat z38) := ⟨_, rfl⟩
            replace H : (refmap_Make.l0 kj1 y239 l0_1 (l0_1.length : Int) 0 l0_0 l0_1 l0_2) = some r := by first | (rw [hy239]; with_reducible exact H) | (have H2_ := (Option.bind_some _ _).symm.trans H; rw [hy239]; with_reducible exact H2_) | (have H2_ := (Option.bind_some _ _).symm.trans H; with_reducible exact H2_) | with_reducible exact H | (rw [hy239]; exact H) | exact H
            have Ny239 := Aside0.mk hy239
            clear hy239
            have H' := Aside0.mk H
            clear H
            have hcz10_0 : wc.cell? ⟨gb238, 0, none⟩ = some (.slice A0_0 l0_0.length c0_0) := (blk_cell BK238.out 0).trans rfl
            have hcz10_1 : wc.cell? ⟨gb238, 1, none⟩ = some (.slice A0_1 l0_1.length c0_1) := (blk_cell BK238.out 1).trans rfl
            have hcz10_2 : wc.cell? ⟨gb238, 2, none⟩ = some (.slice A0_2 l0_2.length c0_2) := (blk_cell BK238.out 2).trans rfl
            have hfz10_0 := blk_frozen BK238.out 0
            have hfz10_1 := blk_frozen BK238.out 1
            have hfz10_2 := blk_frozen BK238.out 2
            go_wp2_with (first | ((with_reducible refine gate_dst (N := 25) rfl ?_); (try (refine gate_guard (by rfl) ?_; dsimp only)); refine Kd.S_make k38 _ 38 rfl (N := 25) rfl 25 _ _ rfl (l0_0.length : Int) rfl rfl Try.underlying25 (.agg #[(.slice none 0 0), (.slice none 0 0)]) 48 info38 rfl (by decide) (by omega) z38 (ok := fun _ => True) (okp := fun _ => True) (k38_mkM _ _ _ z38 (Kd.R_nil _ _ _ _ _) (Kd.R_nil _ _ _ _ _)) (fun _ hk => hk) trivial (of_decide_eq_true (by first | (with_reducible assumption) | assumption)) (Nat.le_trans (Nat.mul_le_mul_right _ (of_decide_eq_true (by first | (with_reducible assumption) | assumption) : (l0_0.length : Int).toNat ≤ 5864062014805)) (by omega)) (Below.refl _ _) (Nat.le_refl _) ?_; intro v240 w11 ho12 hb hg_ hnew_; clear hg_ hnew_; (first | rw [← Ny239.out] at ho12 | (simp only [Int.reduceToNat] at ho12; rw [← Ny239.out] at ho12)); have n0_ := Aside0.mk (Kd.S_lower ho12 (below_size (by repeat (first | (with_reducible first | exact HB.out | apply below_alloc | apply pw_below_drewN | apply below_drew1 | refine below_set ?_ GE238.out) | exact HB.out)))); have n1_ := Aside0.mk (blk_below (g := gb238) (o := .cells #[.slice A0_0 l0_0.length c0_0, .slice A0_1 l0_1.length c0_1, .slice A0_2 l0_2.length c0_2] 48 (0, 0)) (by (with_reducible repeat (first | refine blk_drewN ?_ _ | refine blk_drew ?_ | refine blk_alloc ?_ _)); exact BK238.out) hb); have n2_ := Aside0.mk (below_step (by repeat (first | (with_reducible first | exact HB.out | apply below_alloc | apply pw_below_drewN | apply below_drew1 | refine below_set ?_ GE238.out) | exact HB.out)) hb); clear BK238; clear HB; have HO241 := n0_; have BK238 := n1_; have HB := n2_; clear n0_ n1_ n2_; clear hb ho12; have hcz13_0 : w11.cell? ⟨gb238, 0, none⟩ = some (.slice A0_0 l0_0.length c0_0) := (blk_cell BK238.out 0).trans rfl; have hcz13_1 : w11.cell? ⟨gb238, 1, none⟩ = some (.slice A0_1 l0_1.length c0_1) := (blk_cell BK238.out 1).trans rfl; have hcz13_2 : w11.cell? ⟨gb238, 2, none⟩ = some (.slice A0_2 l0_2.length c0_2) := (blk_cell BK238.out 2).trans rfl; have hfz13_0 := blk_frozen BK238.out 0; have hfz13_1 := blk_frozen BK238.out 1; have hfz13_2 := blk_frozen BK238.out 2))
            go_loopg [29] kj1 (fun kq v29 w' => ∃ (x3_2 : List (S38)) (x29_2 : Int), v29 = .int .i64 x29_2 ∧ Aside0 (refmap_Make.l0 kq x3_2 l0_1 (l0_1.length : Int) x29_2 l0_0 l0_1 l0_2 = some r) ∧ Aside0 (kq ≤ kj1) ∧ Aside0 (Kd.S k38 38 w' w.heap.size (fun _ => True) v240 x3_2) ∧ Aside0 (w'.heap[gb238]? = some (.cells #[(.slice A0_0 l0_0.length c0_0), (.slice A0_1 l0_1.length c0_1), (.slice A0_2 l0_2.length c0_2)] 48 (0, 0))) ∧ Aside0 (Below w.heap.size w w'))
            case atStart => exact ⟨(y239), (0), (by first | rfl | (simp; done) | (simp [*]; done)), H', ⟨Nat.le_refl _⟩, ⟨by (with_reducible repeat (first | apply Kd.S_alloc | apply Kd.S_drewN | apply Kd.S_drew)); exact HO241.out⟩, ⟨by (with_reducible repeat (first | refine blk_drewN ?_ _ | refine blk_drew ?_ | refine blk_alloc ?_ _)); exact BK238.out⟩, ⟨by repeat (first | (with_reducible first | exact HB.out | apply below_alloc | apply pw_below_drewN | apply below_drew1 | refine below_set ?_ GE238.out) | exact HB.out)⟩⟩
            case round =>
              clear H'
              try clear c1
              try clear p2
              try clear c4
              try clear c4b0
              try clear c4b1
              try clear c4b2
              try clear c7
              try clear c8
              try clear c8b0
              try clear c8b1
              try clear c9
              try clear c9b0
              try clear c9b1
              try clear c12
              try clear hcz10_0
              try clear hcz10_1
              try clear hcz10_2
              try clear hcz13_0
              try clear hcz13_1
              try clear hcz13_2
              try clear hcz5_0
              try clear hcz5_1
              try clear hcz5_2
              try clear hcz6_0
              try clear hcz6_1
              try clear hcz6_2
              try clear hfz10_0
              try clear hfz10_1
              try clear hfz10_2
              try clear hfz13_0
              try clear hfz13_1
              try clear hfz13_2
              try clear hfz5_0
              try clear hfz5_1
              try clear hfz5_2
              try clear hfz6_0
              try clear hfz6_1
              try clear hfz6_2
              try clear p2
              obtain ⟨x3_2, x29_2, rfl, HA, HK2, HO_3, BK238, HB⟩ := hrel
              cases gk with
              | zero => exact absurd HA.out (by simp [refmap_Make.l0])
              | succ k2 =>
                have H := HA.out
                clear HA
                simp only [refmap_Make.l0] at H
                by_cases c14 : x29_2 < (l0_1.length : Int)
                · rw [if_pos c14] at H
                  have c14b0 : decide (x29_2 < (l0_1.length : Int)) = true := decide_eq_true c14
                  clear c14
                  by_cases c15 : 0 ≤ x29_2
                  · rw [if_pos c15] at H
                    have c15b0 : decide (0 ≤ x29_2) = true := decide_eq_true c15
                    clear c15
                    by_cases c16 : x29_2 < (l0_1.length : Int)
                    · rw [if_pos c16] at H
                      have c16b0 : decide (x29_2 < (l0_1.length : Int)) = true := decide_eq_true c16
                      clear c16
                      by_cases c17 : x29_2 < (l0_2.length : Int)
                      · rw [if_pos c17] at H
                        have c17b0 : decide (x29_2 < (l0_2.length : Int)) = true := decide_eq_true c17
                        clear c17
                        obtain ⟨bq18, hbq18⟩ : ∃ b_ : Bool, b_ = (rdOf false l0_2 x29_2) := ⟨_, rfl⟩
                        replace H : (if bq18 = true then ((refmap_Of.f k2 ((rd_T42 l0_1 x29_2).f0) ((rd_T42 l0_1 x29_2).f1)).bind fun bt245 => (if x29_2 < (x3_2.length : Int) then (refmap_Make.l0 k2 (x3_2.set (x29_2 : Int).toNat (⟨bt245.1, bt245.2⟩ : S38)) l0_1 (l0_1.length : Int) (wrap64 (x29_2 + 1)) l0_0 l0_1 l0_2) else (none))) else (refmap_Make.l0 k2 x3_2 l0_1 (l0_1.length : Int) (wrap64 (x29_2 + 1)) l0_0 l0_1 l0_2)) = some r := by rw [← hbq18] at H; exact H
                        have Nbq18 := Aside0.mk hbq18
                        clear hbq18
                        by_cases c19 : bq18 = true
                        · subst c19
                          have H1 : ((refmap_Of.f k2 ((rd_T42 l0_1 x29_2).f0) ((rd_T42 l0_1 x29_2).f1)).bind fun bt245 => (if x29_2 < (x3_2.length : Int) then (refmap_Make.l0 k2 (x3_2.set (x29_2 : Int).toNat (⟨bt245.1, bt245.2⟩ : S38)) l0_1 (l0_1.length : Int) (wrap64 (x29_2 + 1)) l0_0 l0_1 l0_2) else (none))) = some r := by rw [if_pos rfl] at H; exact H
                          clear H
                          have H := H1
                          clear H1
                          replace H := Option.bind_eq_some_iff.mp H
                          obtain ⟨⟨t245, t248⟩, A200, H⟩ := H
                          replace H : (if x29_2 < (x3_2.length : Int) then (refmap_Make.l0 k2 (x3_2.set (x29_2 : Int).toNat (⟨t245, t248⟩ : S38)) l0_1 (l0_1.length : Int) (wrap64 (x29_2 + 1)) l0_0 l0_1 l0_2) else (none)) = some r := H
                          have A20 := Aside0.mk A200
                          clear A200
                          by_cases c21 : x29_2 < (x3_2.length : Int)
                          · rw [if_pos c21] at H
                            have c21b0 : decide (x29_2 < (x3_2.length : Int)) = true := decide_eq_true c21
                            clear c21
                            obtain ⟨y251, hy251⟩ : ∃ y_ : List (S38), y_ = (x3_2.set (x29_2 : Int).toNat (⟨t245, t248⟩ : S38)) := ⟨_, rfl⟩
                            replace H : (refmap_Make.l0 k2 y251 l0_1 (l0_1.length : Int) (wrap64 (x29_2 + 1)) l0_0 l0_1 l0_2) = some r := by first | (rw [hy251]; with_reducible exact H) | (have H2_ := (Option.bind_some _ _).symm.trans H; rw [hy251]; with_reducible exact H2_) | (have H2_ := (Option.bind_some _ _).symm.trans H; with_reducible exact H2_) | with_reducible exact H | (rw [hy251]; exact H) | exact H
                            have Ny251 := Aside0.mk hy251
                            clear hy251
                            have H' := Aside0.mk H
                            clear H
                            have p242 : 0 ≤ (x29_2 : Int) := of_decide_eq_true (by first | (with_reducible assumption) | assumption)
                            have q242 : x29_2 < (l0_1.length : Int) := of_decide_eq_true (by first | (with_reducible assumption) | assumption)
                            obtain ⟨ad242, A242_0, c242_0, A242_1, c242_1, e242, hx242_0, hx242_1, hl242_0, hi242_0, hl242_1, hi242_1⟩ := at_T42 HR0_1.out x29_2 p242 q242
                            cases e242
                            replace hx242_0 := (HB.out.cell (World.block_lt_of_cell? w _ hx242_0)).trans hx242_0
                            replace hx242_1 := (HB.out.cell (World.block_lt_of_cell? w _ hx242_1)).trans hx242_1
                            have HR242_0 := Aside0.mk hi242_0
                            have HC242_0 := Aside0.mk hl242_0
                            clear hi242_0 hl242_0
                            have HR242_1 := Aside0.mk hi242_1
                            have HC242_1 := Aside0.mk hl242_1
                            clear hi242_1 hl242_1
                            replace p242 := eq_true p242
                            replace q242 := eq_true q242
                            go_wp2_with (first | ((with_reducible refine gate_dst (N := 5) rfl ?_); (try (refine gate_guard (by rfl) ?_; dsimp only)); refine box_event ?hg (N := 5) ?hd (cs := #[.slice none 0 0, .slice none 0 0]) (t := 42) ?hr ?_; (case hd => rfl); (case hg => rfl); (case hr => first | (go_simp; done) | (go_simp; rfl)); intro gb243 hg w23 hbox hb; have n0_ := Aside0.mk (Kd.S_below (by (with_reducible repeat (first | apply Kd.S_alloc | apply Kd.S_drewN | apply Kd.S_drew)); exact HO_3.out) hb); have n1_ := Aside0.mk (blk_below (g := gb238) (o := .cells #[.slice A0_0 l0_0.length c0_0, .slice (some ad242) l0_1.length c0_1, .slice A0_2 l0_2.length c0_2] 48 (0, 0)) (by (with_reducible repeat (first | refine blk_drewN ?_ _ | refine blk_drew ?_ | refine blk_alloc ?_ _)); exact BK238.out) hb); have n2_ := Aside0.mk (below_step (by repeat (first | (with_reducible first | exact HB.out | apply below_alloc | apply pw_below_drewN | apply below_drew1 | refine below_set ?_ GE238.out) | exact HB.out)) hb); have n3_ := Aside0.mk (hbox); have n4_ := Aside0.mk ((by rw [hg]; exact (below_size (by repeat (first | (with_reducible first | exact HB.out | apply below_alloc | apply pw_below_drewN | apply below_drew1 | refine below_set ?_ GE238.out) | exact HB.out))) : w.heap.size ≤ gb243)); have n5_ := Aside0.mk ((by rw [hg]; exact (below_size (by repeat (first | (with_reducible first | exact HB.out | apply below_alloc | apply pw_below_drewN | apply below_drew1 | refine below_set ?_ GE238.out) | exact HB.out))) : w.heap.size ≤ gb243)); have n6_ := Aside0.mk ((by rw [hg]; exact Nat.ne_of_lt (blk_lt (g := gb238) (o := .cells #[.slice A0_0 l0_0.length c0_0, .slice (some ad242) l0_1.length c0_1, .slice A0_2 l0_2.length c0_2] 48 (0, 0)) (by (with_reducible repeat (first | refine blk_drewN ?_ _ | refine blk_drew ?_ | refine blk_alloc ?_ _)); exact BK238.out)) : gb238 ≠ gb243)); have n7_ := Aside0.mk ((by rw [hg]; exact Nat.ne_of_gt (blk_lt (g := gb238) (o := .cells #[.slice A0_0 l0_0.length c0_0, .slice (some ad242) l0_1.length c0_1, .slice A0_2 l0_2.length c0_2] 48 (0, 0)) (by (with_reducible repeat (first | refine blk_drewN ?_ _ | refine blk_drew ?_ | refine blk_alloc ?_ _)); exact BK238.out)) : gb243 ≠ gb238)); clear HO_3; clear BK238; clear HB; have HO_3 := n0_; have BK238 := n1_; have HB := n2_; have BK243 := n3_; have GW243 := n4_; have GE243 := n5_; have NB238_243 := n6_; have NB243_238 := n7_; clear n0_ n1_ n2_ n3_ n4_ n5_ n6_ n7_; clear hb hbox hg; have hnb24 := NB243_238.out; have hnc24 := NB238_243.out; have hcz25_0 : w23.cell? ⟨gb243, 0, none⟩ = some (.slice none 0 0) := (blk_cell BK243.out 0).trans rfl; have hcz25_1 : w23.cell? ⟨gb243, 1, none⟩ = some (.slice none 0 0) := (blk_cell BK243.out 1).trans rfl; have hfz25_0 := blk_frozen BK243.out 0; have hfz25_1 := blk_frozen BK243.out 1; have hcz26_0 : w23.cell? ⟨gb238, 0, none⟩ = some (.slice A0_0 l0_0.length c0_0) := (blk_cell BK238.out 0).trans rfl; have hcz26_1 : w23.cell? ⟨gb238, 1, none⟩ = some (.slice (some ad242) l0_1.length c0_1) := (blk_cell BK238.out 1).trans rfl; have hcz26_2 : w23.cell? ⟨gb238, 2, none⟩ = some (.slice A0_2 l0_2.length c0_2) := (blk_cell BK238.out 2).trans rfl; have hfz26_0 := blk_frozen BK238.out 0; have hfz26_1 := blk_frozen BK238.out 1; have hfz26_2 := blk_frozen BK238.out 2; have p244 : 0 ≤ (x29_2 : Int) := of_decide_eq_true (by first | (with_reducible assumption) | assumption); have q244 : x29_2 < (l0_2.length : Int) := of_decide_eq_true (by first | (with_reducible assumption) | assumption); obtain ⟨ad244, e244, hx244_0⟩ := Kd.at_bool HR0_2.out x29_2 p244 q244; (try rw [← Nbq18.out] at hx244_0); cases e244; have hn244_0 : ad244.block ≠ gb243 := Nat.ne_of_lt (Nat.lt_of_lt_of_le (by have := World.block_lt_of_cell? _ _ hx244_0; first | rwa [add_block] at this | exact this) GW243.out); have hn244_1 : ad244.block ≠ gb243 := Nat.ne_of_lt (Nat.lt_of_lt_of_le (by have := World.block_lt_of_cell? _ _ hx244_0; first | rwa [add_block] at this | exact this) GW243.out); replace hx244_0 := (HB.out.cell (World.block_lt_of_cell? w _ hx244_0)).trans hx244_0; replace hx244_0 := (cell_far (p := ⟨gb243, 0, none⟩) (by first | (rw [add_block]; exact hn244_0) | (show (Addr.add _ _).block ≠ _; rw [add_block]; exact hn244_0) | exact hn244_0) (.slice A242_0 ((rd_T42 l0_1 x29_2).f0).length c242_0)).trans hx244_0; replace hx244_0 := (cell_far (p := ⟨gb243, 1, none⟩) (by first | (rw [add_block]; exact hn244_1) | (show (Addr.add _ _).block ≠ _; rw [add_block]; exact hn244_1) | exact hn244_1) (.slice A242_1 ((rd_T42 l0_1 x29_2).f1).length c242_1)).trans hx244_0; clear hn244_0; clear hn244_1; replace p244 := eq_true p244; replace q244 := eq_true q244) | ((with_reducible refine gate_callee (f := 9) rfl ?_); refine goesL_ (some 42) rfl rfl Try.func9 (by kernel_rfl) rfl #[.agg #[.slice A242_0 ((rd_T42 l0_1 x29_2).f0).length c242_0, .slice A242_1 ((rd_T42 l0_1 x29_2).f1).length c242_1]] rfl (by (try simp only [List.map_toArray, List.map_cons, List.map_nil]); first | done | rfl | (simp only [List.length_drop, List.length_take]; rfl)) ?_; (with_reducible refine (refmap_Of.calls k2 _ _ ((rd_T42 l0_1 x29_2).f0) _ _ ((rd_T42 l0_1 x29_2).f1) t245 t248 _ ?side1 ?side2 ?side3 ?side4 A20.out).mono ?_); (case side1 => exact Kd.C_below HR242_0.out (by repeat (first | (with_reducible first | exact HB.out | apply below_alloc | apply pw_below_drewN | apply below_drew1 | refine below_set ?_ GE238.out | refine below_set ?_ GE243.out) | exact HB.out))); (case side2 => exact HC242_0.out); (case side3 => exact Kd.C_below HR242_1.out (by repeat (first | (with_reducible first | exact HB.out | apply below_alloc | apply pw_below_drewN | apply below_drew1 | refine below_set ?_ GE238.out | refine below_set ?_ GE243.out) | exact HB.out))); (case side4 => exact HC242_1.out); rintro e w27 ⟨v246, v249, rfl, ho0, ho1, hb⟩; refine ⟨_, rfl, ?_⟩; have n0_ := Aside0.mk (Kd.S_mono (Kd.S_told (Kd.S_told (Kd.S_old (by (with_reducible repeat (first | apply Kd.S_alloc | apply Kd.S_drewN | apply Kd.S_drew)); exact (Kd.S_mono (Kd.S_far (p := ⟨gb243, 1, none⟩) (Kd.S_far (p := ⟨gb243, 0, none⟩) (Kd.S_types HO_3.out BK243.out (by decide)) (fun _ hk => hk.2) (.slice A242_0 ((rd_T42 l0_1 x29_2).f0).length c242_0)) (fun _ hk => hk.2) (.slice A242_1 ((rd_T42 l0_1 x29_2).f1).length c242_1)) (fun _ h_ => h_.1))) hb) (Kd.R_base ho0)) (Kd.R_base ho1)) (fun _ h_ => h_.1)); have n1_ := Aside0.mk (Kd.R_lower ho0 (below_size (by repeat (first | (with_reducible first | exact HB.out | apply below_alloc | apply pw_below_drewN | apply below_drew1 | refine below_set ?_ GE238.out | refine below_set ?_ GE243.out) | exact HB.out)))); have n2_ := Aside0.mk (Kd.R_lower ho1 (below_size (by repeat (first | (with_reducible first | exact HB.out | apply below_alloc | apply pw_below_drewN | apply below_drew1 | refine below_set ?_ GE238.out | refine below_set ?_ GE243.out) | exact HB.out)))); have n3_ := Aside0.mk (blk_below (g := gb238) (o := .cells #[.slice A0_0 l0_0.length c0_0, .slice (some ad242) l0_1.length c0_1, .slice (some ad244) l0_2.length c0_2] 48 (0, 0)) (by (with_reducible repeat (first | refine blk_drewN ?_ _ | refine blk_drew ?_ | refine blk_alloc ?_ _)); refine blk_far ?_ NB238_243.out _; (with_reducible repeat (first | refine blk_drewN ?_ _ | refine blk_drew ?_ | refine blk_alloc ?_ _)); refine blk_far ?_ NB238_243.out _; (with_reducible repeat (first | refine blk_drewN ?_ _ | refine blk_drew ?_ | refine blk_alloc ?_ _)); exact BK238.out) hb); have n4_ := Aside0.mk (blk_below (g := gb243) (o := .cells #[.slice A242_0 ((rd_T42 l0_1 x29_2).f0).length c242_0, .slice A242_1 ((rd_T42 l0_1 x29_2).f1).length c242_1] 42 (0, 0)) (by (with_reducible repeat (first | refine blk_drewN ?_ _ | refine blk_drew ?_ | refine blk_alloc ?_ _)); refine blk_put (cs := #[.slice A242_0 ((rd_T42 l0_1 x29_2).f0).length c242_0, .slice none 0 0]) ?_ 1 _ rfl; (with_reducible repeat (first | refine blk_drewN ?_ _ | refine blk_drew ?_ | refine blk_alloc ?_ _)); refine blk_put (cs := #[.slice none 0 0, .slice none 0 0]) ?_ 0 _ rfl; (with_reducible repeat (first | refine blk_drewN ?_ _ | refine blk_drew ?_ | refine blk_alloc ?_ _)); exact BK243.out) hb); have n5_ := Aside0.mk (below_step (by repeat (first | (with_reducible first | exact HB.out | apply below_alloc | apply pw_below_drewN | apply below_drew1 | refine below_set ?_ GE238.out | refine below_set ?_ GE243.out) | exact HB.out)) hb); clear HO_3; clear BK238; clear BK243; clear HB; have HO_3 := n0_; have HO247 := n1_; have HO250 := n2_; have BK238 := n3_; have BK243 := n4_; have HB := n5_; clear n0_ n1_ n2_ n3_ n4_ n5_; (try clear hb); (try clear hb2); (try clear hk); (try clear hi); (try clear ho0); (try clear ho1); have p22 : 0 ≤ (x29_2 : Int) := of_decide_eq_true (by first | (with_reducible assumption) | assumption); have q22 : (x29_2 : Int) < ((x3_2.length : Int) : Int) := of_decide_eq_true (by first | (with_reducible assumption) | assumption); obtain ⟨go22, co22, eo22, gb22, gl22, cl22, HG22⟩ := Kd.S_form HO_3.out (by omega); (first | cases eo22 | (injection eo22 with ea_ en_ ec_; (first | subst ea_ | (injection ea_ with ea_; subst ea_)); subst ec_; clear en_)); have GB22 := Aside0.mk gb22; have GG22 := Aside0.mk HG22; clear gb22 gl22 HG22; obtain ⟨_, ce22, hcl22, hM22, hcc22, hfr22, _, _⟩ := Kd.S_elem HO_3.out z38 (x29_2 : Int) p22 q22; obtain ⟨ve22_0, ve22_1, rfl, ge22_0, ge22_1⟩ := k38_openM hM22; have hx22_0 : w27.cell? ⟨go22, (x29_2 : Int).toNat * 2, none⟩ = some (ve22_0) := hcc22 0 _ rfl; have hx22_1 : w27.cell? ⟨go22, (x29_2 : Int).toNat * 2 + 1, none⟩ = some (ve22_1) := hcc22 1 _ rfl; have hf22_0 : w27.frozen? ⟨go22, (x29_2 : Int).toNat * 2, none⟩ = false := hfr22 0; have hf22_1 : w27.frozen? ⟨go22, (x29_2 : Int).toNat * 2 + 1, none⟩ = false := hfr22 1; clear hcl22 hcc22 hfr22 hM22; replace p22 := eq_true p22; replace q22 := eq_true q22; have n_ := Aside0.mk (Kd.S_mono (ok' := (fun k_ => some k_ ≠ (v246 : Value).ownBlock ∧ some k_ ≠ (v249 : Value).ownBlock)) HO_3.out (fun k_ hk => ⟨hk.1.2, hk.2⟩)); clear HO_3; have HO_3 := n_; clear n_; have HX28 := Aside0.mk (show Kd.S k38 38 w27 w.heap.size (fun k_ => ((fun _ => True)) k_ ∧ ¬ ((fun k_ => some k_ = (v246 : Value).ownBlock ∨ some k_ = (v249 : Value).ownBlock)) k_) (.slice (some ⟨go22, 0, none⟩) x3_2.length co22) x3_2 from (by (with_reducible repeat (first | apply Kd.S_alloc | apply Kd.S_drewN | apply Kd.S_drew)); exact Kd.S_mono HO_3.out (fun k_ hk => ⟨trivial, fun e_ => e_.elim (fun h_ => hk.1 h_) (fun h_ => hk.2 h_)⟩))); obtain ⟨oki28, ce28, hcl28, hM28, hcc28, hfr28, hoki28, hH28⟩ := Kd.S_elem HX28.out z38 (x29_2 : Int) (of_decide_eq_true (by first | (with_reducible assumption) | assumption)) (by have h_ : (x29_2 : Int) < ((x3_2.length : Int) : Int) := of_decide_eq_true (by first | (with_reducible assumption) | assumption); first | exact h_ | (have e_ := (Kd.S_reads' HO_3.out).1; omega) | simpa using h_); obtain ⟨ve28_0, ve28_1, rfl, ge28_0, ge28_1⟩ := k38_openM hM28; have HP28 := Kd.S_seg hH28 (of_decide_eq_true (by first | (with_reducible assumption) | assumption)) (by have h_ : (x29_2 : Int) < ((x3_2.length : Int) : Int) := of_decide_eq_true (by first | (with_reducible assumption) | assumption); first | exact h_ | (have e_ := (Kd.S_reads' HO_3.out).1; omega) | simpa using h_) (seg := [v246, v249]) (j := 0) (show 2 ≤ 2 from by decide) (x' := (⟨t245, t248⟩ : S38)) (k38_mkM _ _ _ (⟨t245, t248⟩ : S38) (Kd.R_mono (Kd.R_tight rfl (Kd.R_mono (ok' := fun k_ => ((fun _ => True)) k_ ∧ k_ ≠ go22) (Kd.R_apart' (HO247.out) (Kd.S_typed HO_3.out) (by decide)) (fun k_ hk => ⟨trivial, fun e_ => (hk.2) (by rw [e_]; rfl)⟩))) (fun _ h_ => Or.inr (Or.inl h_))) (Kd.R_mono (Kd.R_tight rfl (Kd.R_mono (ok' := fun k_ => ((fun _ => True)) k_ ∧ k_ ≠ go22) (Kd.R_apart' (HO250.out) (Kd.S_typed HO_3.out) (by decide)) (fun k_ hk => ⟨trivial, fun e_ => (hk.2) (by rw [e_]; rfl)⟩))) (fun _ h_ => Or.inr (Or.inr (h_))))) (fun _ hk => hk) (fun k_ hk_ => hk_.elim (fun h_ => ((Kd.R_mono (ok' := fun k_ => ((fun _ => True)) k_ ∧ k_ ≠ go22) (Kd.R_apart' (HO247.out) (Kd.S_typed HO_3.out) (by decide)) (fun k_ hk => ⟨trivial, fun e_ => (hk.2) (by rw [e_]; rfl)⟩))).1 k_ h_.symm) (fun h_ => ((Kd.R_mono (ok' := fun k_ => ((fun _ => True)) k_ ∧ k_ ≠ go22) (Kd.R_apart' (HO250.out) (Kd.S_typed HO_3.out) (by decide)) (fun k_ hk => ⟨trivial, fun e_ => (hk.2) (by rw [e_]; rfl)⟩))).1 k_ h_.symm)); have hx28_0 := hcc28 0 _ rfl; (try simp only [show (k38).sz = 2 from rfl, Nat.mul_one, Nat.add_zero] at hx28_0); have hf28_0 := hfr28 0; (try simp only [show (k38).sz = 2 from rfl, Nat.mul_one, Nat.add_zero] at hf28_0); have hx28_1 := hcc28 1 _ rfl; (try simp only [show (k38).sz = 2 from rfl, Nat.mul_one, Nat.add_zero] at hx28_1); have hf28_1 := hfr28 1; (try simp only [show (k38).sz = 2 from rfl, Nat.mul_one, Nat.add_zero] at hf28_1); clear hcl28 hcc28 hfr28 hM28 hoki28 hH28) | ((with_reducible refine gate_store (t := 38) (p := 43) rfl ?_); have hone1_ : v246.oneCell' = true := (by obtain ⟨A_, c_, e_, _, _⟩ := Kd.R_reads HO247.out; rw [e_]; rfl); have hone2_ : v249.oneCell' = true := (by obtain ⟨A_, c_, e_, _, _⟩ := Kd.R_reads HO250.out; rw [e_]; rfl); have hst1_ := (fun (a_ : Addr) (W_ : World) => run_store Try.prog W_ a_ v246 .plain hone1_); have hst2_ := (fun (a_ : Addr) (W_ : World) => run_store Try.prog W_ a_ v249 .plain hone2_); refine store_event (t := 38) (p := 43) (v := ?vo_w29) (w1 := ((w27.setCell ⟨go22, (x29_2 : Int).toNat * 2, none⟩ (v246)).setCell ⟨go22, (x29_2 : Int).toNat * 2 + 1, none⟩ (v249))) ?hg ?ho ?hn ?hr ?_; (case ho => rfl); (case hg => rfl); (case hn => rfl); (case hr => first | (go_simp; done) | (go_simp; rfl)); intro w29 hw; have hg : w27.grownBy w29 (some go22) := (by rw [hw]; exact HP28.2); have hp_ : Kd.S k38 38 w29 w.heap.size (fun _ => True) (.slice (some ⟨go22, 0, none⟩) x3_2.length co22) y251 := (by rw [hw, Ny251.out]; exact HP28.1); clear HP28; have n0_ := Aside0.mk (hp_); have n1_ := Aside0.mk (blk_grown (g := gb238) (o := .cells #[.slice A0_0 l0_0.length c0_0, .slice (some ad242) l0_1.length c0_1, .slice (some ad244) l0_2.length c0_2] 48 (0, 0)) (by (with_reducible repeat (first | refine blk_drewN ?_ _ | refine blk_drew ?_ | refine blk_alloc ?_ _)); exact BK238.out) hg (Kd.S_ne HO_3.out BK238.out (by decide))); have n2_ := Aside0.mk (blk_grown (g := gb243) (o := .cells #[.slice A242_0 ((rd_T42 l0_1 x29_2).f0).length c242_0, .slice A242_1 ((rd_T42 l0_1 x29_2).f1).length c242_1] 42 (0, 0)) (by (with_reducible repeat (first | refine blk_drewN ?_ _ | refine blk_drew ?_ | refine blk_alloc ?_ _)); exact BK243.out) hg (Kd.S_ne HO_3.out BK243.out (by decide))); have n3_ := Aside0.mk ((by rw [hw]; exact below_set (below_set (HB.out) GB22.out) GB22.out : Below w.heap.size w w29)); clear HO_3; clear BK238; clear BK243; clear HB; clear HO247; clear HO250; have HO_3 := n0_; have BK238 := n1_; have BK243 := n2_; have HB := n3_; clear n0_ n1_ n2_ n3_; clear hg hw hp_))
                            go_roundg k2
                            case measure => have := HJ1.out; have := HK2.out; omega
                            case rel => exact ⟨(y251), (wrap64 (x29_2 + 1)), (by first | rfl | (simp; done) | (simp [*]; done)), H', ⟨by have := HJ1.out; have := HK2.out; omega⟩, ⟨by (with_reducible repeat (first | apply Kd.S_alloc | apply Kd.S_drewN | apply Kd.S_drew)); exact HO_3.out⟩, ⟨by (with_reducible repeat (first | refine blk_drewN ?_ _ | refine blk_drew ?_ | refine blk_alloc ?_ _)); exact BK238.out⟩, ⟨by repeat (first | (with_reducible first | exact HB.out | apply below_alloc | apply pw_below_drewN | apply below_drew1 | refine below_set ?_ GE238.out | refine below_set ?_ GE243.out) | exact HB.out)⟩⟩
                          · rw [if_neg c21] at H
                            exact absurd H (by simp)
                        · replace c19 := Bool.eq_false_iff.mpr c19
                          subst c19
                          have H1 : (refmap_Make.l0 k2 x3_2 l0_1 (l0_1.length : Int) (wrap64 (x29_2 + 1)) l0_0 l0_1 l0_2) = some r := by rw [if_neg (show ¬ (false = true) by decide)] at H; exact H
                          clear H
                          have H := H1
                          clear H1
                          have H' := Aside0.mk H
                          clear H
                          have p242 : 0 ≤ (x29_2 : Int) := of_decide_eq_true (by first | (with_reducible assumption) | assumption)
                          have q242 : x29_2 < (l0_1.length : Int) := of_decide_eq_true (by first | (with_reducible assumption) | assumption)
                          obtain ⟨ad242, A242_0, c242_0, A242_1, c242_1, e242, hx242_0, hx242_1, hl242_0, hi242_0, hl242_1, hi242_1⟩ := at_T42 HR0_1.out x29_2 p242 q242
                          cases e242
                          replace hx242_0 := (HB.out.cell (World.block_lt_of_cell? w _ hx242_0)).trans hx242_0
                          replace hx242_1 := (HB.out.cell (World.block_lt_of_cell? w _ hx242_1)).trans hx242_1
                          have HR242_0 := Aside0.mk hi242_0
                          have HC242_0 := Aside0.mk hl242_0
                          clear hi242_0 hl242_0
                          have HR242_1 := Aside0.mk hi242_1
                          have HC242_1 := Aside0.mk hl242_1
                          clear hi242_1 hl242_1
                          replace p242 := eq_true p242
                          replace q242 := eq_true q242
                          go_wp2_with (first | ((with_reducible refine gate_dst (N := 5) rfl ?_); (try (refine gate_guard (by rfl) ?_; dsimp only)); refine box_event ?hg (N := 5) ?hd (cs := #[.slice none 0 0, .slice none 0 0]) (t := 42) ?hr ?_; (case hd => rfl); (case hg => rfl); (case hr => first | (go_simp; done) | (go_simp; rfl)); intro gb243 hg w30 hbox hb; have n0_ := Aside0.mk (Kd.S_below (by (with_reducible repeat (first | apply Kd.S_alloc | apply Kd.S_drewN | apply Kd.S_drew)); exact HO_3.out) hb); have n1_ := Aside0.mk (blk_below (g := gb238) (o := .cells #[.slice A0_0 l0_0.length c0_0, .slice (some ad242) l0_1.length c0_1, .slice A0_2 l0_2.length c0_2] 48 (0, 0)) (by (with_reducible repeat (first | refine blk_drewN ?_ _ | refine blk_drew ?_ | refine blk_alloc ?_ _)); exact BK238.out) hb); have n2_ := Aside0.mk (below_step (by repeat (first | (with_reducible first | exact HB.out | apply below_alloc | apply pw_below_drewN | apply below_drew1 | refine below_set ?_ GE238.out) | exact HB.out)) hb); have n3_ := Aside0.mk (hbox); have n4_ := Aside0.mk ((by rw [hg]; exact (below_size (by repeat (first | (with_reducible first | exact HB.out | apply below_alloc | apply pw_below_drewN | apply below_drew1 | refine below_set ?_ GE238.out) | exact HB.out))) : w.heap.size ≤ gb243)); have n5_ := Aside0.mk ((by rw [hg]; exact (below_size (by repeat (first | (with_reducible first | exact HB.out | apply below_alloc | apply pw_below_drewN | apply below_drew1 | refine below_set ?_ GE238.out) | exact HB.out))) : w.heap.size ≤ gb243)); have n6_ := Aside0.mk ((by rw [hg]; exact Nat.ne_of_lt (blk_lt (g := gb238) (o := .cells #[.slice A0_0 l0_0.length c0_0, .slice (some ad242) l0_1.length c0_1, .slice A0_2 l0_2.length c0_2] 48 (0, 0)) (by (with_reducible repeat (first | refine blk_drewN ?_ _ | refine blk_drew ?_ | refine blk_alloc ?_ _)); exact BK238.out)) : gb238 ≠ gb243)); have n7_ := Aside0.mk ((by rw [hg]; exact Nat.ne_of_gt (blk_lt (g := gb238) (o := .cells #[.slice A0_0 l0_0.length c0_0, .slice (some ad242) l0_1.length c0_1, .slice A0_2 l0_2.length c0_2] 48 (0, 0)) (by (with_reducible repeat (first | refine blk_drewN ?_ _ | refine blk_drew ?_ | refine blk_alloc ?_ _)); exact BK238.out)) : gb243 ≠ gb238)); clear HO_3; clear BK238; clear HB; have HO_3 := n0_; have BK238 := n1_; have HB := n2_; have BK243 := n3_; have GW243 := n4_; have GE243 := n5_; have NB238_243 := n6_; have NB243_238 := n7_; clear n0_ n1_ n2_ n3_ n4_ n5_ n6_ n7_; clear hb hbox hg; have hnb31 := NB243_238.out; have hnc31 := NB238_243.out; have hcz32_0 : w30.cell? ⟨gb243, 0, none⟩ = some (.slice none 0 0) := (blk_cell BK243.out 0).trans rfl; have hcz32_1 : w30.cell? ⟨gb243, 1, none⟩ = some (.slice none 0 0) := (blk_cell BK243.out 1).trans rfl; have hfz32_0 := blk_frozen BK243.out 0; have hfz32_1 := blk_frozen BK243.out 1; have hcz33_0 : w30.cell? ⟨gb238, 0, none⟩ = some (.slice A0_0 l0_0.length c0_0) := (blk_cell BK238.out 0).trans rfl; have hcz33_1 : w30.cell? ⟨gb238, 1, none⟩ = some (.slice (some ad242) l0_1.length c0_1) := (blk_cell BK238.out 1).trans rfl; have hcz33_2 : w30.cell? ⟨gb238, 2, none⟩ = some (.slice A0_2 l0_2.length c0_2) := (blk_cell BK238.out 2).trans rfl; have hfz33_0 := blk_frozen BK238.out 0; have hfz33_1 := blk_frozen BK238.out 1; have hfz33_2 := blk_frozen BK238.out 2; have p244 : 0 ≤ (x29_2 : Int) := of_decide_eq_true (by first | (with_reducible assumption) | assumption); have q244 : x29_2 < (l0_2.length : Int) := of_decide_eq_true (by first | (with_reducible assumption) | assumption); obtain ⟨ad244, e244, hx244_0⟩ := Kd.at_bool HR0_2.out x29_2 p244 q244; (try rw [← Nbq18.out] at hx244_0); cases e244; have hn244_0 : ad244.block ≠ gb243 := Nat.ne_of_lt (Nat.lt_of_lt_of_le (by have := World.block_lt_of_cell? _ _ hx244_0; first | rwa [add_block] at this | exact this) GW243.out); have hn244_1 : ad244.block ≠ gb243 := Nat.ne_of_lt (Nat.lt_of_lt_of_le (by have := World.block_lt_of_cell? _ _ hx244_0; first | rwa [add_block] at this | exact this) GW243.out); replace hx244_0 := (HB.out.cell (World.block_lt_of_cell? w _ hx244_0)).trans hx244_0; replace hx244_0 := (cell_far (p := ⟨gb243, 0, none⟩) (by first | (rw [add_block]; exact hn244_0) | (show (Addr.add _ _).block ≠ _; rw [add_block]; exact hn244_0) | exact hn244_0) (.slice A242_0 ((rd_T42 l0_1 x29_2).f0).length c242_0)).trans hx244_0; replace hx244_0 := (cell_far (p := ⟨gb243, 1, none⟩) (by first | (rw [add_block]; exact hn244_1) | (show (Addr.add _ _).block ≠ _; rw [add_block]; exact hn244_1) | exact hn244_1) (.slice A242_1 ((rd_T42 l0_1 x29_2).f1).length c242_1)).trans hx244_0; clear hn244_0; clear hn244_1; replace p244 := eq_true p244; replace q244 := eq_true q244))
                          go_roundg k2
                          case measure => have := HJ1.out; have := HK2.out; omega
                          case rel => exact ⟨(x3_2), (wrap64 (x29_2 + 1)), (by first | rfl | (simp; done) | (simp [*]; done)), H', ⟨by have := HJ1.out; have := HK2.out; omega⟩, ⟨by (with_reducible repeat (first | apply Kd.S_alloc | apply Kd.S_drewN | apply Kd.S_drew)); exact Kd.S_mono (Kd.S_far (p := ⟨gb243, 1, none⟩) (Kd.S_far (p := ⟨gb243, 0, none⟩) (Kd.S_types HO_3.out BK243.out (by decide)) (fun _ hk => hk.2) (.slice A242_0 ((rd_T42 l0_1 x29_2).f0).length c242_0)) (fun _ hk => hk.2) (.slice A242_1 ((rd_T42 l0_1 x29_2).f1).length c242_1)) (fun _ hk => trivial)⟩, ⟨by (with_reducible repeat (first | refine blk_drewN ?_ _ | refine blk_drew ?_ | refine blk_alloc ?_ _)); refine blk_far ?_ NB238_243.out _; (with_reducible repeat (first | refine blk_drewN ?_ _ | refine blk_drew ?_ | refine blk_alloc ?_ _)); refine blk_far ?_ NB238_243.out _; (with_reducible repeat (first | refine blk_drewN ?_ _ | refine blk_drew ?_ | refine blk_alloc ?_ _)); exact BK238.out⟩, ⟨by repeat (first | (with_reducible first | exact HB.out | apply below_alloc | apply pw_below_drewN | apply below_drew1 | refine below_set ?_ GE238.out | refine below_set ?_ GE243.out) | exact HB.out)⟩⟩
                      · rw [if_neg c17] at H
                        exact absurd H (by simp)
                    · rw [if_neg c16] at H
                      exact absurd H (by simp)
                  · rw [if_neg c15] at H
                    exact absurd H (by simp)
                · rw [if_neg c14] at H
                  have c14b0 : decide (x29_2 < (l0_1.length : Int)) = false := decide_eq_false c14
                  clear c14
                  obtain rfl := Option.some.inj H
                  go_wp2
                  go_ret
                  exact ⟨_, by first | rfl | (simp [errW_none, errW_some] <;> rfl) | (simp [*, errW_none, errW_some] <;> rfl), by (with_reducible repeat (first | apply Kd.S_alloc | apply Kd.S_drewN | apply Kd.S_drew)); exact HO_3.out, by repeat (first | (with_reducible first | exact HB.out | apply below_alloc | apply pw_below_drewN | apply below_drew1 | refine below_set ?_ GE238.out) | exact HB.out)⟩
          · rw [if_neg c9] at H
            exact absurd H (by simp)
        · rw [if_neg c8] at H
          exact absurd H (by simp)

end Go.Proofs.Ytnbjhfleoodncaa.X
