/- cruciblelaw4.shown: chapter 4's examples hold. Conditions: none. -/
import Derived.Test.YtnbjhfleoodncaaXDecode
namespace Go.Proofs.Ytnbjhfleoodncaa.X
open Go.RowKit Go.Shelf Go.Proofs.YtnbjhfleoodncaaW.PrintWords Go.Proofs.YtnbjhfleoodncaaW.PrintLast Go.Proofs.YtnbjhfleoodncaaW.PrintMore
set_option linter.unusedVariables false
set_option linter.unusedSimpArgs false

theorem d1 : Ct.decode [44] = .ok [⟨0, 44, 0, [], []⟩] := by kernel_rfl
theorem d2 : Ct.decode [4, 5, 44] = .ok [⟨0, 4, 5, [], []⟩, ⟨2, 44, 0, [], []⟩] := by kernel_rfl
theorem d3 : Ct.decode [20, 0, 3, 44] = .ok [⟨0, 20, 0, [], [3]⟩, ⟨3, 44, 0, [], []⟩] := by kernel_rfl
theorem d4 : Ct.decode [20, 0, 2, 44] = .error 12 := by kernel_rfl
theorem d5 : Ct.decode [0] = .error 13 := by kernel_rfl
theorem d6 : Ct.decode [255] = .error 11 := by kernel_rfl
theorem d7 : Ct.decode [20, 0] = .error 5 := by kernel_rfl
theorem name40 : nameOf 40 = ⟨#[118, 105, 114, 116]⟩ := by kernel_rfl
set_option maxRecDepth 100000 in
set_option maxHeartbeats 4000000 in
theorem shownC_calls (w : World) : Calls Try.prog 14 #[] w fun e w' => e = .returned (.bool true) ∧ Below w.heap.size w w' := by
  go_enter Try.func14, Try.ntmps14
  go_wp2_with (go_at_call 15; fail)
  refine (dec_ok (s := ⟨#[44]⟩) d1 _ (by decide)).mono ?_
  rintro e w1 ⟨A1, c1, rfl, hR1, hB1⟩
  have HR1 := Aside0.mk hR1
  have HB1 := Aside0.mk hB1
  clear hR1 hB1
  go_wp2_with (go_at_call 15; fail)
  refine (dec_ok (s := ⟨#[4, 5, 44]⟩) d2 _ (by decide)).mono ?_
  rintro e w2 ⟨A2, c2, rfl, hR2, hB2⟩
  have HR2 := Aside0.mk hR2
  have HR12 := Aside0.mk (Kd.R_below HR1.out hB2)
  have HB12 := Aside0.mk (below_step HB1.out hB2)
  clear hR2 hB2 HR1 HB1
  go_wp2_with (go_at_call 15; fail)
  refine (dec_ok (s := ⟨#[20, 0, 3, 44]⟩) d3 _ (by decide)).mono ?_
  rintro e w3 ⟨A3, c3, rfl, hR3, hB3⟩
  have HR3 := Aside0.mk hR3
  have HR13 := Aside0.mk (Kd.R_below HR12.out hB3)
  have HR23 := Aside0.mk (Kd.R_below HR2.out hB3)
  have HB13 := Aside0.mk (below_step HB12.out hB3)
  clear hR3 hB3 HR2 HR12 HB12
  go_wp2_with (go_at_call 15; fail)
  refine (dec_err (s := ⟨#[20, 0, 2, 44]⟩) d4 _ (by decide)).mono ?_
  rintro e w4 ⟨rfl, hB4⟩
  go_wp2_with (go_at_call 15; fail)
  refine (dec_err (s := ⟨#[0]⟩) d5 _ (by decide)).mono ?_
  rintro e w5 ⟨rfl, hB5⟩
  go_wp2_with (go_at_call 15; fail)
  refine (dec_err (s := ⟨#[255]⟩) d6 _ (by decide)).mono ?_
  rintro e w6 ⟨rfl, hB6⟩
  go_wp2_with (go_at_call 15; fail)
  refine (dec_err (s := ⟨#[20, 0]⟩) d7 _ (by decide)).mono ?_
  rintro e w7 ⟨rfl, hB7⟩
  go_wp2_with (go_at_call 27; fail)
  refine (name_calls 40 (by decide) _).mono ?_
  rintro e w8 ⟨rfl, hB8⟩
  rw [name40]
  go_wp2_with (go_at_call 28; fail)
  refine (op_same _).mono ?_
  rintro e w9 ⟨rfl, hB9⟩
  have HBB := Aside0.mk (below_step (below_step (below_step (below_step (below_step hB4 hB5) hB6) hB7) hB8) hB9)
  clear hB4 hB5 hB6 hB7 hB8 hB9
  have hr1 := Kd.R_below HR13.out HBB.out
  have hr2 := Kd.R_below HR23.out HBB.out
  have hr3 := Kd.R_below HR3.out HBB.out
  have HB9 := Aside0.mk (below_step HB13.out HBB.out)
  obtain ⟨g1, k1, e1, _, _, _⟩ := Kd.R_form hr1 (by decide)
  obtain ⟨g2, k2, e2, _, _, _⟩ := Kd.R_form hr2 (by decide)
  obtain ⟨g3, k3, e3, _, _, _⟩ := Kd.R_form hr3 (by decide)
  injection e1 with e1 _ _
  injection e2 with e2 _ _
  injection e3 with e3 _ _
  subst e1
  subst e2
  subst e3
  obtain ⟨_, _, hC1⟩ := Kd.R_reads' hr1
  obtain ⟨_, _, hC2⟩ := Kd.R_reads' hr2
  obtain ⟨_, _, hC3⟩ := Kd.R_reads' hr3
  obtain ⟨ad1, _, _, _, _, e1, _, x1, _, _, _, _, _, _, _⟩ := at_T57 hC1 0 (by decide) (by decide)
  obtain ⟨ad2, _, _, _, _, e2, _, _, x2, _, _, _, _, _, _⟩ := at_T57 hC2 0 (by decide) (by decide)
  obtain ⟨ad2', _, _, _, _, e2', x6, _, _, _, _, _, _, _, _⟩ := at_T57 hC2 1 (by decide) (by decide)
  cases e2'
  obtain ⟨ad3, _, _, A34, c34, e3, _, _, _, _, x3, _, _, _, hC4⟩ := at_T57 hC3 0 (by decide) (by decide)
  cases e1
  cases e2
  cases e3
  obtain ⟨ad4, e4, x4⟩ := Kd.at_int hC4 0 (by decide) (by decide)
  subst e4
  simp only [Int.toNat_zero, Nat.zero_mul, add_plain, Nat.zero_add, Nat.add_zero] at x1 x2 x3
  clear hC1 hC2 hC3 hC4 hr1 hr2 hr3 HR13 HR23 HR3 HB13 HBB
  replace x1 : w9.cell? ⟨g1, 1, none⟩ = some (.int .i64 44) := x1
  replace x2 : w9.cell? ⟨g2, 2, none⟩ = some (.int .i64 5) := x2
  replace x3 : w9.cell? ⟨g3, 4, none⟩ = some (.slice (some ad4) 1 c34) := x3
  replace x4 : w9.cell? (ad4.add 0) = some (.int .i64 3) := x4
  replace x6 : w9.cell? ⟨g2, 5, none⟩ = some (.int .i64 2) := x6
  have x5 : w9.cell? ad4 = some (.int .i64 3) := x4
  go_wp2_with (go_at_call 17; fail)
  refine (code_Form.calls 1 110 _ (by kernel_rfl)).mono ?_
  rintro e w10 ⟨rfl, hB10⟩
  go_wp2_with (go_at_call 17; fail)
  refine (code_Form.calls 64 0 _ (by kernel_rfl)).mono ?_
  rintro e w11 ⟨rfl, hB11⟩
  have HB11 := Aside0.mk (below_step (below_step HB9.out hB10) hB11)
  clear hB10 hB11 x1 x2 x3 x4 x5 x6
  go_wp2
  go_ret
  exact ⟨rfl, HB11.out⟩
end Go.Proofs.Ytnbjhfleoodncaa.X
