/- refmap.Unpack at chapter 12's four examples. -/
import Derived.Test.YtnbjhfleoodncaaXPack
import Derived.Test.YtnbjhfleoodncaaXx1
import Derived.StillTailTactics
import Derived.Deep.DeepMust
import Derived.Deep.CutBlock
namespace Go.Proofs.Ytnbjhfleoodncaa.X
open Go.RowKit Go.Shelf Go.Proofs.YtnbjhfleoodncaaW.PrintWords Go.Proofs.YtnbjhfleoodncaaW.PrintLast Go.Proofs.YtnbjhfleoodncaaW.PrintMore
set_option linter.unusedVariables false
set_option linter.unusedSimpArgs false
attribute [local go_sem] max2_int min2_int max_two min_two max_three min_three max_four min_four

theorem mkget (a : Array UInt8) (i : Nat) (h : i < (ByteArray.mk a).size) : (ByteArray.mk a)[i]'h = a[i]'h := rfl
theorem mksize (a : Array UInt8) : (ByteArray.mk a).size = a.size := rfl
theorem wrap64_0 : wrap64 0 = 0 := by decide +kernel
theorem wrap64_1 : wrap64 1 = 1 := by decide +kernel
theorem wrap64_3 : wrap64 3 = 3 := by decide +kernel
theorem wrap64_65 : wrap64 65 = 65 := by decide +kernel
theorem or_01 : bits .or .i64 0 1 = 1 := by decide
theorem ex_a : (ByteArray.mk #[0, 1, 65, 0]).extract 2 4 = ⟨#[65, 0]⟩ := by rfl
theorem ex_b : (ByteArray.mk #[0, 1, 3, 1]).extract 2 4 = ⟨#[3, 1]⟩ := by rfl
theorem ex_c (q : UInt8) : (ByteArray.mk #[0, 1, 3, 1, q]).extract 2 5 = ⟨#[3, 1, q]⟩ := by rfl
theorem ex_d (q : UInt8) : (ByteArray.mk #[3, 1, q]).extract 3 3 = ⟨#[]⟩ := by rfl
attribute [local go_sem] ex_a ex_b ex_c ex_d mkget mksize wrap64_0 wrap64_1 wrap64_3 wrap64_65 or_01

/-- what is left of a loop that goes at most n rounds -/
def Left (P : Program) (c : Code) (Q : Exit → Act → World → Prop) : Nat → Act → World → Prop
  | 0, _, _ => False
  | n + 1, a, w => c.wp P (Exit.then (Left P c Q n) Q) a w
theorem wp_unroll {P : Program} {c : Code} {Q : Exit → Act → World → Prop} (n : Nat) {a : Act} {w : World} (h : Left P c Q n a w) : (Code.loop c).wp P Q a w := by
  intro b k cs
  have key : ∀ n a w, Left P c Q n a w → ∃ e a' w', Q e a' w' ∧ Arrives P (lone (b.at a (.code c :: .inLoop c :: k)) cs w) b k cs e a' w' := by
    intro n
    induction n with
    | zero => intro a w h; exact h.elim
    | succ n ih =>
      intro a w hI
      obtain ⟨e, a₁, w₁, hq, harr⟩ := hI b (.inLoop c :: k) cs
      cases e with
      | normal =>
        obtain ⟨e₂, a₂, w₂, hq₂, harr₂⟩ := ih a₁ w₁ hq
        exact ⟨e₂, a₂, w₂, hq₂, .of_steps (Steps.trans harr (.one step_inLoop)) harr₂⟩
      | _ => exact ⟨_, a₁, w₁, hq, .pass (x := .inLoop c) rfl (fun _ _ => .inl (by simp)) harr⟩
  obtain ⟨e, a', w', hq, harr⟩ := key _ a w h
  exact ⟨e, a', w', hq, .of_steps (.one step_loop) harr⟩

set_option maxRecDepth 100000 in
set_option maxHeartbeats 2000000 in
theorem unpack_long (w : World) : Calls Try.prog 21 #[.string ⟨#[0, 1, 65, 0]⟩] w fun e w' => e = .returned (.tuple #[.slice none 0 0, .int .i64 2]) ∧ Below w.heap.size w w' := by
  go_enter Try.func21, Try.ntmps21
  go_wp2
  go_quiet (fail)
  go_wp2
  refine wp_unroll 1 ?_
  unfold Left
  go_wp2
  go_quiet (fail)
  go_wp2
  go_ret2
  exact ⟨rfl, pw_below_drewN (Below.refl _ _) _⟩

set_option maxRecDepth 100000 in
set_option maxHeartbeats 2000000 in
theorem unpack_short (w : World) : Calls Try.prog 21 #[.string ⟨#[0, 1, 3, 1]⟩] w fun e w' => e = .returned (.tuple #[.slice none 0 0, .int .i64 5]) ∧ Below w.heap.size w w' := by
  go_enter Try.func21, Try.ntmps21
  go_wp2
  go_quiet (fail)
  go_wp2
  refine wp_unroll 1 ?_
  unfold Left
  go_wp2
  go_quiet (fail)
  go_wp2_with (go_at_call 23; refine (size_calls 3 1 (by decide) _).mono ?_; rintro e w5 ⟨rfl, rfl⟩)
  go_ret2
  exact ⟨rfl, pw_below_drewN (Below.refl _ _) _⟩
theorem and_80_0 : bits .and .u8 80 128 = 0 := by decide
theorem and_80_1 : bits .and .u8 80 64 = 64 := by decide
theorem and_80_2 : bits .and .u8 80 32 = 0 := by decide
theorem and_80_3 : bits .and .u8 80 16 = 16 := by decide
theorem and_80_4 : bits .and .u8 80 8 = 0 := by decide
theorem and_80_5 : bits .and .u8 80 4 = 0 := by decide
theorem and_80_6 : bits .and .u8 80 2 = 0 := by decide
theorem and_80_7 : bits .and .u8 80 1 = 0 := by decide
theorem and_81_0 : bits .and .u8 81 128 = 0 := by decide
theorem and_81_1 : bits .and .u8 81 64 = 64 := by decide
theorem and_81_2 : bits .and .u8 81 32 = 0 := by decide
theorem and_81_3 : bits .and .u8 81 16 = 16 := by decide
theorem and_81_4 : bits .and .u8 81 8 = 0 := by decide
theorem and_81_5 : bits .and .u8 81 4 = 0 := by decide
theorem and_81_6 : bits .and .u8 81 2 = 0 := by decide
theorem and_81_7 : bits .and .u8 81 1 = 1 := by decide
attribute [local go_sem] and_80_0 and_80_1 and_80_2 and_80_3 and_80_4 and_80_5 and_80_6 and_80_7 and_81_0 and_81_1 and_81_2 and_81_3 and_81_4 and_81_5 and_81_6 and_81_7

theorem iw_0 : IntKind.i64.wrap 0 = 0 := by decide +kernel
theorem iw_1 : IntKind.i64.wrap 1 = 1 := by decide +kernel
theorem iw_2 : IntKind.i64.wrap 2 = 2 := by decide +kernel
theorem iw_3 : IntKind.i64.wrap 3 = 3 := by decide +kernel
theorem iw_4 : IntKind.i64.wrap 4 = 4 := by decide +kernel
theorem iw_5 : IntKind.i64.wrap 5 = 5 := by decide +kernel
theorem iw_6 : IntKind.i64.wrap 6 = 6 := by decide +kernel
theorem iw_7 : IntKind.i64.wrap 7 = 7 := by decide +kernel
theorem iw_8 : IntKind.i64.wrap 8 = 8 := by decide +kernel
theorem iw_9 : IntKind.i64.wrap 9 = 9 := by decide +kernel
attribute [local go_sem] iw_0 iw_1 iw_2 iw_3 iw_4 iw_5 iw_6 iw_7 iw_8 iw_9
theorem next_bit {w W : World} {g c n i : Nat} {x : Bool} {xs : List Bool} (HB : Aside0 (Below w.heap.size w W)) (HR : Aside0 (Kd.R Kd.bool 4 W w.heap.size (fun _ => True) (.slice (some ⟨g, 0, none⟩) n c) xs)) (hi : i < n) (hg : w.heap.size ≤ g) :
    Aside0 (Below w.heap.size w (W.setCell ⟨g, i, none⟩ (.bool x)).drew) ∧ Aside0 (Kd.R Kd.bool 4 (W.setCell ⟨g, i, none⟩ (.bool x)).drew w.heap.size (fun _ => True) (.slice (some ⟨g, 0, none⟩) n c) (xs.set i x)) ∧ W.drew.cell? ⟨g, i, none⟩ = some (.bool (xs.getD i false)) ∧ W.drew.frozen? ⟨g, i, none⟩ = false := by
  obtain ⟨h1, h2⟩ := Kd.R_celln false HR.out (i : Int) (by omega) (by omega)
  rw [Int.toNat_natCast] at h1 h2
  have h3 := Kd.R_putn HR.out (i : Int) x
  rw [Int.toNat_natCast] at h3
  exact ⟨⟨below_drew (HB.out.setCell (p := ⟨g, i, none⟩) hg _)⟩, ⟨Kd.R_drew h3⟩, h1, h2⟩

set_option maxRecDepth 100000 in
set_option maxHeartbeats 4000000 in
theorem unpack_row81 (w : World) : Calls Try.prog 21 #[.string ⟨#[0, 1, 3, 1, 81]⟩] w fun e w' => (e = .returned (.tuple #[.slice none 0 0, .int .i64 4])) ∧ Below w.heap.size w w' := by
  go_enter Try.func21, Try.ntmps21
  go_wp2
  go_quiet (fail)
  have HB := Aside0.mk (pw_below_drewN (Below.refl w.heap.size w) nq)
  generalize w.drewN nq = W at HB ⊢
  clear nq
  go_wp2
  refine wp_unroll 2 ?_
  unfold Left
  go_wp2
  go_quiet (fail)
  replace HB := Aside0.mk (pw_below_drewN HB.out nq)
  generalize W.drewN nq = W at HB ⊢
  clear nq
  go_wp2_with (first | (go_at_call 23; refine (size_calls 3 1 (by decide) _).mono ?_; rintro e w5 ⟨rfl, rfl⟩) | ((with_reducible refine gate_dst (N := 55) rfl ?_); go_must (refine Kd.R_make Kd.bool _ 4 rfl (N := 55) rfl 35 _ _ rfl 8 rfl rfl Try.underlying35 (.bool false) 1 info4 rfl (by decide) (by omega) false (ok := fun _ => True) (okp := fun _ => True) rfl (fun _ hk => hk) trivial (by decide) (by decide) (Below.refl _ _) (Nat.le_refl _) ?_); intro v w4 ho5 hb hg_ hnew_; obtain ⟨g, c, hv, hg, hgl, hcl, hG⟩ := Kd.R_form ho5 (by decide); have hg2 := Nat.le_trans HB.out.size hg; replace hv : v = .slice (some ⟨g, 0, none⟩) 8 c := hv; subst hv; replace ho5 : Kd.R Kd.bool 4 w4 w5.heap.size (fun _ => True) (.slice (some ⟨g, 0, none⟩) 8 c) [false, false, false, false, false, false, false, false] := ho5; have HR := Aside0.mk (Kd.R_lower ho5 HB.out.size); replace HB := Aside0.mk (HB.out.trans (hb.mono HB.out.size)); clear ho5 hb hg_ hnew_ hgl hcl hG))
  obtain ⟨A, c', hv, hc8, _⟩ := Kd.R_reads HR.out
  injection hv with hA hn hcc
  subst hcc
  clear hA hn
  replace hc8 : 8 ≤ c := hc8
  have hcne : ¬ (c = 4) := by omega
  refine wp_unroll 9 ?_
  unfold Left
  go_wp2
  refine wp_region_still_tail 13 (by kernel_rfl) (by kernel_rfl) ?_
  simp only [List.take_succ_cons, List.take_zero, List.drop_succ_cons, List.drop_zero]
  change wpStill _ _ (World.drew _) _ _ _
  obtain ⟨HB1, HR1, hc1, hf1⟩ := next_bit (i := 0) (x := false) HB HR (by omega) hg2
  simp only [List.set_cons_zero, List.set_cons_succ] at HR1
  clear HB HR
  repeat still_step
  refine wpStill_nil ?_
  change wpList _ _ _ _ _ (World.drew _)
  go_wp2
  clear hc1 hf1
  generalize World.drew (World.setCell _ _ _) = W0 at HB1 HR1 ⊢
  have HB := HB1
  have HR := HR1
  clear HB1 HR1
  unfold Left
  go_wp2
  refine wp_region_still_tail 13 (by kernel_rfl) (by kernel_rfl) ?_
  simp only [List.take_succ_cons, List.take_zero, List.drop_succ_cons, List.drop_zero]
  change wpStill _ _ (World.drew _) _ _ _
  obtain ⟨HB1, HR1, hc1, hf1⟩ := next_bit (i := 1) (x := true) HB HR (by omega) hg2
  simp only [List.set_cons_zero, List.set_cons_succ] at HR1
  clear HB HR
  repeat still_step
  refine wpStill_nil ?_
  change wpList _ _ _ _ _ (World.drew _)
  go_wp2
  clear hc1 hf1
  generalize World.drew (World.setCell _ _ _) = W1 at HB1 HR1 ⊢
  have HB := HB1
  have HR := HR1
  clear HB1 HR1
  unfold Left
  go_wp2
  refine wp_region_still_tail 13 (by kernel_rfl) (by kernel_rfl) ?_
  simp only [List.take_succ_cons, List.take_zero, List.drop_succ_cons, List.drop_zero]
  change wpStill _ _ (World.drew _) _ _ _
  obtain ⟨HB1, HR1, hc1, hf1⟩ := next_bit (i := 2) (x := false) HB HR (by omega) hg2
  simp only [List.set_cons_zero, List.set_cons_succ] at HR1
  clear HB HR
  repeat still_step
  refine wpStill_nil ?_
  change wpList _ _ _ _ _ (World.drew _)
  go_wp2
  clear hc1 hf1
  generalize World.drew (World.setCell _ _ _) = W2 at HB1 HR1 ⊢
  have HB := HB1
  have HR := HR1
  clear HB1 HR1
  unfold Left
  go_wp2
  refine wp_region_still_tail 13 (by kernel_rfl) (by kernel_rfl) ?_
  simp only [List.take_succ_cons, List.take_zero, List.drop_succ_cons, List.drop_zero]
  change wpStill _ _ (World.drew _) _ _ _
  obtain ⟨HB1, HR1, hc1, hf1⟩ := next_bit (i := 3) (x := true) HB HR (by omega) hg2
  simp only [List.set_cons_zero, List.set_cons_succ] at HR1
  clear HB HR
  repeat still_step
  refine wpStill_nil ?_
  change wpList _ _ _ _ _ (World.drew _)
  go_wp2
  clear hc1 hf1
  generalize World.drew (World.setCell _ _ _) = W3 at HB1 HR1 ⊢
  have HB := HB1
  have HR := HR1
  clear HB1 HR1
  unfold Left
  go_wp2
  refine wp_region_still_tail 13 (by kernel_rfl) (by kernel_rfl) ?_
  simp only [List.take_succ_cons, List.take_zero, List.drop_succ_cons, List.drop_zero]
  change wpStill _ _ (World.drew _) _ _ _
  obtain ⟨HB1, HR1, hc1, hf1⟩ := next_bit (i := 4) (x := false) HB HR (by omega) hg2
  simp only [List.set_cons_zero, List.set_cons_succ] at HR1
  clear HB HR
  repeat still_step
  refine wpStill_nil ?_
  change wpList _ _ _ _ _ (World.drew _)
  go_wp2
  clear hc1 hf1
  generalize World.drew (World.setCell _ _ _) = W4 at HB1 HR1 ⊢
  have HB := HB1
  have HR := HR1
  clear HB1 HR1
  unfold Left
  go_wp2
  refine wp_region_still_tail 13 (by kernel_rfl) (by kernel_rfl) ?_
  simp only [List.take_succ_cons, List.take_zero, List.drop_succ_cons, List.drop_zero]
  change wpStill _ _ (World.drew _) _ _ _
  obtain ⟨HB1, HR1, hc1, hf1⟩ := next_bit (i := 5) (x := false) HB HR (by omega) hg2
  simp only [List.set_cons_zero, List.set_cons_succ] at HR1
  clear HB HR
  repeat still_step
  refine wpStill_nil ?_
  change wpList _ _ _ _ _ (World.drew _)
  go_wp2
  clear hc1 hf1
  generalize World.drew (World.setCell _ _ _) = W5 at HB1 HR1 ⊢
  have HB := HB1
  have HR := HR1
  clear HB1 HR1
  unfold Left
  go_wp2
  refine wp_region_still_tail 13 (by kernel_rfl) (by kernel_rfl) ?_
  simp only [List.take_succ_cons, List.take_zero, List.drop_succ_cons, List.drop_zero]
  change wpStill _ _ (World.drew _) _ _ _
  obtain ⟨HB1, HR1, hc1, hf1⟩ := next_bit (i := 6) (x := false) HB HR (by omega) hg2
  simp only [List.set_cons_zero, List.set_cons_succ] at HR1
  clear HB HR
  repeat still_step
  refine wpStill_nil ?_
  change wpList _ _ _ _ _ (World.drew _)
  go_wp2
  clear hc1 hf1
  generalize World.drew (World.setCell _ _ _) = W6 at HB1 HR1 ⊢
  have HB := HB1
  have HR := HR1
  clear HB1 HR1
  unfold Left
  go_wp2
  refine wp_region_still_tail 13 (by kernel_rfl) (by kernel_rfl) ?_
  simp only [List.take_succ_cons, List.take_zero, List.drop_succ_cons, List.drop_zero]
  change wpStill _ _ (World.drew _) _ _ _
  obtain ⟨HB1, HR1, hc1, hf1⟩ := next_bit (i := 7) (x := true) HB HR (by omega) hg2
  simp only [List.set_cons_zero, List.set_cons_succ] at HR1
  clear HB HR
  repeat still_step
  refine wpStill_nil ?_
  change wpList _ _ _ _ _ (World.drew _)
  go_wp2
  clear hc1 hf1
  generalize World.drew (World.setCell _ _ _) = W7 at HB1 HR1 ⊢
  have HB := HB1
  have HR := HR1
  clear HB1 HR1
  unfold Left
  have hC : Kd.bool.C W7 (some ⟨g, 0, none⟩) 8 [false, true, false, true, false, false, false, true] := by
    obtain ⟨A, c', hv, _, hC⟩ := Kd.R_reads HR.out
    injection hv with hA hn hcc
    subst hA
    exact hC
  have hD := Kd.C_drop (c := c) (m := 4) hC (by decide) hc8
  rw [if_neg hcne] at hD
  have HD : Aside0 (Kd.bool.C W7 (some ⟨g, 4, none⟩) 4 [false, false, false, true]) := Aside0.mk hD
  clear hC hD
  have hf : slices_Contains_bool_bool.f 9 [false, false, false, true] true = some true := by decide +kernel
  have HF := Aside0.mk hf
  clear hf
  go_wp2_with (go_at_call 33; go_must (refine (slices_Contains_bool_bool.calls 9 (some ⟨g, 4, none⟩) (c - 4) [false, false, false, true] true true W7 HD.out (by simp; omega) HF.out).mono ?_); rintro e w5 ⟨rfl, hdr⟩)
  go_ret2
  exact ⟨rfl, below_step HB.out hdr.below⟩

set_option maxRecDepth 100000 in
set_option maxHeartbeats 4000000 in
theorem unpack_row80 (w : World) : Calls Try.prog 21 #[.string ⟨#[0, 1, 3, 1, 80]⟩] w fun e w' => (∃ b A c c', e = .returned (.tuple #[.slice (some ⟨b, 0, none⟩) 1 c, .int .i64 0]) ∧ w'.cell? ⟨b, 0, none⟩ = some (.slice A 3 c')) ∧ Below w.heap.size w w' := by
  go_enter Try.func21, Try.ntmps21
  go_wp2
  go_quiet (fail)
  have HB := Aside0.mk (pw_below_drewN (Below.refl w.heap.size w) nq)
  generalize w.drewN nq = W at HB ⊢
  clear nq
  go_wp2
  refine wp_unroll 2 ?_
  unfold Left
  go_wp2
  go_quiet (fail)
  replace HB := Aside0.mk (pw_below_drewN HB.out nq)
  generalize W.drewN nq = W at HB ⊢
  clear nq
  go_wp2_with (first | (go_at_call 23; refine (size_calls 3 1 (by decide) _).mono ?_; rintro e w5 ⟨rfl, rfl⟩) | ((with_reducible refine gate_dst (N := 55) rfl ?_); go_must (refine Kd.R_make Kd.bool _ 4 rfl (N := 55) rfl 35 _ _ rfl 8 rfl rfl Try.underlying35 (.bool false) 1 info4 rfl (by decide) (by omega) false (ok := fun _ => True) (okp := fun _ => True) rfl (fun _ hk => hk) trivial (by decide) (by decide) (Below.refl _ _) (Nat.le_refl _) ?_); intro v w4 ho5 hb hg_ hnew_; obtain ⟨g, c, hv, hg, hgl, hcl, hG⟩ := Kd.R_form ho5 (by decide); have hg2 := Nat.le_trans HB.out.size hg; replace hv : v = .slice (some ⟨g, 0, none⟩) 8 c := hv; subst hv; replace ho5 : Kd.R Kd.bool 4 w4 w5.heap.size (fun _ => True) (.slice (some ⟨g, 0, none⟩) 8 c) [false, false, false, false, false, false, false, false] := ho5; have HR := Aside0.mk (Kd.R_lower ho5 HB.out.size); replace HB := Aside0.mk (HB.out.trans (hb.mono HB.out.size)); clear ho5 hb hg_ hnew_ hgl hcl hG))
  obtain ⟨A, c', hv, hc8, _⟩ := Kd.R_reads HR.out
  injection hv with hA hn hcc
  subst hcc
  clear hA hn
  replace hc8 : 8 ≤ c := hc8
  have hcne : ¬ (c = 4) := by omega
  refine wp_unroll 9 ?_
  unfold Left
  go_wp2
  refine wp_region_still_tail 13 (by kernel_rfl) (by kernel_rfl) ?_
  simp only [List.take_succ_cons, List.take_zero, List.drop_succ_cons, List.drop_zero]
  change wpStill _ _ (World.drew _) _ _ _
  obtain ⟨HB1, HR1, hc1, hf1⟩ := next_bit (i := 0) (x := false) HB HR (by omega) hg2
  simp only [List.set_cons_zero, List.set_cons_succ] at HR1
  clear HB HR
  repeat still_step
  refine wpStill_nil ?_
  change wpList _ _ _ _ _ (World.drew _)
  go_wp2
  clear hc1 hf1
  generalize World.drew (World.setCell _ _ _) = W0 at HB1 HR1 ⊢
  have HB := HB1
  have HR := HR1
  clear HB1 HR1
  unfold Left
  go_wp2
  refine wp_region_still_tail 13 (by kernel_rfl) (by kernel_rfl) ?_
  simp only [List.take_succ_cons, List.take_zero, List.drop_succ_cons, List.drop_zero]
  change wpStill _ _ (World.drew _) _ _ _
  obtain ⟨HB1, HR1, hc1, hf1⟩ := next_bit (i := 1) (x := true) HB HR (by omega) hg2
  simp only [List.set_cons_zero, List.set_cons_succ] at HR1
  clear HB HR
  repeat still_step
  refine wpStill_nil ?_
  change wpList _ _ _ _ _ (World.drew _)
  go_wp2
  clear hc1 hf1
  generalize World.drew (World.setCell _ _ _) = W1 at HB1 HR1 ⊢
  have HB := HB1
  have HR := HR1
  clear HB1 HR1
  unfold Left
  go_wp2
  refine wp_region_still_tail 13 (by kernel_rfl) (by kernel_rfl) ?_
  simp only [List.take_succ_cons, List.take_zero, List.drop_succ_cons, List.drop_zero]
  change wpStill _ _ (World.drew _) _ _ _
  obtain ⟨HB1, HR1, hc1, hf1⟩ := next_bit (i := 2) (x := false) HB HR (by omega) hg2
  simp only [List.set_cons_zero, List.set_cons_succ] at HR1
  clear HB HR
  repeat still_step
  refine wpStill_nil ?_
  change wpList _ _ _ _ _ (World.drew _)
  go_wp2
  clear hc1 hf1
  generalize World.drew (World.setCell _ _ _) = W2 at HB1 HR1 ⊢
  have HB := HB1
  have HR := HR1
  clear HB1 HR1
  unfold Left
  go_wp2
  refine wp_region_still_tail 13 (by kernel_rfl) (by kernel_rfl) ?_
  simp only [List.take_succ_cons, List.take_zero, List.drop_succ_cons, List.drop_zero]
  change wpStill _ _ (World.drew _) _ _ _
  obtain ⟨HB1, HR1, hc1, hf1⟩ := next_bit (i := 3) (x := true) HB HR (by omega) hg2
  simp only [List.set_cons_zero, List.set_cons_succ] at HR1
  clear HB HR
  repeat still_step
  refine wpStill_nil ?_
  change wpList _ _ _ _ _ (World.drew _)
  go_wp2
  clear hc1 hf1
  generalize World.drew (World.setCell _ _ _) = W3 at HB1 HR1 ⊢
  have HB := HB1
  have HR := HR1
  clear HB1 HR1
  unfold Left
  go_wp2
  refine wp_region_still_tail 13 (by kernel_rfl) (by kernel_rfl) ?_
  simp only [List.take_succ_cons, List.take_zero, List.drop_succ_cons, List.drop_zero]
  change wpStill _ _ (World.drew _) _ _ _
  obtain ⟨HB1, HR1, hc1, hf1⟩ := next_bit (i := 4) (x := false) HB HR (by omega) hg2
  simp only [List.set_cons_zero, List.set_cons_succ] at HR1
  clear HB HR
  repeat still_step
  refine wpStill_nil ?_
  change wpList _ _ _ _ _ (World.drew _)
  go_wp2
  clear hc1 hf1
  generalize World.drew (World.setCell _ _ _) = W4 at HB1 HR1 ⊢
  have HB := HB1
  have HR := HR1
  clear HB1 HR1
  unfold Left
  go_wp2
  refine wp_region_still_tail 13 (by kernel_rfl) (by kernel_rfl) ?_
  simp only [List.take_succ_cons, List.take_zero, List.drop_succ_cons, List.drop_zero]
  change wpStill _ _ (World.drew _) _ _ _
  obtain ⟨HB1, HR1, hc1, hf1⟩ := next_bit (i := 5) (x := false) HB HR (by omega) hg2
  simp only [List.set_cons_zero, List.set_cons_succ] at HR1
  clear HB HR
  repeat still_step
  refine wpStill_nil ?_
  change wpList _ _ _ _ _ (World.drew _)
  go_wp2
  clear hc1 hf1
  generalize World.drew (World.setCell _ _ _) = W5 at HB1 HR1 ⊢
  have HB := HB1
  have HR := HR1
  clear HB1 HR1
  unfold Left
  go_wp2
  refine wp_region_still_tail 13 (by kernel_rfl) (by kernel_rfl) ?_
  simp only [List.take_succ_cons, List.take_zero, List.drop_succ_cons, List.drop_zero]
  change wpStill _ _ (World.drew _) _ _ _
  obtain ⟨HB1, HR1, hc1, hf1⟩ := next_bit (i := 6) (x := false) HB HR (by omega) hg2
  simp only [List.set_cons_zero, List.set_cons_succ] at HR1
  clear HB HR
  repeat still_step
  refine wpStill_nil ?_
  change wpList _ _ _ _ _ (World.drew _)
  go_wp2
  clear hc1 hf1
  generalize World.drew (World.setCell _ _ _) = W6 at HB1 HR1 ⊢
  have HB := HB1
  have HR := HR1
  clear HB1 HR1
  unfold Left
  go_wp2
  refine wp_region_still_tail 13 (by kernel_rfl) (by kernel_rfl) ?_
  simp only [List.take_succ_cons, List.take_zero, List.drop_succ_cons, List.drop_zero]
  change wpStill _ _ (World.drew _) _ _ _
  obtain ⟨HB1, HR1, hc1, hf1⟩ := next_bit (i := 7) (x := false) HB HR (by omega) hg2
  simp only [List.set_cons_zero, List.set_cons_succ] at HR1
  clear HB HR
  repeat still_step
  refine wpStill_nil ?_
  change wpList _ _ _ _ _ (World.drew _)
  go_wp2
  clear hc1 hf1
  generalize World.drew (World.setCell _ _ _) = W7 at HB1 HR1 ⊢
  have HB := HB1
  have HR := HR1
  clear HB1 HR1
  unfold Left
  have hC : Kd.bool.C W7 (some ⟨g, 0, none⟩) 8 [false, true, false, true, false, false, false, false] := by
    obtain ⟨A, c', hv, _, hC⟩ := Kd.R_reads HR.out
    injection hv with hA hn hcc
    subst hA
    exact hC
  have hD := Kd.C_drop (c := c) (m := 4) hC (by decide) hc8
  rw [if_neg hcne] at hD
  have HD : Aside0 (Kd.bool.C W7 (some ⟨g, 4, none⟩) 4 [false, false, false, false]) := Aside0.mk hD
  clear hC hD
  have hf : slices_Contains_bool_bool.f 9 [false, false, false, false] true = some false := by decide +kernel
  have HF := Aside0.mk hf
  clear hf
  go_wp2_with (go_at_call 33; go_must (refine (slices_Contains_bool_bool.calls 9 (some ⟨g, 4, none⟩) (c - 4) [false, false, false, false] true false W7 HD.out (by simp; omega) HF.out).mono ?_); rintro e w5 ⟨rfl, hdr⟩)
  have hc3 : (3 : Int) ≤ (c : Int) := by omega
  have hc4 : (4 : Int) ≤ (c : Int) := by omega
  replace HB := Aside0.mk (below_drew (below_step HB.out hdr.below))
  clear hdr HD HF HR
  refine start_ (n := 18) (S := fun _ => True) (ds := [15, 16]) #[false, false, false, false, false, false, false, false, false, false, false, false, false, false, false, false, false, false] (by kernel_rfl) rfl rfl trivial (fun hHeld => ?_)
  generalize w5.drew = w6 at HB ⊢
  refine pure_ (i := 0) (N := some 81) (v := ?_) (a' := ?_) #[true, false, false, false, false, false, false, false, false, false, false, false, false, false, false, false, false, false] rfl rfl (by kernel_rfl) (fun _ _ _ h => h) (Or.inl ⟨by rfl, ?_⟩) ?_ ?_
  rotate_left
  · intro w'
    go_simp
    with_reducible rfl
  rotate_left
  · simp only [Act.put, List.setIfInBounds_toArray, List.set_cons_zero, List.set_cons_succ]
    rfl
  refine pure_ (i := 1) (N := some 82) (v := ?_) (a' := ?_) #[true, true, false, false, false, false, false, false, false, false, false, false, false, false, false, false, false, false] rfl rfl (by kernel_rfl) (fun _ _ _ h => h) (Or.inl ⟨by rfl, ?_⟩) ?_ ?_
  rotate_left
  · intro w'
    go_simp
    with_reducible rfl
  rotate_left
  · simp only [Act.put, List.setIfInBounds_toArray, List.set_cons_zero, List.set_cons_succ]
    rfl
  refine pure_ (i := 2) (N := some 83) (v := ?_) (a' := ?_) #[true, true, true, false, false, false, false, false, false, false, false, false, false, false, false, false, false, false] rfl rfl (by kernel_rfl) (fun _ _ _ h => h) (Or.inl ⟨by rfl, ?_⟩) ?_ ?_
  rotate_left
  · intro w'
    go_simp
    with_reducible rfl
  rotate_left
  · simp only [Act.put, List.setIfInBounds_toArray, List.set_cons_zero, List.set_cons_succ]
    rfl
  refine pure_ (i := 3) (N := some 84) (v := ?_) (a' := ?_) #[true, true, true, true, false, false, false, false, false, false, false, false, false, false, false, false, false, false] rfl rfl (by kernel_rfl) (fun _ _ _ h => h) (Or.inl ⟨by rfl, ?_⟩) ?_ ?_
  rotate_left
  · intro w'
    go_simp
    with_reducible rfl
  rotate_left
  · simp only [Act.put, List.setIfInBounds_toArray, List.set_cons_zero, List.set_cons_succ]
    rfl
  refine pure_ (i := 4) (N := some 85) (v := ?_) (a' := ?_) #[true, true, true, true, true, false, false, false, false, false, false, false, false, false, false, false, false, false] rfl rfl (by kernel_rfl) (fun _ _ _ h => h) (Or.inl ⟨by rfl, ?_⟩) ?_ ?_
  rotate_left
  · intro w'
    go_simp
    with_reducible rfl
  rotate_left
  · simp only [Act.put, List.setIfInBounds_toArray, List.set_cons_zero, List.set_cons_succ]
    rfl
  refine pure_ (i := 5) (N := some 86) (v := ?_) (a' := ?_) #[true, true, true, true, true, true, false, false, false, false, false, false, false, false, false, false, false, false] rfl rfl (by kernel_rfl) (fun _ _ _ h => h) (Or.inl ⟨by rfl, ?_⟩) ?_ ?_
  rotate_left
  · intro w'
    go_simp
    with_reducible rfl
  rotate_left
  · simp only [Act.put, List.setIfInBounds_toArray, List.set_cons_zero, List.set_cons_succ]
    rfl
  refine pure_ (i := 6) (N := some 87) (v := ?_) (a' := ?_) #[true, true, true, true, true, true, true, false, false, false, false, false, false, false, false, false, false, false] rfl rfl (by kernel_rfl) (fun _ _ _ h => h) (Or.inl ⟨by rfl, ?_⟩) ?_ ?_
  rotate_left
  · intro w'
    go_simp
    with_reducible rfl
  rotate_left
  · simp only [Act.put, List.setIfInBounds_toArray, List.set_cons_zero, List.set_cons_succ]
    rfl
  refine pure_ (i := 7) (N := some 88) (v := ?_) (a' := ?_) #[true, true, true, true, true, true, true, true, false, false, false, false, false, false, false, false, false, false] rfl rfl (by kernel_rfl) (fun _ _ _ h => h) (Or.inl ⟨by rfl, ?_⟩) ?_ ?_
  rotate_left
  · intro w'
    go_simp
    with_reducible rfl
  rotate_left
  · simp only [Act.put, List.setIfInBounds_toArray, List.set_cons_zero, List.set_cons_succ]
    rfl
  refine pure_ (i := 8) (N := some 89) (v := ?_) (a' := ?_) #[true, true, true, true, true, true, true, true, true, false, false, false, false, false, false, false, false, false] rfl rfl (by kernel_rfl) (fun _ _ _ h => h) (Or.inl ⟨by rfl, ?_⟩) ?_ ?_
  rotate_left
  · intro w'
    go_simp
    with_reducible rfl
  rotate_left
  · simp only [Act.put, List.setIfInBounds_toArray, List.set_cons_zero, List.set_cons_succ]
    rfl
  refine pure_ (i := 9) (N := some 90) (v := ?_) (a' := ?_) #[true, true, true, true, true, true, true, true, true, true, false, false, false, false, false, false, false, false] rfl rfl (by kernel_rfl) (fun _ _ _ h => h) (Or.inl ⟨by rfl, ?_⟩) ?_ ?_
  rotate_left
  · intro w'
    go_simp
    with_reducible rfl
  rotate_left
  · simp only [Act.put, List.setIfInBounds_toArray, List.set_cons_zero, List.set_cons_succ]
    rfl
  refine pure_ (i := 10) (N := some 91) (v := ?_) (a' := ?_) #[true, true, true, true, true, true, true, true, true, true, true, false, false, false, false, false, false, false] rfl rfl (by kernel_rfl) (fun _ _ _ h => h) (Or.inl ⟨by rfl, ?_⟩) ?_ ?_
  rotate_left
  · intro w'
    go_simp
    with_reducible rfl
  rotate_left
  · simp only [Act.put, List.setIfInBounds_toArray, List.set_cons_zero, List.set_cons_succ]
    rfl
  refine pure_ (i := 11) (N := some 92) (v := ?_) (a' := ?_) #[true, true, true, true, true, true, true, true, true, true, true, true, false, false, false, false, false, false] rfl rfl (by kernel_rfl) (fun _ _ _ h => h) (Or.inl ⟨by rfl, ?_⟩) ?_ ?_
  rotate_left
  · intro w'
    go_simp
    with_reducible rfl
  rotate_left
  · simp only [Act.put, List.setIfInBounds_toArray, List.set_cons_zero, List.set_cons_succ]
    rfl
  refine pure_ (i := 12) (N := some 93) (v := ?_) (a' := ?_) #[true, true, true, true, true, true, true, true, true, true, true, true, true, false, false, false, false, false] rfl rfl (by kernel_rfl) (fun _ _ _ h => h) (Or.inl ⟨by rfl, ?_⟩) ?_ ?_
  rotate_left
  · intro w'
    go_simp
    with_reducible rfl
  rotate_left
  · simp only [Act.put, List.setIfInBounds_toArray, List.set_cons_zero, List.set_cons_succ]
    rfl
  refine pure_ (i := 13) (N := some 94) (v := ?_) (a' := ?_) #[true, true, true, true, true, true, true, true, true, true, true, true, true, true, false, false, false, false] rfl rfl (by kernel_rfl) (fun _ _ _ h => h) (Or.inl ⟨by rfl, ?_⟩) ?_ ?_
  rotate_left
  · intro w'
    go_simp
    with_reducible rfl
  rotate_left
  · simp only [Act.put, List.setIfInBounds_toArray, List.set_cons_zero, List.set_cons_succ]
    rfl
  refine pure_ (i := 14) (N := some 95) (v := ?_) (a' := ?_) #[true, true, true, true, true, true, true, true, true, true, true, true, true, true, true, false, false, false] rfl rfl (by kernel_rfl) (fun _ _ _ h => h) (Or.inl ⟨by rfl, ?_⟩) ?_ ?_
  rotate_left
  · intro w'
    go_simp
    with_reducible rfl
  rotate_left
  · simp only [Act.put, List.setIfInBounds_toArray, List.set_cons_zero, List.set_cons_succ]
    rfl
  refine last_ (i := 15) (N := some 96) #[true, true, true, true, true, true, true, true, true, true, true, true, true, true, true, true, false, false] rfl rfl (by kernel_rfl) (by decide) (fun K hK => ?_)
  refine value_ (w1 := ?_) (v := ?_) (by rfl) rfl ?_ ?_
  rotate_left 2
  · go_simp
    constructor
    · rfl
    · rfl
  refine hK.out _ _ ?_
  clear hK K
  refine norm_ (a' := ?_) ?_ ?_
  rotate_left
  · show Act.put _ (some 96) _ = _
    simp only [Act.put, List.setIfInBounds_toArray, List.set_cons_zero, List.set_cons_succ]
    rfl
  refine last_ (i := 16) (N := some 97) #[true, true, true, true, true, true, true, true, true, true, true, true, true, true, true, true, true, false] rfl rfl (by kernel_rfl) (by decide) (fun K hK => ?_)
  refine Kd.R_append_step (Kd.raw 2) (w0 := w) w.heap.size (by rfl) (.tmp 81) (.tmp 96) 25 38 (.agg #[(.slice none 0 0), (.slice none 0 0)]) 48 rfl Try.underlying25 info38 rfl (by decide) (by omega) (.slice none 0 0) [] [.slice (some ⟨g, 0, none⟩) 3 3, .slice (some ⟨g, 3, none⟩) 1 1] [.slice (some ⟨g, 0, none⟩) 3 3, .slice (some ⟨g, 3, none⟩) 1 1] (fun _ => True) (fun _ => False) rfl rfl ⟨rfl, rfl, by simp [Value.oneCell']⟩ (fun _ hk => hk.elim) (fun _ _ => trivial) (Kd.R_nil _ _ _ _ _) HB.out HB.out.size (by simp) ?_
  intro v1 w7 hR7 hB7 hg7 hat7
  refine hK.out _ _ ?_
  clear hK K
  refine norm_ (a' := ?_) ?_ ?_
  rotate_left
  · show Act.put _ (some 97) _ = _
    simp only [Act.put, List.setIfInBounds_toArray, List.set_cons_zero, List.set_cons_succ]
    rfl
  refine pure_ (i := 17) (N := some 5) (v := ?_) (a' := ?_) #[true, true, true, true, true, true, true, true, true, true, true, true, true, true, true, true, true, true] rfl rfl (by kernel_rfl) (fun _ _ _ h => h) (Or.inl ⟨by rfl, ?_⟩) ?_ ?_
  rotate_left
  · intro w'
    go_simp
    with_reducible rfl
  rotate_left
  · simp only [Act.put, List.setIfInBounds_toArray, List.set_cons_zero, List.set_cons_succ]
    rfl
  refine done_ (by kernel_rfl) ?_
  obtain ⟨b, cb, hv, hb1, hb2, hb3⟩ := Kd.R_form hR7 (by simp)
  replace hv : v1 = .slice (some ⟨b, 0, none⟩) 1 cb := hv
  subst hv
  obtain ⟨A7, c7, hv7, hle7, hC7⟩ := Kd.R_reads hR7
  injection hv7 with hA7 hn7 hc7'
  subst hA7
  subst hc7'
  clear hn7
  obtain ⟨ad, cs, he, _, hK7, hcc⟩ := Kd.C_get hC7 [] 0 (by omega) (by simp)
  injection he with he
  subst he
  have hK8 : cs = [.slice (some ⟨g, 0, none⟩) 3 3, .slice (some ⟨g, 3, none⟩) 1 1] := hK7.1
  subst hK8
  have hcell : w7.cell? ⟨b, 0, none⟩ = some (.slice (some ⟨g, 0, none⟩) 3 3) := hcc 0 _ rfl
  have HCELL := Aside0.mk hcell
  have HB7 := Aside0.mk hB7
  clear hcell hcc hK7 hC7 hR7 hB7 hg7 hat7 hb1 hb2 hb3 hle7
  go_wp2
  unfold Left
  go_wp2
  go_ret2
  first | exact ⟨⟨b, _, _, _, rfl, HCELL.out⟩, HB7.out⟩ | exact ⟨⟨b, ⟨cb, rfl⟩, ⟨_, _, HCELL.out⟩⟩, HB7.out⟩

end Go.Proofs.Ytnbjhfleoodncaa.X
