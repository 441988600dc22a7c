/- CodeTurns, walked, where the text is code: it answers true. Conditions: the text is code, the numbers are of their kind. -/
import Derived.Test.YtnbjhfleoodncaaXTurnsW
namespace Go.Proofs.Ytnbjhfleoodncaa.X
open Go.RowKit Go.Shelf Go.Proofs.YtnbjhfleoodncaaW.PrintWords Go.Proofs.YtnbjhfleoodncaaW.PrintLast Go.Proofs.YtnbjhfleoodncaaW.PrintMore
set_option linter.unusedVariables false
set_option linter.unusedSimpArgs false

theorem toNat8 {x : Nat} (h : x < 64) : (UInt8.ofNat x).toNat = x := by
  rw [UInt8.toNat_ofNat']
  omega
theorem bytes_free (W : World) (e : TypeId) (s : ByteArray) (p : Nat) (hp : p < s.size) : (Lib.bytesWorld W e s).frozen? ⟨W.heap.size, p, none⟩ = false := by
  have hsz : s.size ≤ (Lib.bytesCells W e s).size := by
    unfold Lib.bytesCells
    rw [Array.size_append, Array.size_map]
    exact Nat.le_add_right _ _
  unfold World.frozen?
  rw [Lib.bytesWorld_at_new]
  simp
  omega
theorem pairs_keys (pc : Int) : ∀ (m : Nat) (s : List UInt8) (ks ts : List Int) (r : List UInt8), Ct.pairs pc m s = some (ks, ts, r) → ks.length = m
  | 0, s, ks, ts, r, h => by
    simp only [Ct.pairs, Option.some.injEq, Prod.mk.injEq] at h
    rw [← h.1]
    rfl
  | m + 1, s, ks, ts, r, h => by
    match s, h with
    | a :: b :: c :: d :: s, h =>
      simp only [Ct.pairs] at h
      split at h
      · rename_i ks' ts' r' hp
        simp only [Option.some.injEq, Prod.mk.injEq] at h
        obtain ⟨rfl, rfl, rfl⟩ := h
        rw [List.length_cons, pairs_keys pc m _ _ _ _ hp]
      · cases h
theorem read_keys {s r : List UInt8} {pc : Int} {x : Ct.Ins} (h : Ct.read s pc = .ok (x, r)) : x.keys.length ≤ 65536 := by
  unfold Ct.read at h
  repeat' split at h
  all_goals first | (cases h; done) | skip
  all_goals
    simp only [Except.ok.injEq, Prod.mk.injEq] at h
    obtain ⟨rfl, rfl⟩ := h
    first | (simp; done) | skip
  rename_i a b c d _ _ _ _ _ hp
  have := pairs_keys _ _ _ _ _ _ hp
  have := two_range c d
  dsimp only
  omega
theorem reads_all {P : Ct.Ins → Prop} (hP : ∀ s pc x r, Ct.read s pc = .ok (x, r) → P x) : ∀ (f : Nat) (s : List UInt8) (pc : Int) (l : List Ct.Ins), Ct.reads f s pc = .ok l → (∀ x ∈ l, P x) ∧ l.length ≤ f
  | 0, _, _, _, h => by cases h; simp
  | f + 1, s, pc, l, h => by
    by_cases hs : s = []
    · rw [Ct.reads, if_pos hs] at h
      cases h
      simp
    · rw [reads_step f s pc hs] at h
      cases hr : Ct.read s pc with
      | error e => rw [hr] at h; cases h
      | ok p =>
        obtain ⟨x, r⟩ := p
        rw [hr] at h
        dsimp only at h
        cases hy : Ct.reads f r (pc + ((s.length : Int) - r.length)) with
        | error e => rw [hy] at h; cases h
        | ok l' =>
          rw [hy] at h
          cases h
          obtain ⟨h1, h2⟩ := reads_all hP f r _ _ hy
          refine ⟨fun z hz => ?_, by simp only [List.cons_append, List.nil_append, List.length_cons]; omega⟩
          rcases List.mem_cons.1 hz with rfl | hz
          · exact hP _ _ _ _ hr
          · exact h1 z hz
theorem decode_reads {s : List UInt8} {l : List Ct.Ins} (h : Ct.decode s = .ok l) : Ct.reads s.length s 0 = .ok l := by
  unfold Ct.decode at h
  split at h
  · cases h
  split at h
  · cases h
  split at h
  · cases h
  split at h
  · cases h
    assumption
  · cases h
theorem decode_bound {s : List UInt8} {l : List Ct.Ins} (h : Ct.decode s = .ok l) : ∀ x ∈ l, (insS x).f3.length ≤ 1000000 ∧ (insS x).f4.length ≤ 1000000 :=
  (reads_all (P := fun x => (insS x).f3.length ≤ 1000000 ∧ (insS x).f4.length ≤ 1000000) (fun s pc x r hr => ⟨by have := read_keys hr; show x.keys.length ≤ _; omega, by have := read_to hr; show x.to.length ≤ _; omega⟩) _ _ _ _ (decode_reads h)).1
theorem decode_len {s : List UInt8} {l : List Ct.Ins} (h : Ct.decode s = .ok l) : l.length ≤ s.length := (reads_all (P := fun _ => True) (fun _ _ _ _ _ => trivial) _ _ _ _ (decode_reads h)).2
theorem decode_op {s : List UInt8} {l : List Ct.Ins} (h : Ct.decode s = .ok l) {k : Nat} {y : Ct.Ins} (hk : l[k]? = some y) : ∃ o : UInt8, y.op = o.toNat := by
  unfold Ct.decode at h
  split at h
  · cases h
  split at h
  · cases h
  split at h
  · cases h
  rename_i l' hl'
  split at h
  · cases h
    obtain ⟨_, _, h3, _⟩ := Ct.reads_set _ _ _ _ hl' (Nat.le_refl _) k y hk
    exact h3
  · cases h
set_option maxRecDepth 100000 in
set_option maxHeartbeats 8000000 in
theorem turns_ok (s : ByteArray) (at_ op : Int) (l : List Ct.Ins) (w : World) (hd : Ct.decode s.data.toList = .ok l) (a0 : -9223372036854775808 ≤ at_) (a1 : at_ ≤ 9223372036854775807) (o0 : -9223372036854775808 ≤ op) (o1 : op ≤ 9223372036854775807) :
    Calls Try.prog 5 #[.string s, .int .i64 at_, .int .i64 op] w fun e w' => e = .returned (.bool true) ∧ Below w.heap.size w w' := by
  obtain ⟨hs0, hs1⟩ := size_le_of_ok hd
  have hlp : 0 < l.length := List.length_pos_iff.2 (Ct.decode_ne hd)
  obtain ⟨k, hk, hkl⟩ := pick_range at_ l.length hlp a0 a1
  obtain ⟨x, hx, hx64⟩ := pick_range op 64 (by omega) o0 o1
  have HD := Aside0.mk hd
  have HPK := Aside0.mk hk
  have HPX : Aside0 (cruciblelaw4_pick.f op 64 = some (x : Int)) := ⟨hx⟩
  have hsz : decide ((4096 : Int) < (s.size : Int)) = false := decide_eq_false (by omega)
  clear hd hk hx a0 a1 o0 o1
  go_enter Try.func5, Try.ntmps5
  go_wp2_with (go_at_call 14; fail)
  refine (shownC_calls _).mono ?_
  rintro e w1 ⟨rfl, hb1⟩
  go_wp2_with (go_at_call 15; fail)
  refine (dec_ok HD.out _ (by omega)).mono ?_
  rintro e w2 ⟨A, c, rfl, hR, hb2⟩
  have HB := Aside0.mk (below_step hb1 hb2)
  have HR := Aside0.mk (Kd.R_lower hR hb1.size)
  clear hb1 hb2 hR
  go_wp2_with (go_at_call 16; fail)
  refine (cruciblelaw4_pick.calls at_ (l.length : Int) (k : Int) _ HPK.out).mono ?_
  rintro e w3 ⟨rfl, n3, rfl⟩
  go_wp2_with (go_at_call 16; fail)
  refine (cruciblelaw4_pick.calls op 64 (x : Int) _ HPX.out).mono ?_
  rintro e w4 ⟨rfl, n4, rfl⟩
  go_wp2
  have hB := below_step HB.out (pw_below_drewN (Below.refl _ _) (n3 + n4))
  have hR := Kd.R_below HR.out (pw_below_drewN (Below.refl _ _) (n3 + n4))
  clear HB HR
  have hR' := hR
  obtain ⟨g, c', e, hgb, hgl, hcs⟩ := Kd.R_form hR (by rw [List.length_map]; exact hlp)
  injection e with e e9 e10
  subst e
  clear e9 e10 hcs c'
  have hC := (Kd.R_reads' hR').2.2
  obtain ⟨ad, A3, c3, A4, c4, e, hx0, hx1, hx2, hx3, hx4, hl3, hi3', hl4, hi4'⟩ := at_T57 hC (k : Int) (by omega) (by rw [List.length_map]; omega)
  cases e
  have hkx : rd_T57 (l.map insS) (k : Int) = insS l[k] := by
    unfold rd_T57
    rw [Int.toNat_natCast, List.getD_eq_getElem?_getD, List.getElem?_map, List.getElem?_eq_getElem hkl]
    rfl
  rw [hkx, Int.toNat_natCast, add_plain] at hx0 hx1
  have hlk := List.getElem?_eq_getElem hkl
  generalize hyy : l[k] = y at *
  have hopn : y.op = y.op.toNat ∧ y.op.toNat < 256 := by
    obtain ⟨o, ho⟩ := decode_op HD.out hlk
    have := o.toNat_lt
    rw [ho]
    omega
  replace hx0 : (w2.drewN (n3 + n4)).cell? ⟨g, k * 5, none⟩ = some (.int .i64 y.pc) := by simpa [insS] using hx0
  replace hx1 : (w2.drewN (n3 + n4)).cell? ⟨g, k * 5 + 1, none⟩ = some (.int .i64 y.op) := by simpa [insS] using hx1
  clear hx2 hx3 hx4 hl3 hi3' hl4 hi4' hkx hR' hC hyy
  generalize w2.drewN (n3 + n4) = W at hB hR hx0 hx1 ⊢
  have HB := Aside0.mk hB
  have HR := Aside0.mk hR
  have HLK := Aside0.mk hlk
  have HOP := Aside0.mk hopn
  have HX0 := Aside0.mk hx0
  have hk0 : (0 : Int) ≤ (k : Int) := by omega
  have hk1 : (k : Int) < (l.length : Int) := by omega
  clear hB hR hlk hopn hx0
  refine start_ (n := 20) (S := fun w' => w'.cell? ⟨g, k * 5 + 1, none⟩ = some (.int .i64 y.op)) (ds := []) #[false, false, false, false, false, false, false, false, false, false, false, false, false, false, false, false, false, false, false, false] (by kernel_rfl) rfl rfl hx1 (fun hHeld => ?_)
  clear hx1
  have HB1 := Aside0.mk (below_drew HB.out)
  have HR1 := Aside0.mk (Kd.R_drew HR.out)
  have hX0 : W.drew.cell? ⟨g, k * 5, none⟩ = some (.int .i64 y.pc) := HX0.out
  have HX1 := Aside0.mk hX0
  clear HB HR HX0 hX0
  generalize W.drew = W1 at HB1 HR1 HX1 hHeld ⊢
  refine pure_ (i := 0) (N := some 38) (v := ?_) (a' := ?_) #[true, false, false, false, false, false, false, false, false, false, false, false, false, false, false, false, false, false, false, false] rfl rfl (by kernel_rfl) (fun _ _ _ h => h) (Or.inl ⟨by rfl, ?_⟩) ?_ ?_
  rotate_left
  · intro w'
    go_simp
    with_reducible rfl
  rotate_left
  · simp only [Act.put, List.setIfInBounds_toArray, List.set_cons_zero, List.set_cons_succ, i64_w, i32_w]
    rfl
  refine pure_ (i := 2) (N := some 40) (v := ?_) (a' := ?_) #[true, false, true, false, false, false, false, false, false, false, false, false, false, false, false, false, false, false, false, false] rfl rfl (by kernel_rfl) (fun _ _ _ h => h) (Or.inl ⟨by rfl, ?_⟩) ?_ ?_
  rotate_left
  · intro w'
    go_simp
    with_reducible rfl
  rotate_left
  · simp only [Act.put, List.setIfInBounds_toArray, List.set_cons_zero, List.set_cons_succ, i64_w, i32_w]
    rfl
  refine pure_ (i := 3) (N := some 41) (v := ?_) (a' := ?_) #[true, false, true, true, false, false, false, false, false, false, false, false, false, false, false, false, false, false, false, false] rfl rfl (by kernel_rfl) (fun _ _ _ h => h) (Or.inl ⟨by rfl, ?_⟩) ?_ ?_
  rotate_left
  · intro w'
    go_simp
    with_reducible rfl
  rotate_left
  · simp only [Act.put, List.setIfInBounds_toArray, List.set_cons_zero, List.set_cons_succ, i64_w, i32_w]
    rfl
  refine pure_ (i := 4) (N := some 42) (v := ?_) (a' := ?_) #[true, false, true, true, true, false, false, false, false, false, false, false, false, false, false, false, false, false, false, false] rfl rfl (by kernel_rfl) (fun _ _ _ h => h) (Or.inl ⟨by rfl, ?_⟩) ?_ ?_
  rotate_left
  · intro w'
    go_simp
    with_reducible rfl
  rotate_left
  · simp only [Act.put, List.setIfInBounds_toArray, List.set_cons_zero, List.set_cons_succ, i64_w, i32_w]
    rfl
  refine pure_ (i := 5) (N := some 43) (v := ?_) (a' := ?_) #[true, false, true, true, true, true, false, false, false, false, false, false, false, false, false, false, false, false, false, false] rfl rfl (by kernel_rfl) (fun _ _ _ h => h) (Or.inl ⟨by rfl, ?_⟩) ?_ ?_
  rotate_left
  · intro w'
    go_simp
    with_reducible rfl
  rotate_left
  · simp only [Act.put, List.setIfInBounds_toArray, List.set_cons_zero, List.set_cons_succ, i64_w, i32_w]
    rfl
  refine take_ (i := 6) (N := some 44) (v := ?_) (a' := ?_) #[true, false, true, true, true, true, true, false, false, false, false, false, false, false, false, false, false, false, false, false] rfl rfl (by kernel_rfl) (fun _ _ _ h => h) (Or.inl ⟨by rfl, ?_⟩) hHeld ?_ ?_
  rotate_left
  · rintro w' s0
    go_simp
    with_reducible rfl
  rotate_left
  · simp only [Act.put, List.setIfInBounds_toArray, List.set_cons_zero, List.set_cons_succ, i64_w, i32_w]
    rfl
  refine one_ (i := 1) (N := some 39) #[true, true, true, true, true, true, true, false, false, false, false, false, false, false, false, false, false, false, false, false] rfl rfl (by kernel_rfl) (by decide) (fun K hK => ?_)
  refine goes_ Try.func17 (by kernel_rfl) rfl #[.int .i64 (x : Int)] (by rfl) rfl rfl (by simp only [List.map_toArray, List.map_cons, List.map_nil]; rfl) ?_
  refine (code_Form.calls (x : Int) _ _ (form_I _)).mono ?_
  rintro e W2 ⟨rfl, hbb⟩
  refine ⟨_, rfl, ?_⟩
  have HB2 := Aside0.mk (below_step HB1.out hbb)
  have HR2 := Aside0.mk (Kd.R_below HR1.out hbb)
  have hlt := World.block_lt_of_cell? _ _ hHeld
  have HX2 := Aside0.mk ((hbb.cell (p := ⟨g, k * 5, none⟩) hlt).trans HX1.out)
  have hh := (hbb.cell (p := ⟨g, k * 5 + 1, none⟩) hlt).trans hHeld
  clear HB1 HR1 HX1 hbb hlt
  refine hK.out _ _ hh (fun hHeld => ?_)
  clear hK K hh
  refine norm_ (a' := ?_) ?_ ?_
  rotate_left
  · show Act.put _ (some 39) _ = _
    simp only [Act.put, List.setIfInBounds_toArray, List.set_cons_zero, List.set_cons_succ, i64_w, i32_w]
    rfl
  refine one_ (i := 7) (N := some 45) #[true, true, true, true, true, true, true, true, false, false, false, false, false, false, false, false, false, false, false, false] rfl rfl (by kernel_rfl) (by decide) (fun K hK => ?_)
  refine goes_ Try.func17 (by kernel_rfl) rfl #[.int .i64 y.op] (by rfl) rfl rfl (by simp only [List.map_toArray, List.map_cons, List.map_nil]; rfl) ?_
  refine (code_Form.calls y.op _ _ (form_I _)).mono ?_
  rintro e W3 ⟨rfl, hbb⟩
  refine ⟨_, rfl, ?_⟩
  have HB3 := Aside0.mk (below_step HB2.out hbb)
  have HR3 := Aside0.mk (Kd.R_below HR2.out hbb)
  have hlt := World.block_lt_of_cell? _ _ hHeld
  have HX3 := Aside0.mk ((hbb.cell (p := ⟨g, k * 5, none⟩) hlt).trans HX2.out)
  have hh := (hbb.cell (p := ⟨g, k * 5 + 1, none⟩) hlt).trans hHeld
  clear HB2 HR2 HX2 hbb hlt
  refine hK.out _ _ hh (fun hHeld => ?_)
  clear hK K hh
  refine norm_ (a' := ?_) ?_ ?_
  rotate_left
  · show Act.put _ (some 45) _ = _
    simp only [Act.put, List.setIfInBounds_toArray, List.set_cons_zero, List.set_cons_succ, i64_w, i32_w]
    rfl
  by_cases hff : formI (x : Int) = formI y.op
  · have hf1 : (formI (x : Int) == formI y.op) = true := beq_iff_eq.2 hff
    have hf2 : (formI (x : Int) != formI y.op) = false := bne_eq_false_iff_eq.2 hff
    have HFF := Aside0.mk hff
    clear hff
    refine pure_ (i := 8) (N := some 46) (v := ?_) (a' := ?_) #[true, true, true, true, true, true, true, true, true, false, false, false, false, false, false, false, false, false, false, false] rfl rfl (by kernel_rfl) (fun _ _ _ h => h) (Or.inl ⟨by rfl, ?_⟩) ?_ ?_
    rotate_left
    · intro w'
      go_simp
      with_reducible rfl
    rotate_left
    · simp only [Act.put, List.setIfInBounds_toArray, List.set_cons_zero, List.set_cons_succ, i64_w, i32_w]
      rfl
    refine pure_ (i := 9) (N := some 47) (v := ?_) (a' := ?_) #[true, true, true, true, true, true, true, true, true, true, false, false, false, false, false, false, false, false, false, false] rfl rfl (by kernel_rfl) (fun _ _ _ h => h) (Or.inl ⟨by rfl, ?_⟩) ?_ ?_
    rotate_left
    · intro w'
      go_simp
      with_reducible rfl
    rotate_left
    · simp only [Act.put, List.setIfInBounds_toArray, List.set_cons_zero, List.set_cons_succ, i64_w, i32_w]
      rfl
    refine pure_ (i := 10) (N := some 48) (v := ?_) (a' := ?_) #[true, true, true, true, true, true, true, true, true, true, true, false, false, false, false, false, false, false, false, false] rfl rfl (by kernel_rfl) (fun _ _ _ h => h) (Or.inl ⟨by rfl, ?_⟩) ?_ ?_
    rotate_left
    · intro w'
      go_simp
      with_reducible rfl
    rotate_left
    · simp only [Act.put, List.setIfInBounds_toArray, List.set_cons_zero, List.set_cons_succ, i64_w, i32_w]
      rfl
    refine pure_ (i := 12) (N := some 50) (v := ?_) (a' := ?_) #[true, true, true, true, true, true, true, true, true, true, true, false, true, false, false, false, false, false, false, false] rfl rfl (by kernel_rfl) (fun _ _ _ h => h) (Or.inl ⟨by rfl, ?_⟩) ?_ ?_
    rotate_left
    · intro w'
      go_simp
      with_reducible rfl
    rotate_left
    · simp only [Act.put, List.setIfInBounds_toArray, List.set_cons_zero, List.set_cons_succ, i64_w, i32_w]
      rfl
    refine pure_ (i := 13) (N := some 51) (v := ?_) (a' := ?_) #[true, true, true, true, true, true, true, true, true, true, true, false, true, true, false, false, false, false, false, false] rfl rfl (by kernel_rfl) (fun _ _ _ h => h) (Or.inl ⟨by rfl, ?_⟩) ?_ ?_
    rotate_left
    · intro w'
      go_simp
      with_reducible rfl
    rotate_left
    · simp only [Act.put, List.setIfInBounds_toArray, List.set_cons_zero, List.set_cons_succ, i64_w, i32_w]
      rfl
    refine pure_ (i := 14) (N := some 52) (v := ?_) (a' := ?_) #[true, true, true, true, true, true, true, true, true, true, true, false, true, true, true, false, false, false, false, false] rfl rfl (by kernel_rfl) (fun _ _ _ h => h) (Or.inl ⟨by rfl, ?_⟩) ?_ ?_
    rotate_left
    · intro w'
      go_simp
      with_reducible rfl
    rotate_left
    · simp only [Act.put, List.setIfInBounds_toArray, List.set_cons_zero, List.set_cons_succ, i64_w, i32_w]
      rfl
    refine pure_ (i := 15) (N := some 53) (v := ?_) (a' := ?_) #[true, true, true, true, true, true, true, true, true, true, true, false, true, true, true, true, false, false, false, false] rfl rfl (by kernel_rfl) (fun _ _ _ h => h) (Or.inl ⟨by rfl, ?_⟩) ?_ ?_
    rotate_left
    · intro w'
      go_simp
      with_reducible rfl
    rotate_left
    · simp only [Act.put, List.setIfInBounds_toArray, List.set_cons_zero, List.set_cons_succ, i64_w, i32_w]
      rfl
    refine take_ (i := 16) (N := some 54) (v := ?_) (a' := ?_) #[true, true, true, true, true, true, true, true, true, true, true, false, true, true, true, true, true, false, false, false] rfl rfl (by kernel_rfl) (fun _ _ _ h => h) (Or.inl ⟨by rfl, ?_⟩) hHeld ?_ ?_
    rotate_left
    · rintro w' s0
      go_simp
      with_reducible rfl
    rotate_left
    · simp only [Act.put, List.setIfInBounds_toArray, List.set_cons_zero, List.set_cons_succ, i64_w, i32_w]
      rfl
    refine one_ (i := 11) (N := some 49) #[true, true, true, true, true, true, true, true, true, true, true, true, true, true, true, true, true, false, false, false] rfl rfl (by kernel_rfl) (by decide) (fun K hK => ?_)
    refine goes_ Try.func18 (by kernel_rfl) rfl #[.int .i64 (x : Int)] (by rfl) rfl rfl (by simp only [List.map_toArray, List.map_cons, List.map_nil]; rfl) ?_
    refine (code_Ends.calls (x : Int) _ _ (ends_I _)).mono ?_
    rintro e W4 ⟨rfl, n5, rfl⟩
    refine ⟨_, rfl, ?_⟩
    refine hK.out _ _ hHeld (fun hHeld => ?_)
    clear hK K
    refine norm_ (a' := ?_) ?_ ?_
    rotate_left
    · show Act.put _ (some 49) _ = _
      simp only [Act.put, List.setIfInBounds_toArray, List.set_cons_zero, List.set_cons_succ, i64_w, i32_w]
      rfl
    refine one_ (i := 17) (N := some 55) #[true, true, true, true, true, true, true, true, true, true, true, true, true, true, true, true, true, true, false, false] rfl rfl (by kernel_rfl) (by decide) (fun K hK => ?_)
    refine goes_ Try.func18 (by kernel_rfl) rfl #[.int .i64 y.op] (by rfl) rfl rfl (by simp only [List.map_toArray, List.map_cons, List.map_nil]; rfl) ?_
    refine (code_Ends.calls y.op _ _ (ends_I _)).mono ?_
    rintro e W5 ⟨rfl, n6, rfl⟩
    refine ⟨_, rfl, ?_⟩
    refine hK.out _ _ hHeld (fun hHeld => ?_)
    clear hK K
    refine norm_ (a' := ?_) ?_ ?_
    rotate_left
    · show Act.put _ (some 55) _ = _
      simp only [Act.put, List.setIfInBounds_toArray, List.set_cons_zero, List.set_cons_succ, i64_w, i32_w]
      rfl
    have HB4 := Aside0.mk (pw_below_drewN (pw_below_drewN HB3.out n5) n6)
    have HR4 := Aside0.mk (Kd.R_drewN (Kd.R_drewN HR3.out n5) n6)
    have hX4 : ((W3.drewN n5).drewN n6).cell? ⟨g, k * 5, none⟩ = some (.int .i64 y.pc) := HX3.out
    clear HB3 HR3 HX3
    generalize (W3.drewN n5).drewN n6 = W6 at HB4 HR4 hX4 hHeld ⊢
    by_cases hee : endsI (x : Int) = endsI y.op
    · have he1 : (endsI (x : Int) == endsI y.op) = true := beq_iff_eq.2 hee
      have he2 : (endsI (x : Int) != endsI y.op) = false := bne_eq_false_iff_eq.2 hee
      have HEE := Aside0.mk hee
      clear hee
      refine pure_ (i := 18) (N := some 56) (v := ?_) (a' := ?_) #[true, true, true, true, true, true, true, true, true, true, true, true, true, true, true, true, true, true, true, false] rfl rfl (by kernel_rfl) (fun _ _ _ h => h) (Or.inl ⟨by rfl, ?_⟩) ?_ ?_
      rotate_left
      · intro w'
        go_simp
        with_reducible rfl
      rotate_left
      · simp only [Act.put, List.setIfInBounds_toArray, List.set_cons_zero, List.set_cons_succ, i64_w, i32_w]
        rfl
      refine pure_ (i := 19) (N := some 57) (v := ?_) (a' := ?_) #[true, true, true, true, true, true, true, true, true, true, true, true, true, true, true, true, true, true, true, true] rfl rfl (by kernel_rfl) (fun _ _ _ h => h) (Or.inl ⟨by rfl, ?_⟩) ?_ ?_
      rotate_left
      · intro w'
        go_simp
        with_reducible rfl
      rotate_left
      · simp only [Act.put, List.setIfInBounds_toArray, List.set_cons_zero, List.set_cons_succ, i64_w, i32_w]
        rfl
      refine done_ (by kernel_rfl) ?_
      clear hsz
      obtain ⟨hp0, hp1, hdec⟩ := Ct.decode_set HD.out HLK.out (x := UInt8.ofNat x) (by
        rw [toNat8 hx64]
        refine forms_link (by omega) HOP.out.2 ?_
        rw [← HOP.out.1]
        exact HFF.out) (by
        rw [toNat8 hx64]
        have h1 := (forms_links x (by omega)).2.2
        have h2 := (forms_links y.op.toNat HOP.out.2).2.2
        rw [← h1, ← h2, ← HOP.out.1]
        exact HEE.out)
      obtain ⟨p, hp⟩ := Int.eq_ofNat_of_zero_le hp0
      have hpn : y.pc.toNat = p := by rw [hp, Int.toNat_natCast]
      rw [hpn] at hp1 hdec
      rw [hp] at hX4
      have hps : p < s.size := by rw [size_of]; exact hp1
      have HDEC := Aside0.mk hdec
      clear hp0 hp1 hdec hp hpn hf1 hf2 he1 he2 HFF HEE
      have hconv := Lib.run_convert_string_bytes (P := Try.prog) W6 9 32 5 s Try.underlying9 Try.underlying32 Try.underlying5
      have hBb := bytes_below (Below.refl W6.heap.size W6) (Nat.le_refl _) 5 s
      have hX5 := (hBb.cell (p := ⟨g, k * 5, none⟩) (World.block_lt_of_cell? _ _ hX4)).trans hX4
      have HB5 := Aside0.mk (below_step HB4.out hBb)
      have HR5 := Aside0.mk (Kd.R_below (Kd.R_mono (ok' := fun q => q < W6.heap.size) (Kd.R_bound HR4.out) (fun q hq => hq.2.2.1)) hBb)
      have hle := HB4.out.size
      have hcp := Lib.bytesWorld_cell W6 5 s p hps
      have hfp := bytes_free W6 5 s p hps
      have HCE : Aside0 (∀ j, j < s.size → (Lib.bytesWorld W6 5 s).cell? ⟨W6.heap.size, j, none⟩ = some (.int .u8 (s.data.toList.getD j 0).toNat)) := ⟨fun j hj => Lib.bytesWorld_cell W6 5 s j hj⟩
      have hW6g : g < W6.heap.size := World.block_lt_of_cell? _ _ hX4
      have hbsz := Lib.bytesWorld_size W6 5 s
      generalize grownCap W6 s.size 0 5 = cap at hconv
      generalize hWb : Lib.bytesWorld W6 5 s = Wb at hconv hX5 HB5 HR5 hcp hfp HCE hbsz
      have HBS := Aside0.mk hbsz
      clear hWb hBb hX4 HB4 HR4 hHeld hbsz
      have hwx : IntKind.u8.wrap (x : Int) = (x : Int) := by rw [IntKind.wrap_u8]; omega
      have hpi0 : (0 : Int) ≤ (p : Int) := by omega
      have hpi1 : (p : Int) < (s.size : Int) := by omega
      generalize (↑(s.data.toList.getD p 0).toNat : Int) = v0 at hcp
      have hW7b : Below W6.heap.size Wb (Wb.setCell ⟨W6.heap.size, p, none⟩ (.int .u8 (x : Int))) := (Below.refl _ _).setCell (p := ⟨W6.heap.size, p, none⟩) (Nat.le_refl _) _
      have hcells : ∀ j, j < s.size → (Wb.setCell ⟨W6.heap.size, p, none⟩ (.int .u8 (x : Int))).cell? ⟨W6.heap.size, 0 + j, none⟩ = some (.int .u8 (((bytesOf s).set p (x : Int)).getD j 0)) := by
        intro j hj
        rw [Nat.zero_add, List.getD_eq_getElem?_getD, List.getElem?_set]
        by_cases hpj : p = j
        · subst hpj
          rw [if_pos rfl, if_pos (by rw [bytesOf_length]; exact hj)]
          exact World.cell?_setCell_same _ _ _ hcp
        · rw [if_neg hpj, World.cell?_setCell_other _ _ _ _ (by intro e; injection e with _ e2 _; exact hpj e2), HCE.out j hj, bytesOf, List.getElem?_map, List.getD_eq_getElem?_getD]
          have hjl : j < s.data.toList.length := by rw [data_length]; exact hj
          rw [List.getElem?_eq_getElem hjl]
          rfl
      have hstr := run_convert_bytes_arg (P := Try.prog) (Wb.setCell ⟨W6.heap.size, p, none⟩ (.int .u8 (x : Int))) 32 5 Try.underlying32 Try.underlying5 W6.heap.size 0 s.size cap ((bytesOf s).set p (x : Int)) (by rw [List.length_set, bytesOf_length]) hcells 9 Try.underlying9
      have htl : (strOfNums ((bytesOf s).set p (x : Int))).data.toList = s.data.toList.set p (UInt8.ofNat x) := by
        rw [strOfNums_data, List.map_set, bytesOf, List.map_map]
        have h1 : ((fun n : Int => UInt8.ofNat n.toNat) ∘ fun b : UInt8 => (b.toNat : Int)) = id := by
          funext b
          simp
        rw [h1, List.map_id]
        rfl
      have hts : (strOfNums ((bytesOf s).set p (x : Int))).size = s.size := by rw [strOfNums_size, List.length_set, bytesOf_length]
      have HB7 := Aside0.mk (HB5.out.setCell (p := ⟨W6.heap.size, p, none⟩) hle (.int .u8 (x : Int)))
      have HR7 := Aside0.mk (Kd.R_far (p := ⟨W6.heap.size, p, none⟩) HR5.out (fun q hq => Nat.ne_of_lt hq) (.int .u8 (x : Int)))
      generalize strOfNums ((bytesOf s).set p (x : Int)) = t at hstr htl hts
      have HTL := Aside0.mk htl
      have HTS := Aside0.mk hts
      clear htl hts hcells HCE HR5 hW7b
      go_wp2_with (go_at_call 15; fail)
      rw [← HTL.out] at HDEC
      have hszW : (Wb.setCell ⟨W6.heap.size, p, none⟩ (.int .u8 (x : Int))).heap.size = Wb.heap.size := by simp [World.setCell]
      refine (dec_ok (s := t) HDEC.out _ (by rw [HTS.out]; omega)).mono ?_
      rintro e W8 ⟨A2, k2, rfl, hR2, hb8⟩
      rw [List.length_set] at hR2 ⊢
      have hX8 : W8.cell? ⟨g, k * 5, none⟩ = some (.int .i64 (p : Int)) := by
        rw [hb8.cell (p := ⟨g, k * 5, none⟩) (by rw [hszW, HBS.out]; show g < W6.heap.size + 1; omega), World.cell?_setCell_far _ _ _ _ (by show W6.heap.size ≠ g; omega)]
        exact hX5
      have HB8 := Aside0.mk (below_then HB7.out HB7.out.size hb8)
      have hr8 := Kd.R_below HR7.out hb8
      have hr9 := Kd.R_mono (ok' := fun q => W6.heap.size ≤ q) (Kd.R_bound hR2) (fun q hq => by have := hq.2.1; rw [hszW, HBS.out] at this; omega)
      clear hX5 hcp hfp hconv hstr hR2 hb8 HB5 HB7 HR7 hszW HTL HTS HDEC
      obtain ⟨g', c', e', _, _, cells, hblk⟩ := Kd.R_form hr8 (by rw [List.length_map]; exact hlp)
      injection e' with e' e9 e10
      cases e'
      have hfz := blk_frozen hblk (k * 5 + 1)
      have hC8 := (Kd.R_reads' hr8).2.2
      obtain ⟨ad, A3', c3', A4', c4', e', hy0, hy1, hy2, hy3, hy4, hm3, hj3, hm4, hj4⟩ := at_T57 hC8 (k : Int) (by omega) (by rw [List.length_map]; omega)
      cases e'
      rw [Int.toNat_natCast, add_plain] at hy1
      have hkm : k < (l.map insS).length := by rw [List.length_map]; exact hkl
      have hcs := C_setOp hr8 k hkm (x : Int)
      have hr10 := Kd.R_far (p := ⟨g, k * 5 + 1, none⟩) hr9 (fun q hq => by show q ≠ g; omega) (.int .i64 (x : Int))
      have hc10 := Kd.R_reads' hr10
      have hL : (l.map insS).set k { (l.map insS)[k] with f1 := (x : Int) } = (l.set k { y with op := ((UInt8.ofNat x).toNat : Int) }).map insS := by
        rw [List.map_set, toNat8 hx64]
        congr 1
        rw [List.getElem_map]
        have hyl := (List.getElem?_eq_some_iff.1 HLK.out).2
        rw [hyl]
        rfl
      rw [hL] at hcs
      have hll : ((l.set k { y with op := ((UInt8.ofNat x).toNat : Int) }).map insS).length = l.length := by rw [List.length_map, List.length_set]
      have hbd : ∀ q ∈ (l.set k { y with op := ((UInt8.ofNat x).toNat : Int) }).map insS, q.f3.length ≤ 1000000 ∧ q.f4.length ≤ 1000000 := by
        intro q hq
        obtain ⟨z, hz, rfl⟩ := List.mem_map.1 hq
        rcases List.mem_or_eq_of_mem_set hz with hz | rfl
        · exact decode_bound HD.out z hz
        · exact decode_bound HD.out y (List.mem_of_getElem? HLK.out)
      have hcap := (Kd.R_reads' hr8).2.1
      have hcall := cruciblelaw4_same.calls 3000000 (some ⟨g, 0, none⟩) c ((l.set k { y with op := ((UInt8.ofNat x).toNat : Int) }).map insS) A2 k2 ((l.set k { y with op := ((UInt8.ofNat x).toNat : Int) }).map insS) true (W8.setCell ⟨g, k * 5 + 1, none⟩ (.int .i64 (x : Int))) (by rw [hll]; exact hcs) (by rw [hll]; exact hcap) hc10.2.2 (by rw [hll]; exact hc10.2.1) (same_same _ (by rw [hll]; have := size_of s; have := decode_len HD.out; omega) hbd)
      rw [hll] at hcall
      have HCALL := Aside0.mk hcall
      have HB9 := Aside0.mk (HB8.out.setCell (p := ⟨g, k * 5 + 1, none⟩) hgb (.int .i64 (x : Int)))
      clear e9 e10 hblk hC8 hy0 hy2 hy3 hy4 hm3 hj3 hm4 hj4 hcs hr10 hc10 hL hll hbd hcap hcall hr8 hr9 HB8
      go_wp2_with (go_at_call 19; fail)
      refine HCALL.out.mono ?_
      rintro e W10 ⟨rfl, n7, rfl⟩
      have HB10 := Aside0.mk (pw_below_drewN HB9.out n7)
      clear hy1 hfz hX8
      go_wp2
      go_ret
      exact ⟨rfl, HB10.out⟩
    · have he1 : (endsI (x : Int) == endsI y.op) = false := beq_eq_false_iff_ne.2 hee
      have he2 : (endsI (x : Int) != endsI y.op) = true := bne_iff_ne.2 hee
      clear hee
      refine pure_ (i := 18) (N := some 56) (v := ?_) (a' := ?_) #[true, true, true, true, true, true, true, true, true, true, true, true, true, true, true, true, true, true, true, false] rfl rfl (by kernel_rfl) (fun _ _ _ h => h) (Or.inl ⟨by rfl, ?_⟩) ?_ ?_
      rotate_left
      · intro w'
        go_simp
        with_reducible rfl
      rotate_left
      · simp only [Act.put, List.setIfInBounds_toArray, List.set_cons_zero, List.set_cons_succ, i64_w, i32_w]
        rfl
      refine pure_ (i := 19) (N := some 57) (v := ?_) (a' := ?_) #[true, true, true, true, true, true, true, true, true, true, true, true, true, true, true, true, true, true, true, true] rfl rfl (by kernel_rfl) (fun _ _ _ h => h) (Or.inl ⟨by rfl, ?_⟩) ?_ ?_
      rotate_left
      · intro w'
        go_simp
        with_reducible rfl
      rotate_left
      · simp only [Act.put, List.setIfInBounds_toArray, List.set_cons_zero, List.set_cons_succ, i64_w, i32_w]
        rfl
      refine done_ (by kernel_rfl) ?_
      go_wp2
      go_ret
      exact ⟨rfl, HB4.out⟩
  · have hf1 : (formI (x : Int) == formI y.op) = false := beq_eq_false_iff_ne.2 hff
    have hf2 : (formI (x : Int) != formI y.op) = true := bne_iff_ne.2 hff
    clear hff
    refine pure_ (i := 8) (N := some 46) (v := ?_) (a' := ?_) #[true, true, true, true, true, true, true, true, true, false, false, false, false, false, false, false, false, false, false, false] rfl rfl (by kernel_rfl) (fun _ _ _ h => h) (Or.inl ⟨by rfl, ?_⟩) ?_ ?_
    rotate_left
    · intro w'
      go_simp
      with_reducible rfl
    rotate_left
    · simp only [Act.put, List.setIfInBounds_toArray, List.set_cons_zero, List.set_cons_succ, i64_w, i32_w]
      rfl
    refine pure_ (i := 9) (N := some 47) (v := ?_) (a' := ?_) #[true, true, true, true, true, true, true, true, true, true, false, false, false, false, false, false, false, false, false, false] rfl rfl (by kernel_rfl) (fun _ _ _ h => h) (Or.inl ⟨by rfl, ?_⟩) ?_ ?_
    rotate_left
    · intro w'
      go_simp
      with_reducible rfl
    rotate_left
    · simp only [Act.put, List.setIfInBounds_toArray, List.set_cons_zero, List.set_cons_succ, i64_w, i32_w]
      rfl
    refine pure_ (i := 10) (N := some 48) (v := undef) (a' := ?_) #[true, true, true, true, true, true, true, true, true, true, true, false, false, false, false, false, false, false, false, false] rfl rfl (by kernel_rfl) (fun _ _ _ h => h) (Or.inr ⟨by rfl, rfl⟩) ?_ ?_
    rotate_left
    · simp only [Act.put, List.setIfInBounds_toArray, List.set_cons_zero, List.set_cons_succ, i64_w, i32_w]
      rfl
    refine pure_ (i := 11) (N := some 49) (v := undef) (a' := ?_) #[true, true, true, true, true, true, true, true, true, true, true, true, false, false, false, false, false, false, false, false] rfl rfl (by kernel_rfl) (fun _ _ _ h => h) (Or.inr ⟨by rfl, rfl⟩) ?_ ?_
    rotate_left
    · simp only [Act.put, List.setIfInBounds_toArray, List.set_cons_zero, List.set_cons_succ, i64_w, i32_w]
      rfl
    refine pure_ (i := 12) (N := some 50) (v := undef) (a' := ?_) #[true, true, true, true, true, true, true, true, true, true, true, true, true, false, false, false, false, false, false, false] rfl rfl (by kernel_rfl) (fun _ _ _ h => h) (Or.inr ⟨by rfl, rfl⟩) ?_ ?_
    rotate_left
    · simp only [Act.put, List.setIfInBounds_toArray, List.set_cons_zero, List.set_cons_succ, i64_w, i32_w]
      rfl
    refine pure_ (i := 13) (N := some 51) (v := undef) (a' := ?_) #[true, true, true, true, true, true, true, true, true, true, true, true, true, true, false, false, false, false, false, false] rfl rfl (by kernel_rfl) (fun _ _ _ h => h) (Or.inr ⟨by rfl, rfl⟩) ?_ ?_
    rotate_left
    · simp only [Act.put, List.setIfInBounds_toArray, List.set_cons_zero, List.set_cons_succ, i64_w, i32_w]
      rfl
    refine pure_ (i := 14) (N := some 52) (v := undef) (a' := ?_) #[true, true, true, true, true, true, true, true, true, true, true, true, true, true, true, false, false, false, false, false] rfl rfl (by kernel_rfl) (fun _ _ _ h => h) (Or.inr ⟨by rfl, rfl⟩) ?_ ?_
    rotate_left
    · simp only [Act.put, List.setIfInBounds_toArray, List.set_cons_zero, List.set_cons_succ, i64_w, i32_w]
      rfl
    refine pure_ (i := 15) (N := some 53) (v := undef) (a' := ?_) #[true, true, true, true, true, true, true, true, true, true, true, true, true, true, true, true, false, false, false, false] rfl rfl (by kernel_rfl) (fun _ _ _ h => h) (Or.inr ⟨by rfl, rfl⟩) ?_ ?_
    rotate_left
    · simp only [Act.put, List.setIfInBounds_toArray, List.set_cons_zero, List.set_cons_succ, i64_w, i32_w]
      rfl
    refine pure_ (i := 16) (N := some 54) (v := undef) (a' := ?_) #[true, true, true, true, true, true, true, true, true, true, true, true, true, true, true, true, true, false, false, false] rfl rfl (by kernel_rfl) (fun _ _ _ h => h) (Or.inr ⟨by rfl, rfl⟩) ?_ ?_
    rotate_left
    · simp only [Act.put, List.setIfInBounds_toArray, List.set_cons_zero, List.set_cons_succ, i64_w, i32_w]
      rfl
    refine pure_ (i := 17) (N := some 55) (v := undef) (a' := ?_) #[true, true, true, true, true, true, true, true, true, true, true, true, true, true, true, true, true, true, false, false] rfl rfl (by kernel_rfl) (fun _ _ _ h => h) (Or.inr ⟨by rfl, rfl⟩) ?_ ?_
    rotate_left
    · simp only [Act.put, List.setIfInBounds_toArray, List.set_cons_zero, List.set_cons_succ, i64_w, i32_w]
      rfl
    refine pure_ (i := 18) (N := some 56) (v := undef) (a' := ?_) #[true, true, true, true, true, true, true, true, true, true, true, true, true, true, true, true, true, true, true, false] rfl rfl (by kernel_rfl) (fun _ _ _ h => h) (Or.inr ⟨by rfl, rfl⟩) ?_ ?_
    rotate_left
    · simp only [Act.put, List.setIfInBounds_toArray, List.set_cons_zero, List.set_cons_succ, i64_w, i32_w]
      rfl
    refine pure_ (i := 19) (N := some 57) (v := ?_) (a' := ?_) #[true, true, true, true, true, true, true, true, true, true, true, true, true, true, true, true, true, true, true, true] rfl rfl (by kernel_rfl) (fun _ _ _ h => h) (Or.inl ⟨by rfl, ?_⟩) ?_ ?_
    rotate_left
    · intro w'
      go_simp
      with_reducible rfl
    rotate_left
    · simp only [Act.put, List.setIfInBounds_toArray, List.set_cons_zero, List.set_cons_succ, i64_w, i32_w]
      rfl
    refine done_ (by kernel_rfl) ?_
    go_wp2
    go_ret
    exact ⟨rfl, HB3.out⟩
end Go.Proofs.Ytnbjhfleoodncaa.X
