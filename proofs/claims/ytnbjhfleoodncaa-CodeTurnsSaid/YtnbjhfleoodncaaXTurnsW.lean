/- CodeTurns, walked: it answers true. Conditions: the text's length, the numbers of their kind. -/
import Derived.Test.YtnbjhfleoodncaaXShownC
import Derived.Test.YtnbjhfleoodncaaXc6
namespace Go.Proofs.Ytnbjhfleoodncaa.X
open Go.RowKit Go.Shelf Go.Proofs.YtnbjhfleoodncaaW.PrintWords Go.Proofs.YtnbjhfleoodncaaW.PrintLast Go.Proofs.YtnbjhfleoodncaaW.PrintMore
set_option linter.unusedVariables false
set_option linter.unusedSimpArgs false

theorem pick_range (a : Int) (n : Nat) (hn : 0 < n) (h0 : -9223372036854775808 ≤ a) (h1 : a ≤ 9223372036854775807) : ∃ r : Nat, cruciblelaw4_pick.f a (n : Int) = some (r : Int) ∧ r < n := by
  unfold cruciblelaw4_pick.f
  by_cases ha : a < 0
  · rw [if_pos ha, if_neg (by omega)]
    have e : wrap64 (-(wrap64 (a + 1))) = -(a + 1) := by
      unfold wrap64
      omega
    rw [e, Int.tmod_eq_emod_of_nonneg (by omega)]
    have h2 := Int.emod_nonneg (-(a + 1)) (show (n : Int) ≠ 0 by omega)
    have h3 := Int.emod_lt_of_pos (-(a + 1)) (show (0 : Int) < n by omega)
    exact ⟨((-(a + 1)) % (n : Int)).toNat, by rw [Int.toNat_of_nonneg h2], by omega⟩
  · rw [if_neg ha, if_neg (by omega), Int.tmod_eq_emod_of_nonneg (by omega)]
    have h2 := Int.emod_nonneg a (show (n : Int) ≠ 0 by omega)
    have h3 := Int.emod_lt_of_pos a (show (0 : Int) < n by omega)
    exact ⟨(a % (n : Int)).toNat, by rw [Int.toNat_of_nonneg h2], by omega⟩
theorem sameInts_refl (l : List Int) (hl : l.length ≤ 1000000) (d : Nat) : ∀ (k : Nat) (i : Nat), i + d = l.length → d < k → cruciblelaw4_sameInts.l0 k l l (i : Int) = some true := by
  induction d with
  | zero =>
    intro k i hi hk
    obtain ⟨k, rfl⟩ : ∃ m, k = m + 1 := ⟨k - 1, by omega⟩
    simp only [cruciblelaw4_sameInts.l0]
    rw [if_neg (by omega)]
  | succ d ih =>
    intro k i hi hk
    obtain ⟨k, rfl⟩ : ∃ m, k = m + 1 := ⟨k - 1, by omega⟩
    simp only [cruciblelaw4_sameInts.l0]
    rw [if_pos (by omega), if_pos (by omega), if_pos (by omega), if_true, show wrap64 ((i : Int) + 1) = ((i + 1 : Nat) : Int) by unfold wrap64; omega]
    exact ih k (i + 1) (by omega) (by omega)
theorem sameInts_same (l : List Int) (hl : l.length ≤ 1000000) (k : Nat) (hk : l.length < k) : cruciblelaw4_sameInts.f k l l = some true := by
  unfold cruciblelaw4_sameInts.f
  rw [if_pos rfl]
  exact sameInts_refl l hl l.length k 0 (by omega) hk
theorem same_refl (l : List S57) (hl : l.length ≤ 1000000) (hr : ∀ x ∈ l, x.f3.length ≤ 1000000 ∧ x.f4.length ≤ 1000000) (d : Nat) : ∀ (k : Nat) (i : Nat), i + d = l.length → d + 1000001 < k → cruciblelaw4_same.l0 k l l (i : Int) = some true := by
  induction d with
  | zero =>
    intro k i hi hk
    obtain ⟨k, rfl⟩ : ∃ m, k = m + 1 := ⟨k - 1, by omega⟩
    simp only [cruciblelaw4_same.l0]
    rw [if_neg (by omega)]
  | succ d ih =>
    intro k i hi hk
    obtain ⟨k, rfl⟩ : ∃ m, k = m + 1 := ⟨k - 1, by omega⟩
    have hx : rd_T57 l (i : Int) ∈ l := by
      unfold rd_T57
      rw [Int.toNat_natCast, List.getD_eq_getElem?_getD, List.getElem?_eq_getElem (by omega)]
      exact List.getElem_mem _
    obtain ⟨h3, h4⟩ := hr _ hx
    simp only [cruciblelaw4_same.l0]
    rw [if_pos (by omega), if_pos (by omega), if_pos (by omega), sameInts_same _ h3 k (by omega), Option.bind_some, sameInts_same _ h4 k (by omega), Option.bind_some]
    simp only [if_true]
    rw [show wrap64 ((i : Int) + 1) = ((i + 1 : Nat) : Int) by unfold wrap64; omega]
    exact ih k (i + 1) (by omega) (by omega)
theorem same_same (l : List S57) (hl : l.length ≤ 1000000) (hr : ∀ x ∈ l, x.f3.length ≤ 1000000 ∧ x.f4.length ≤ 1000000) : cruciblelaw4_same.f 3000000 l l = some true := by
  unfold cruciblelaw4_same.f
  rw [if_pos rfl]
  exact same_refl l hl hr l.length 3000000 0 (by omega) (by omega)

/-- an element's op is stored: what is read then -/
theorem C_setOp {W : World} {base : Nat} {ok : Nat → Prop} {g n cap : Nat} {xs : List S57} (h : Kd.R k57 57 W base ok (.slice (some ⟨g, 0, none⟩) n cap) xs) (k : Nat) (hk : k < xs.length) (x : Int) :
    Kd.C k57 (W.setCell ⟨g, k * 5 + 1, none⟩ (.int .i64 x)) (some ⟨g, 0, none⟩) n (xs.set k { xs[k] with f1 := x }) := by
  obtain ⟨h0, hown⟩ := h
  obtain ⟨A, c, he, hl, hr⟩ := hown.reads
  injection he with e1 e2 e3
  subst e1
  subst e2
  subst e3
  refine ⟨by rw [List.length_set], hr.2.1, fun hn => ?_⟩
  obtain ⟨ad, e, hc⟩ := hr.2.2 hn
  cases e
  refine ⟨_, rfl, fun j p hj => ?_⟩
  rw [List.getElem?_set] at hj
  by_cases hjk : k = j
  · subst hjk
    rw [if_pos rfl, if_pos hk] at hj
    cases hj
    obtain ⟨c, hlc, hM, hcell⟩ := hc k _ (List.getElem?_eq_getElem hk)
    obtain ⟨v3, v4, rfl, g3, g4⟩ := k57_openM hM
    have hM2 := k57_mkM _ _ _ ({ xs[k] with f1 := x } : S57) (Kd.R_far (p := ⟨g, k * 5 + 1, none⟩) g3 (fun q hq e => hq.2 (by rw [e]; rfl)) (.int .i64 x)) (Kd.R_far (p := ⟨g, k * 5 + 1, none⟩) g4 (fun q hq e => hq.2 (by rw [e]; rfl)) (.int .i64 x))
    refine ⟨_, rfl, k57.K_of_M hM2, fun i u hi => ?_⟩
    have hold := hcell i
    have h5 : k57.sz = 5 := rfl
    rw [add_plain, h5] at hold ⊢
    match i, hi with
    | 0, hi =>
      rw [World.cell?_setCell_other _ _ _ _ (by intro e; injection e with _ e2 _; omega)]
      exact hold u hi
    | 1, hi =>
      cases hi
      exact World.cell?_setCell_same _ _ _ (hold _ rfl)
    | 2, hi =>
      rw [World.cell?_setCell_other _ _ _ _ (by intro e; injection e with _ e2 _; omega)]
      exact hold u hi
    | 3, hi =>
      rw [World.cell?_setCell_other _ _ _ _ (by intro e; injection e with _ e2 _; omega)]
      exact hold u hi
    | 4, hi =>
      rw [World.cell?_setCell_other _ _ _ _ (by intro e; injection e with _ e2 _; omega)]
      exact hold u hi
    | i + 5, hi => simp at hi
  · rw [if_neg hjk] at hj
    obtain ⟨c, hlc, hM, hcell⟩ := hc j p hj
    refine ⟨c, hlc, k57.K_of_M (Kd.M_far (p := ⟨g, k * 5 + 1, none⟩) hM (fun q hq e => hq.2 (by rw [e]; rfl)) _), fun i u hi => ?_⟩
    have hlt : i < 5 := by
      have : i < c.length := (List.getElem?_eq_some_iff.1 hi).1
      have h5 : k57.sz = 5 := rfl
      omega
    have hold := hcell i u hi
    rw [add_plain] at hold ⊢
    have h5 : k57.sz = 5 := rfl
    rw [h5] at hold ⊢
    rw [World.cell?_setCell_other _ _ _ _ (by intro e; injection e with _ e2 _; omega)]
    exact hold

/-- two ops whose forms and ends are compared -/
def formI (n : Int) : Int := if 0 ≤ n ∧ n ≤ 63 then formOf n.toNat else 0
theorem form_I (n : Int) : code_Form.f n = some (formI n) := rfl
def endsI (n : Int) : Bool := decide (n = 20 ∨ n = 30 ∨ n = 44 ∨ n = 45 ∨ n = 46)
theorem ends_I (n : Int) : code_Ends.f n = some (endsI n) := by
  unfold code_Ends.f endsI
  by_cases h1 : n = 20
  · simp [h1]
  by_cases h2 : n = 30
  · simp [h2]
  by_cases h3 : n = 44
  · simp [h3]
  by_cases h4 : n = 45
  · simp [h4]
  by_cases h5 : n = 46
  · simp [h5]
  rw [if_neg h1, if_neg h2, if_neg h3, if_neg h4, if_neg h5]
  simp [h1, h2, h3, h4, h5]
theorem forms_links : ∀ n : Nat, n < 256 → (formI (n : Int) = match Ct.form n with | 0 => 0 | 1 => 45 | 2 => 98 | 3 => 110 | 4 => 106 | _ => 115) ∧ Ct.form n ≤ 5 ∧ endsI (n : Int) = Ct.ends n := by decide +kernel
theorem forms_link {n m : Nat} (hn : n < 256) (hm : m < 256) (h : formI (n : Int) = formI (m : Int)) : Ct.form n = Ct.form m := by
  obtain ⟨h1, h2, _⟩ := forms_links n hn
  obtain ⟨h3, h4, _⟩ := forms_links m hm
  rw [h1, h3] at h
  generalize Ct.form n = a at h h2
  generalize Ct.form m = b at h h4
  have ha : a = 0 ∨ a = 1 ∨ a = 2 ∨ a = 3 ∨ a = 4 ∨ a = 5 := by omega
  have hb : b = 0 ∨ b = 1 ∨ b = 2 ∨ b = 3 ∨ b = 4 ∨ b = 5 := by omega
  rcases ha with rfl | rfl | rfl | rfl | rfl | rfl <;> rcases hb with rfl | rfl | rfl | rfl | rfl | rfl <;> first | rfl | (exact absurd h (by decide))
theorem reads_err_ne : ∀ (f : Nat) (s : List UInt8) (pc er : Int), Ct.reads f s pc = .error er → er ≠ 0
  | 0, _, _, _, h => by cases h
  | f + 1, s, pc, er, h => by
    by_cases hs : s = []
    · rw [Ct.reads, if_pos hs] at h
      cases h
    · rw [reads_step f s pc hs] at h
      cases hr : Ct.read s pc with
      | error e =>
        rw [hr] at h
        cases h
        have h1 := (read_err hr).1
        intro h0
        rw [h0] at h1
        cases h1
      | ok p =>
        obtain ⟨x, r⟩ := p
        rw [hr] at h
        dsimp only at h
        cases hy : Ct.reads f r (pc + ((s.length : Int) - r.length)) with
        | error e =>
          rw [hy] at h
          cases h
          exact reads_err_ne f r _ _ hy
        | ok l => rw [hy] at h; cases h
theorem decode_err_ne {s : List UInt8} {er : Int} (h : Ct.decode s = .error er) : er ≠ 0 := by
  unfold Ct.decode at h
  split at h
  · cases h; decide
  · split at h
    · cases h; decide
    · split at h
      · rename_i e hr
        cases h
        exact reads_err_ne _ _ _ _ hr
      · split at h
        · cases h
        · rename_i h0
          cases h
          exact h0
theorem size_le_of_ok {s : ByteArray} {l : List Ct.Ins} (h : Ct.decode s.data.toList = .ok l) : 0 < s.size ∧ s.size ≤ 4096 := by
  have hz := size_of s
  unfold Ct.decode at h
  split at h
  · cases h
  · rename_i h1
    split at h
    · cases h
    · have : 0 < s.data.toList.length := List.length_pos_iff.2 h1
      omega
set_option maxRecDepth 100000 in
set_option maxHeartbeats 4000000 in
theorem turns_err (s : ByteArray) (at_ op er : Int) (w : World) (hm : s.size ≤ 9223372036854775807) (hd : Ct.decode s.data.toList = .error er) (her : er ≠ 0) :
    Calls Try.prog 5 #[.string s, .int .i64 at_, .int .i64 op] w fun e w' => e = .returned (.bool true) ∧ Below w.heap.size w w' := by
  have e1 : (er == 0) = false := beq_eq_false_iff_ne.2 her
  have e2 : (er != 0) = true := bne_iff_ne.2 her
  have HD := Aside0.mk hd
  clear hd her
  go_enter Try.func5, Try.ntmps5
  go_wp2_with (go_at_call 14; fail)
  refine (shownC_calls _).mono ?_
  rintro e w1 ⟨rfl, hb1⟩
  go_wp2_with (go_at_call 15; fail)
  refine (dec_err HD.out _ hm).mono ?_
  rintro e w2 ⟨rfl, hb2⟩
  have HB := Aside0.mk (below_step hb1 hb2)
  clear hb1 hb2
  go_wp2
  go_ret
  exact ⟨rfl, HB.out⟩
end Go.Proofs.Ytnbjhfleoodncaa.X
