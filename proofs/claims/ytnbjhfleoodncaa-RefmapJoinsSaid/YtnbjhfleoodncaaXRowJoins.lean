/- RefmapJoins answers true for every input, and leaves its arguments as they were. Conditions: none. -/
import Derived.Test.YtnbjhfleoodncaaRows
import Derived.Test.YtnbjhfleoodncaaXx3
import Derived.Test.YtnbjhfleoodncaaXJoins
import Derived.Test.YtnbjhfleoodncaaXOpen
import Derived.WalkKit
import Derived.ProofKit
import Derived.OpenShut
import Derived.ShutString
import Derived.ChangeOld
import Derived.Below
import Derived.SizedLaws
namespace Go.Proofs.Ytnbjhfleoodncaa.X
open Go.RowKit Go.Shelf Go.Proofs.YtnbjhfleoodncaaW.PrintWords Go.Proofs.YtnbjhfleoodncaaW.PrintLast Go.Proofs.YtnbjhfleoodncaaW.PrintMore

theorem pack_ok (l : List S38) (h1 : ¬ 4096 < l.length) (h2 : l.all shortB = true) : refmap_Pack.f l = some (strOfNums (packTo l l.length), 0) := by
  unfold refmap_Pack.f
  rw [if_neg h1, if_pos h2]
theorem pack_not (l : List S38) (h : 4096 < l.length ∨ l.all shortB ≠ true) : ∃ e : Int, refmap_Pack.f l = some (⟨#[]⟩, e) ∧ e ≠ 0 := by
  unfold refmap_Pack.f
  by_cases h1 : 4096 < l.length
  · rw [if_pos h1]
    exact ⟨3, rfl, by decide⟩
  · rw [if_neg h1, if_neg (by rcases h with h | h; exact absurd h h1; exact h)]
    exact ⟨2, rfl, by decide⟩
theorem str2_size (a b : Int) (ys : List Int) : (strOfNums (a :: b :: ys)).size = ys.length + 2 := by
  rw [str_def]
  simp [ByteArray.size]
theorem packTo_size (l : List S38) (h1 : ¬ 4096 < l.length) (h2 : l.all shortB = true) : 2 ≤ (strOfNums (packTo l l.length)).size ∧ (strOfNums (packTo l l.length)).size ≤ 100000 := by
  have h3 := packTo_length l l.length (Nat.le_refl _) (fun j hj _ => (shortB_iff _).1 (List.all_eq_true.1 h2 _ (List.getElem_mem hj)))
  have hs : (strOfNums (packTo l l.length)).size = (packTo l l.length).length := by
    rw [str_def]
    simp [ByteArray.size]
  have h4 : (packTo l l.length).length = (encs l).length + 2 := by
    rw [packTo_all]
    simp [hd2]
  omega
theorem empty_bytes : (⟨#[]⟩ : ByteArray).toList = [] := by rw [ByteArray.toList_eq]

theorem joins_of (k : Nat) (l0 : List (List Bool)) (l1 : List Int) (l2 : List (List Bool)) (a b : List S38) (a' b' : List S43) (ha : cruciblelaw12_maps.f k l0 l1 = some (a, a')) (hb : cruciblelaw12_maps.f k l2 l1 = some (b, b')) (hal : a.length ≤ 5000) (hbl : b.length ≤ 5000) : cruciblelaw12_RefmapJoins.f k l0 l1 l2 = some true := by
  have hs : cruciblelaw12_shown.f = some true := rfl
  unfold cruciblelaw12_RefmapJoins.f
  rw [hs, Option.bind_some, if_pos rfl, ha, Option.bind_some, hb, Option.bind_some]
  dsimp only
  have hlen : ([] : List S38).length + a.length < 2932031007402 := by rw [List.length_nil]; omega
  have hlen2 : (([] : List S38) ++ a).length + b.length < 2932031007402 := by rw [List.nil_append]; omega
  by_cases hA : 4096 < a.length ∨ a.all shortB ≠ true
  · obtain ⟨e, he, he0⟩ := pack_not a hA
    have hAB : 4096 < (a ++ b).length ∨ (a ++ b).all shortB ≠ true := by
      rcases hA with h | h
      · exact .inl (by rw [List.length_append]; omega)
      · exact .inr (by rw [List.all_append]; cases hx : a.all shortB; simp; exact absurd hx h)
    obtain ⟨g, hg, _⟩ := pack_not (a ++ b) hAB
    have hy : refmap_Pack.f b = some (if 4096 < b.length then (⟨#[]⟩, 3) else if b.all shortB = true then (strOfNums (packTo b b.length), 0) else (⟨#[]⟩, 2)) := rfl
    generalize (if 4096 < b.length then ((⟨#[]⟩, 3) : ByteArray × Int) else if b.all shortB = true then (strOfNums (packTo b b.length), 0) else (⟨#[]⟩, 2)) = y at hy
    rw [he, Option.bind_some, hy, Option.bind_some, Option.bind_some, if_pos hlen, Option.bind_some, if_pos hlen2, List.nil_append, hg, Option.bind_some]
    dsimp only
    rw [if_neg he0, empty_bytes]
    rfl
  · by_cases hB : 4096 < b.length ∨ b.all shortB ≠ true
    · obtain ⟨e, he, he0⟩ := pack_not b hB
      have hAB : 4096 < (a ++ b).length ∨ (a ++ b).all shortB ≠ true := by
        rcases hB with h | h
        · exact .inl (by rw [List.length_append]; omega)
        · exact .inr (by rw [List.all_append]; cases hx : b.all shortB; simp; exact absurd hx h)
      obtain ⟨g, hg, _⟩ := pack_not (a ++ b) hAB
      rw [pack_ok a (fun h => hA (.inl h)) (Classical.not_not.1 fun h => hA (.inr h)), Option.bind_some, he, Option.bind_some, Option.bind_some, if_pos hlen, Option.bind_some, if_pos hlen2, List.nil_append, hg, Option.bind_some]
      dsimp only
      rw [if_pos rfl, if_neg he0, empty_bytes]
      rfl
    · have hA1 : ¬ 4096 < a.length := fun h => hA (.inl h)
      have hA2 : a.all shortB = true := Classical.not_not.1 fun h => hA (.inr h)
      have hB1 : ¬ 4096 < b.length := fun h => hB (.inl h)
      have hB2 : b.all shortB = true := Classical.not_not.1 fun h => hB (.inr h)
      have hw : wrap64 ((a.length : Int) + (b.length : Int)) = (a.length : Int) + (b.length : Int) := by unfold wrap64; omega
      rw [pack_ok a hA1 hA2, Option.bind_some, pack_ok b hB1 hB2, Option.bind_some, Option.bind_some, if_pos hlen, Option.bind_some, if_pos hlen2, List.nil_append]
      by_cases hn : a.length + b.length > 4096
      · obtain ⟨g, hg, _⟩ := pack_not (a ++ b) (.inl (by rw [List.length_append]; omega))
        rw [hg, Option.bind_some]
        dsimp only
        rw [if_pos rfl, if_pos rfl, if_pos (by rw [hw]; omega)]
      · rw [pack_ok (a ++ b) (by rw [List.length_append]; omega) (by rw [List.all_append, hA2, hB2]; rfl), Option.bind_some]
        dsimp only
        rw [if_pos rfl, if_pos rfl, if_neg (by rw [hw]; omega), if_pos rfl, Option.bind_some]
        obtain ⟨x1, x2⟩ := packTo_size a hA1 hA2
        obtain ⟨y1, y2⟩ := packTo_size b hB1 hB2
        have hj := join_eq a b (by omega)
        have hds : ∀ p q : Int, (strOfNums [p, q]).size = 2 := fun p q => rfl
        have hd := hds ((wrap64 (Int.tdiv (wrap64 ((a.length : Int) + (b.length : Int))) 256)) % 256) ((Int.tmod (wrap64 ((a.length : Int) + (b.length : Int))) 256) % 256)
        rw [← hj]
        generalize strOfNums (packTo (a ++ b) (a ++ b).length) = Z at *
        generalize strOfNums (packTo a a.length) = X at *
        generalize strOfNums (packTo b b.length) = Y at *
        generalize strOfNums [(wrap64 (Int.tdiv (wrap64 ((a.length : Int) + (b.length : Int))) 256)) % 256, (Int.tmod (wrap64 ((a.length : Int) + (b.length : Int))) 256) % 256] = D at *
        have e1 : (X.extract 2 X.size).size = X.size - 2 := by rw [ByteArray.size_extract, Nat.min_self]
        have e2 : (Y.extract 2 Y.size).size = Y.size - 2 := by rw [ByteArray.size_extract, Nat.min_self]
        have g1 : (2 : Int) ≤ (X.size : Int) := by omega
        have g2 : D.size + (X.extract 2 X.size).size ≤ 9223372036854775807 := by omega
        have g3 : (2 : Int) ≤ (Y.size : Int) := by omega
        have g4 : (D ++ X.extract 2 X.size).size + (Y.extract 2 Y.size).size ≤ 9223372036854775807 := by rw [ByteArray.size_append]; omega
        rw [if_pos g1, if_pos g2, if_pos g3, if_pos g4]
        exact congrArg some (beq_self_eq_true _)
theorem joins_true (l0 : List (List Bool)) (l1 : List Int) (l2 : List (List Bool)) (hr0 : ∀ x ∈ l0, x.length ≤ 9223372036854775807) (hr2 : ∀ x ∈ l2, x.length ≤ 9223372036854775807) (hi : ∀ x ∈ l1, I64 x) : ∃ k, cruciblelaw12_RefmapJoins.f k l0 l1 l2 = some true := by
  obtain ⟨a, a', ha, hal⟩ := maps_ok l0 l1 hr0 hi
  obtain ⟨b, b', hb, hbl⟩ := maps_ok l2 l1 hr2 hi
  exact ⟨_, joins_of _ l0 l1 l2 a b a' b' ha hb hal hbl⟩
theorem i64_of_wf {n : Int} (h : (Lit.int .i64 n).wf = true) : I64 n := by
  simp only [Lit.wf, IntKind.min, IntKind.max, IntKind.signed, IntKind.bits, Bool.and_eq_true, decide_eq_true_eq, if_true] at h
  unfold I64
  omega
end Go.Proofs.Ytnbjhfleoodncaa.X

namespace Go.Proofs.Ytnbjhfleoodncaa.refmapJoins
open Go.ChangeShapes Go.WideShapes Go.ChangeAt Go.RowKit Go.Proofs.YtnbjhfleoodncaaW.PrintWords Go.Proofs.Ytnbjhfleoodncaa.X
set_option linter.unusedVariables false
theorem own : ownKnob Try.prog.godebug = none := by kernel_rfl
theorem laidOut : laidOutB Try.prog = true := by kernel_rfl
set_option maxRecDepth 100000 in
theorem lifted (os : Os) (started : os.Started) (H : Type) (enc : TypeId × Value → H) :
    ReturnsInHanded {} Try.checked os 3 .any (Rows.refmapJoinsSpec.pre6 enc Try.prog Try.f3 Rows.refmapJoinsRow.domain false) (Rows.refmapJoinsSpec.post enc Try.prog Try.f3 false true false false) := by
  refine returnsInHanded_of_change_sized (C := Try.checked) own started (by kernel_rfl) Try.func3
    (ChangeSpec.witness6 (enc := enc) (C := Try.checked) false ⟨#[], #[.slice none 0 0, .slice none 0 0, .slice none 0 0], []⟩ 8 (by kernel_rfl) (by kernel_rfl) (by kernel_rfl) (by kernel_rfl)) ?_
  intro W base args ds gs before hval0 hW hcnd hsz0 _
  have hval : ∀ (j : Nat) t v, Try.f3.params[j]? = some t → args[j]? = some v → Value.okWide Try.prog W .any base t v := hval0
  have hW' := hW
  obtain ⟨p, q, hA0, hV, rfl, hfz, hnd⟩ := hW
  have hA : DataW.TrodAll enc Try.prog W 0 (fun _ => true) true Try.f3.params.toList args.toList ds p := hA0
  rw [Try.params3] at hA hval
  obtain ⟨v0, vs0, d0, ds0, p0, q0, hargs, rfl, rfl, h0, r0⟩ := trodAll_cons hA
  obtain ⟨v1, vs1, d1, ds1, p1, q1, rfl, rfl, rfl, h1, r1⟩ := trodAll_cons r0
  obtain ⟨v2, vs2, d2, ds2, p2, q2, rfl, rfl, rfl, h2, r2⟩ := trodAll_cons r1
  obtain ⟨rfl, rfl, rfl⟩ := trodAll_nil r2
  obtain rfl : args = #[v0, v1, v2] := by cases args; simp_all
  obtain ⟨rfl, rfl⟩ := trodVars_none hV
  obtain ⟨a0, len0, cap0, rfl⟩ := okWide_slice Try.underlying22 (hval 0 22 v0 rfl rfl)
  obtain ⟨a1, len1, cap1, rfl⟩ := okWide_slice Try.underlying23 (hval 1 23 v1 rfl rfl)
  obtain ⟨a2, len2, cap2, rfl⟩ := okWide_slice Try.underlying22 (hval 2 22 v2 rfl rfl)
  have k0 := h0
  have k1 := h1
  have k2 := h2
  have lt0 : ∀ x ∈ p0, x.block < W.heap.size := by obtain ⟨m, hm⟩ := k0; exact DataW.trod_lt m _ _ _ hm
  have lt1 : ∀ x ∈ p1, x.block < W.heap.size := by obtain ⟨m, hm⟩ := k1; exact DataW.trod_lt m _ _ _ hm
  have lt2 : ∀ x ∈ p2, x.block < W.heap.size := by obtain ⟨m, hm⟩ := k2; exact DataW.trod_lt m _ _ _ hm
  obtain ⟨f0, h0⟩ := h0
  obtain ⟨f1, h1⟩ := h1
  obtain ⟨f2, h2⟩ := h2
  obtain ⟨A0, z0, c0, e0, l0, m0, C0, g0⟩ := open_row [] Try.underlying22 (by kernel_rfl) (opens_slice false Try.underlying35 (by kernel_rfl) (opens_bool Try.underlying4)) h0
  obtain ⟨A1, z1, c1, e1, l1, m1, C1, g1⟩ := open_row 0 Try.underlying23 (by kernel_rfl) (opens_int Try.underlying3) h1
  obtain ⟨A2, z2, c2, e2, l2, m2, C2, g2⟩ := open_row [] Try.underlying22 (by kernel_rfl) (opens_slice false Try.underlying35 (by kernel_rfl) (opens_bool Try.underlying4)) h2
  simp [Value.cells] at e0 e1 e2
  obtain ⟨rfl, rfl, rfl⟩ := e0
  obtain ⟨rfl, rfl, rfl⟩ := e1
  obtain ⟨rfl, rfl, rfl⟩ := e2
  clear hA0 hval0 hsz0
  have hml : maxLen ≤ 9223372036854775807 := by decide
  obtain ⟨k, hk⟩ := joins_true z0 z1 z2 (fun x hx => Nat.le_trans (g0 x hx).1 hml) (fun x hx => Nat.le_trans (g2 x hx).1 hml) (fun x hx => i64_of_wf (g1 x hx))
  refine (cruciblelaw12_RefmapJoins.calls k _ _ z0 _ _ z1 _ _ z2 true W C0 l0 C1 l1 C2 l2 hk).mono fun e W' ⟨he, bel⟩ => ?_
  subst he
  exact ⟨_, rfl, _, _, _, [], _, [], hW', trodAll_mk1 (shut_bool Try.underlying4 _), (trodAll_cons_mk (Below.trod laidOut (by kernel_rfl) (of_decide_eq_true (by kernel_rfl)) k0 bel lt0) (trodAll_cons_mk (Below.trod laidOut (by kernel_rfl) (of_decide_eq_true (by kernel_rfl)) k1 bel lt1) (trodAll_cons_mk (Below.trod laidOut (by kernel_rfl) (of_decide_eq_true (by kernel_rfl)) k2 bel lt2) trodAll_mk0))), rfl, bel.frame _, fun h => by cases h⟩
theorem over : Rows.refmapJoinsRow.holds Try.pinned (OpenSpec.ofChange Rows.refmapJoinsSpec) :=
  OpenClaim.holds_of_wide 3 Try.f3 rfl rfl rfl rfl rfl rfl rfl ⟨rfl, rfl, rfl, rfl, rfl⟩ rfl rfl rfl rfl rfl (by kernel_rfl) Try.func3 (by kernel_rfl)
    (of_decide_eq_true (by kernel_rfl)) (by unfold Func.isWrapper; first | (rw [if_pos (by decide +kernel)]; kernel_rfl) | (rw [if_neg (by decide +kernel)]; exact ⟨rfl, rfl⟩))
    (fun os started H enc _ => lifted os started H enc)
theorem proved : Rows.RefmapJoinsSaid := over
#print axioms proved
end Go.Proofs.Ytnbjhfleoodncaa.refmapJoins
namespace Go.Proofs.Ytnbjhfleoodncaa
/-- The row, under a short name, for the claim. -/
theorem refmapJoins_holds : Rows.RefmapJoinsSaid := refmapJoins.proved
end Go.Proofs.Ytnbjhfleoodncaa
