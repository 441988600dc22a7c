/- RefmapMakes answers true for every input, and leaves its arguments as they were. Conditions: none. -/
import Derived.Test.YtnbjhfleoodncaaRows
import Derived.Test.YtnbjhfleoodncaaXMakes
import Derived.Test.YtnbjhfleoodncaaXOpenW
import Derived.WalkKit
import Derived.ProofKit
import Derived.OpenShut
import Derived.ShutString
import Derived.ChangeOld
import Derived.Below
import Derived.SizedLaws
namespace Go.Proofs.Ytnbjhfleoodncaa.X
open Go.RowKit Go.Shelf Go.Proofs.YtnbjhfleoodncaaW.PrintWords Go.Proofs.YtnbjhfleoodncaaW.PrintLast Go.Proofs.YtnbjhfleoodncaaW.PrintMore

theorem opens62 (w : World) : OpensW Try.prog w 62 k62 (fun _ => True) :=
  (opensW_iso (fun x : S62 => (x.f0, x.f1)) (fun p => ⟨p.1, p.2⟩) (fun _ => rfl)
    (opensW_struct Try.underlying62 (by kernel_rfl) (by kernel_rfl) (opensF_cons (opensW_int Try.underlying3) (opensF_one (opensW_string Try.underlying9))))).mono fun _ _ => trivial
theorem opens64 (w : World) : OpensW Try.prog w 64 k64 (fun _ => True) :=
  (opensW_iso (fun x : S64 => (x.f0, x.f1, x.f2)) (fun p => ⟨p.1, p.2.1, p.2.2⟩) (fun _ => rfl)
    (opensW_struct Try.underlying64 (by kernel_rfl) (by kernel_rfl) (opensF_cons (opensW_int Try.underlying3) (opensF_cons (opens62 w) (opensF_one (opensW_int Try.underlying3)))))).mono fun _ _ => trivial
theorem bytes64 : Try.prog.bytesOf 64 = 40 := by kernel_rfl
theorem bytes42 : Try.prog.bytesOf 42 = 48 := by kernel_rfl
theorem opens40 (w : World) : OpensW Try.prog w 40 (Kd.slice 64 k64) (fun xs => xs.length ≤ 4000000000000) :=
  (opensW_slice z64 Try.underlying40 (by kernel_rfl) (opens64 w)).mono fun xs h => by
    have h1 := h.1
    rw [bytes64] at h1
    have : reachBytes = 140737488351232 := rfl
    omega
theorem opens42 (w : World) : OpensW Try.prog w 42 k42 (fun x => x.f0.length ≤ 4000000000000 ∧ x.f1.length ≤ 4000000000000) :=
  opensW_iso (fun x : S42 => (x.f0, x.f1)) (fun p => ⟨p.1, p.2⟩) (fun _ => rfl)
    (opensW_struct Try.underlying42 (by kernel_rfl) (by kernel_rfl) (opensF_cons (opens40 w) (opensF_one (opens40 w))))
theorem opens23 (w : World) : OpensW Try.prog w 23 (Kd.slice 3 (Kd.int .i64)) (fun _ => True) :=
  (opensW_slice 0 Try.underlying23 (by kernel_rfl) (opensW_int Try.underlying3)).mono fun _ _ => trivial
theorem opens57 (w : World) : OpensW Try.prog w 57 k57 (fun _ => True) :=
  (opensW_iso (fun x : S57 => (x.f0, x.f1, x.f2, x.f3, x.f4)) (fun p => ⟨p.1, p.2.1, p.2.2.1, p.2.2.2.1, p.2.2.2.2⟩) (fun _ => rfl)
    (opensW_struct Try.underlying57 (by kernel_rfl) (by kernel_rfl) (opensF_cons (opensW_int Try.underlying3) (opensF_cons (opensW_int Try.underlying3) (opensF_cons (opensW_int Try.underlying3) (opensF_cons (opens23 w) (opensF_one (opens23 w)))))))).mono fun _ _ => trivial

theorem makes_true (l0 : List S42) (l1 : List Bool) (l2 : List S57) (hb : ∀ x ∈ l0, x.f0.length ≤ 4000000000000 ∧ x.f1.length ≤ 4000000000000) (hn : l0.length ≤ 2932031007402) : ∃ k, (∀ i, OfOk k (rd_T42 l0 i)) ∧ MakeOk k l0 l1 l2 :=
  ⟨4000000000000 + l0.length + 4, fun i => of_ok _ 4000000000000 (by omega) (rd_bound l0 _ hb i).1 (rd_bound l0 _ hb i).2 _ (by omega), make_ok l0 l1 l2 4000000000000 (by omega) hb hn _ (by omega)⟩
end Go.Proofs.Ytnbjhfleoodncaa.X

namespace Go.Proofs.Ytnbjhfleoodncaa.refmapMakes
open Go.ChangeShapes Go.WideShapes Go.ChangeAt Go.RowKit Go.Proofs.YtnbjhfleoodncaaW.PrintWords Go.Proofs.Ytnbjhfleoodncaa.X
set_option linter.unusedVariables false
theorem own : ownKnob Try.prog.godebug = none := by kernel_rfl
theorem laidOut : laidOutB Try.prog = true := by kernel_rfl
set_option maxRecDepth 100000 in
theorem lifted (os : Os) (started : os.Started) (H : Type) (enc : TypeId × Value → H) :
    ReturnsInHanded {} Try.checked os 4 .any (Rows.refmapMakesSpec.pre6 enc Try.prog Try.f4 Rows.refmapMakesRow.domain false) (Rows.refmapMakesSpec.post enc Try.prog Try.f4 false true false false) := by
  refine returnsInHanded_of_change_sized (C := Try.checked) own started (by kernel_rfl) Try.func4
    (ChangeSpec.witness6 (enc := enc) (C := Try.checked) false ⟨#[], #[.slice none 0 0, .slice none 0 0, .slice none 0 0], []⟩ 8 (by kernel_rfl) (by kernel_rfl) (by kernel_rfl) (by kernel_rfl)) ?_
  intro W base args ds gs before hval0 hW hcnd hsz0 _
  have hsz : (DataW.weightsEach Try.prog (Try.f4.params.toList ++ Rows.refmapMakesSpec.plain.varTypes Try.prog) (ds ++ gs)).all (· ≤ reachBytes) = true := hsz0
  have hval : ∀ (j : Nat) t v, Try.f4.params[j]? = some t → args[j]? = some v → Value.okWide Try.prog W .any base t v := hval0
  have hW' := hW
  obtain ⟨p, q, hA0, hV, rfl, hfz, hnd⟩ := hW
  have hA : DataW.TrodAll enc Try.prog W 0 (fun _ => true) true Try.f4.params.toList args.toList ds p := hA0
  rw [Try.params4] at hA hval hsz
  obtain ⟨v0, vs0, d0, ds0, p0, q0, hargs, rfl, rfl, h0, r0⟩ := trodAll_cons hA
  obtain ⟨v1, vs1, d1, ds1, p1, q1, rfl, rfl, rfl, h1, r1⟩ := trodAll_cons r0
  obtain ⟨v2, vs2, d2, ds2, p2, q2, rfl, rfl, rfl, h2, r2⟩ := trodAll_cons r1
  obtain ⟨rfl, rfl, rfl⟩ := trodAll_nil r2
  obtain rfl : args = #[v0, v1, v2] := by cases args; simp_all
  obtain ⟨rfl, rfl⟩ := trodVars_none hV
  obtain ⟨a0, len0, cap0, rfl⟩ := okWide_slice Try.underlying34 (hval 0 34 v0 rfl rfl)
  obtain ⟨a1, len1, cap1, rfl⟩ := okWide_slice Try.underlying35 (hval 1 35 v1 rfl rfl)
  obtain ⟨a2, len2, cap2, rfl⟩ := okWide_slice Try.underlying36 (hval 2 36 v2 rfl rfl)
  have k0 := h0
  have k1 := h1
  have k2 := h2
  have lt0 : ∀ x ∈ p0, x.block < W.heap.size := by obtain ⟨m, hm⟩ := k0; exact DataW.trod_lt m _ _ _ hm
  have lt1 : ∀ x ∈ p1, x.block < W.heap.size := by obtain ⟨m, hm⟩ := k1; exact DataW.trod_lt m _ _ _ hm
  have lt2 : ∀ x ∈ p2, x.block < W.heap.size := by obtain ⟨m, hm⟩ := k2; exact DataW.trod_lt m _ _ _ hm
  obtain ⟨f0, h0⟩ := h0
  obtain ⟨f1, h1⟩ := h1
  obtain ⟨f2, h2⟩ := h2
  obtain ⟨A0, z0, c0, e0, l0, m0, C0, g0⟩ := openW_row z42 Try.underlying34 (by kernel_rfl) (opens42 W) h0 (weight_of hsz (j := 0) rfl rfl)
  obtain ⟨A1, z1, c1, e1, l1, m1, C1, g1⟩ := openW_row false Try.underlying35 (by kernel_rfl) (opensW_bool Try.underlying4) h1 (weight_of hsz (j := 1) rfl rfl)
  obtain ⟨A2, z2, c2, e2, l2, m2, C2, g2⟩ := openW_row z57 Try.underlying36 (by kernel_rfl) (opens57 W) h2 (weight_of hsz (j := 2) rfl rfl)
  simp [Value.cells] at e0 e1 e2
  obtain ⟨rfl, rfl, rfl⟩ := e0
  obtain ⟨rfl, rfl, rfl⟩ := e1
  obtain ⟨rfl, rfl, rfl⟩ := e2
  clear hA0 hval0 hsz0 hsz
  rw [bytes42] at m0
  have hrb : reachBytes = 140737488351232 := rfl
  obtain ⟨k, hk1, hk2⟩ := makes_true z0 z1 z2 g0 (by omega)
  refine (makes_calls k _ _ z0 _ _ z1 _ _ z2 W C0 l0 C1 l1 C2 l2 hk1 hk2).mono fun e W' ⟨he, bel⟩ => ?_
  subst he
  exact ⟨_, rfl, _, _, _, [], _, [], hW', trodAll_mk1 (shut_bool Try.underlying4 _), (trodAll_cons_mk (Below.trod laidOut (by kernel_rfl) (of_decide_eq_true (by kernel_rfl)) k0 bel lt0) (trodAll_cons_mk (Below.trod laidOut (by kernel_rfl) (of_decide_eq_true (by kernel_rfl)) k1 bel lt1) (trodAll_cons_mk (Below.trod laidOut (by kernel_rfl) (of_decide_eq_true (by kernel_rfl)) k2 bel lt2) trodAll_mk0))), rfl, bel.frame _, fun h => by cases h⟩
theorem over : Rows.refmapMakesRow.holds Try.pinned (OpenSpec.ofChange Rows.refmapMakesSpec) :=
  OpenClaim.holds_of_wide 4 Try.f4 rfl rfl rfl rfl rfl rfl rfl ⟨rfl, rfl, rfl, rfl, rfl⟩ rfl rfl rfl rfl rfl (by kernel_rfl) Try.func4 (by kernel_rfl)
    (of_decide_eq_true (by kernel_rfl)) (by unfold Func.isWrapper; first | (rw [if_pos (by decide +kernel)]; kernel_rfl) | (rw [if_neg (by decide +kernel)]; exact ⟨rfl, rfl⟩))
    (fun os started H enc _ => lifted os started H enc)
theorem proved : Rows.RefmapMakesSaid := over
#print axioms proved
end Go.Proofs.Ytnbjhfleoodncaa.refmapMakes
namespace Go.Proofs.Ytnbjhfleoodncaa
/-- The row, under a short name, for the claim. -/
theorem refmapMakes_holds : Rows.RefmapMakesSaid := refmapMakes.proved
end Go.Proofs.Ytnbjhfleoodncaa
