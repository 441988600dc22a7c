/- slices.Grow(nil, n) and slices.Concat of two rows of bools: what they hand back. Conditions: n at most 2^40. -/
import Derived.Test.YtnbjhfleoodncaaXx0
namespace Go.Proofs.Ytnbjhfleoodncaa.X
open Go.RowKit Go.Proofs.YtnbjhfleoodncaaW.PrintWords Go.Proofs.YtnbjhfleoodncaaW.PrintLast Go.Proofs.YtnbjhfleoodncaaW.PrintMore
set_option linter.unusedVariables false
set_option linter.unusedSimpArgs false

set_option maxHeartbeats 1000000 in
theorem grow_nil (n : Nat) (hn : n ≤ 1099511627776) (w : World) :
    Calls Try.prog 41 #[.slice none 0 0, .int .i64 n] w fun e w' => ∃ v, e = .returned v ∧ Kd.R Kd.bool 4 w' w.heap.size (fun _ => True) v [] ∧ Below w.heap.size w w' := by
  have hs0 : ∀ W, (Instr.slice 35 (.slice none 0 0) none (some (.int .i64 0)) none).run Try.prog W = .ok (.slice none 0 0) W := fun W => by kernel_rfl
  by_cases h0 : n = 0
  · subst h0
    go_enter Try.func41, Try.ntmps41
    go_wp2
    go_ret
    exact ⟨_, rfl, Kd.R_nil _ _ _ _ _, Below.refl _ _⟩
  · have hp : 0 < n := by omega
    obtain ⟨i0, hi, hz0, hz1, hz2⟩ := info_parts info4
    go_enter Try.func41, Try.ntmps41
    go_wp2_with (at_builtin; refine Kd.R_append_zeros Kd.bool (w0 := w) w.heap.size rfl (.tmp 20) (.tmp 21) 35 3 4 (.bool false) 1 rfl Try.underlying35 Try.underlying3 info4 rfl (by decide) (by omega) (.slice none 0 0) [] false (kx := .i64) (n : Int) (fun _ => True) rfl rfl rfl (fun _ _ => trivial) (Kd.R_nil _ _ _ _ _) (by omega) (Below.refl _ _) (Nat.le_refl _) (by simp; omega) ?_; intro v1 w1 hR hB hg hat; obtain ⟨A, c, rfl, hle, hC⟩ := Kd.R_reads hR; have hcut := fun W => (print_take_of (P := Try.prog) Value.bool false 35 4 .i64 Try.underlying35 hi hz1 A c ([] ++ List.replicate (n : Int).toNat false) 0 (by omega) (by omega) hle).1 W)
    go_ret
    exact ⟨_, rfl, Kd.R_take (m := 0) hR (Nat.zero_le _), hB⟩

/-- a slice of slices of bools, read at k -/
theorem at_rows {w : World} {A : Option Addr} {n : Nat} {xs : List (List Bool)} (h : Kd.C (Kd.slice 4 Kd.bool) w A n xs) (k : Nat) (h1 : k < n) (h2 : k < xs.length) : ∃ ad A0 c0, A = some ad ∧ w.cell? (ad.add k) = some (.slice A0 xs[k].length c0) ∧ xs[k].length ≤ c0 ∧ Kd.bool.C w A0 xs[k].length xs[k] := by
  obtain ⟨ad, c, e, _, hK, hc0⟩ := Kd.C_get h ([] : List Bool) (k : Int) (by omega) (by omega)
  have hg : xs.getD (k : Int).toNat [] = xs[k] := by simp [h2]
  rw [hg] at hK
  have hc : ∀ j u, c[j]? = some u → w.cell? (ad.add (k * 1 + j)) = some u := hc0
  obtain ⟨A0, c0, rfl, l0, g0⟩ := hK
  exact ⟨ad, A0, c0, e, by have hq := hc 0 _ rfl; rwa [Nat.mul_one, Nat.add_zero] at hq, l0, g0⟩

/-- how long the first k are together -/
def sumTo (ls : List (List Bool)) (k : Nat) : Nat := ((ls.take k).map List.length).sum
theorem sumTo_zero (ls : List (List Bool)) : sumTo ls 0 = 0 := by simp [sumTo]
theorem sumTo_succ (l : List (List Bool)) (k : Nat) (hk : k < l.length) : sumTo l (k + 1) = sumTo l k + l[k].length := by
  unfold sumTo
  rw [List.take_succ_eq_append_getElem hk, List.map_append, List.sum_append]
  simp
theorem sumTo_le (l : List (List Bool)) (k : Nat) : sumTo l k ≤ sumTo l l.length := by
  unfold sumTo
  conv => rhs; rw [List.take_length, ← List.take_append_drop k l, List.map_append, List.sum_append]
  omega
theorem flat_succ (l : List (List Bool)) (k : Nat) (hk : k < l.length) : (l.take (k + 1)).flatten = (l.take k).flatten ++ l[k] := by
  rw [List.take_succ_eq_append_getElem hk, List.flatten_append, List.flatten_singleton]
theorem sumTo_flat (l : List (List Bool)) (k : Nat) : (l.take k).flatten.length = sumTo l k := by
  unfold sumTo
  rw [List.length_flatten]

set_option maxHeartbeats 2000000 in
theorem concat_any (A : Option Addr) (c : Nat) (ls : List (List Bool)) (w : World) (hr : Kd.C (Kd.slice 4 Kd.bool) w A ls.length ls) (hn : ls.length ≤ 1000) (hs : sumTo ls ls.length ≤ 1099511627776) :
    Calls Try.prog 35 #[.slice A ls.length c] w fun e w' => ∃ v, e = .returned v ∧ Kd.R Kd.bool 4 w' w.heap.size (fun _ => True) v ls.flatten ∧ Below w.heap.size w w' := by
  have HR := Aside0.mk hr
  clear hr
  go_enter Try.func35, Try.ntmps35
  go_wp2
  go_loop [3, 11] (fun s i => ∃ k : Nat, k ≤ ls.length ∧ i = .int .i64 k ∧ s = .int .i64 (sumTo ls k : Nat)) (fun _ i => ls.length - (intOf i).toNat)
  case atStart => exact ⟨0, Nat.zero_le _, rfl, by rw [sumTo_zero]; rfl⟩
  case round =>
    obtain ⟨k, hk, rfl, rfl⟩ := hrel
    have hle := sumTo_le ls k
    by_cases hlt : k < ls.length
    · have hle' := sumTo_le ls (k + 1)
      have hst := sumTo_succ ls k hlt
      obtain ⟨ad, A0, c0, rfl, h1, h2, h3⟩ := at_rows HR.out k hlt hlt
      rw [hst] at hle'
      have HST := Aside0.mk hst
      clear hst
      go_wp2
      go_round
      case rel => exact ⟨k + 1, by omega, by go_num, by rw [HST.out]; go_num⟩
      case measure => simp [intOf]; omega
    · obtain rfl : k = ls.length := by omega
      generalize hS : sumTo ls ls.length = S at hle hs ⊢
      have HS := Aside0.mk hS
      clear hS
      go_wp2_with (go_at_call 41; refine (grow_nil S (by omega) _).mono ?_; rintro e w1 ⟨v, rfl, hR, hB⟩)
      go_loopw [6, 27] (fun u i wr => ∃ k : Nat, k ≤ ls.length ∧ i = .int .i64 k ∧ Kd.R Kd.bool 4 wr w.heap.size (fun _ => True) u (ls.take k).flatten ∧ Below w.heap.size w wr) (fun _ i _ => ls.length - (intOf i).toNat)
      case atStart => exact ⟨0, Nat.zero_le _, rfl, hR, hB⟩
      case round =>
        clear hlt hR hB
        obtain ⟨k, hk, rfl, hR, hB⟩ := hrel
        by_cases hlt : k < ls.length
        · obtain ⟨ad, A0, c0, rfl, h1, h2, h3⟩ := at_rows (Kd.C_below HR.out hB) k hlt hlt
          have hle' := sumTo_le ls (k + 1)
          rw [sumTo_succ ls k hlt, ← sumTo_flat, HS.out] at hle'
          have HF := Aside0.mk (flat_succ ls k hlt)
          have HRR := Aside0.mk hR
          have HBB := Aside0.mk hB
          have H3 := Aside0.mk h3
          clear h2 h3 hR hB
          go_wp2_with (at_builtin; refine Kd.R_append_rows Kd.bool (Rr := Kd.bool.K wr) (w0 := w) w.heap.size rfl (.tmp 31) (.tmp 32) 35 4 (.bool false) 1 rfl Try.underlying35 info4 rfl (by decide) (by omega) u6 (ls.take k).flatten ls[k] A0 ls[k].length c0 (fun _ => True) (fun _ => False) rfl rfl HRR.out H3.out (fun _ _ h => h) (fun _ h => h.elim) (fun _ _ => trivial) HBB.out HBB.out.size (by omega) ?_; intro v1 w2 hR2 hB2 hg hat)
          go_roundw
          case rel => exact ⟨k + 1, by omega, by go_num, by rw [HF.out]; exact hR2, hB2⟩
          case measure => simp [intOf]; omega
        · obtain rfl : k = ls.length := by omega
          rw [List.take_length] at hR
          have HRR := Aside0.mk hR
          have HBB := Aside0.mk hB
          clear hR hB
          go_wp2
          go_ret
          exact ⟨_, rfl, HRR.out, HBB.out⟩

end Go.Proofs.Ytnbjhfleoodncaa.X
