/- code.take: numbers of two bytes are read into places. Conditions: the places are cells of their own. -/
import Derived.Test.YtnbjhfleoodncaaXForm
import Derived.Laws.BitsLemmas
namespace Go.Proofs.Ytnbjhfleoodncaa.X
open Go.RowKit Go.Shelf Go.Proofs.YtnbjhfleoodncaaW.PrintWords Go.Proofs.YtnbjhfleoodncaaW.PrintLast Go.Proofs.YtnbjhfleoodncaaW.PrintMore
set_option linter.unusedVariables false
set_option linter.unusedSimpArgs false

theorem wraps_16 (n : Int) (h0 : 0 ≤ n) (h1 : n < 2 ^ 16) : IntKind.i64.wrap n = n := by
  have e : (2 : Int) ^ 16 = 65536 := by decide
  rw [e] at h1
  rw [IntKind.wrap_i64]
  omega
theorem or_bytes (a b : Int) (ha0 : 0 ≤ a) (ha : a < 256) (hb0 : 0 ≤ b) (hb : b < 256) : bits .or .i64 (a * 256) b = a * 256 + b := by
  have e8 : (2 : Int) ^ 8 = 256 := by decide
  have e16 : (2 : Int) ^ 16 = 65536 := by decide
  refine bits_join .i64 16 (by decide) wraps_16 8 (a * 256) b ?_ ?_ ?_ hb0 ?_ ?_
  · omega
  · rw [e8]; omega
  · rw [e16]; omega
  · rw [e8]; omega
  · rw [e16]; omega

/-- the number of the first two bytes; what is behind so many bytes -/
def num2 (s : ByteArray) : Int := bt s 0 * 256 + bt s 1
def behind (s : ByteArray) (n : Nat) : ByteArray := s.extract n s.size
/-- the places take numbers, one by one -/
def putAll : World → List Addr → ByteArray → World
  | w, [], _ => w
  | w, p :: ps, s => putAll (w.setCell p (.int .i64 (num2 s))) ps (behind s 2)
theorem behind_size (s : ByteArray) (n : Nat) : (behind s n).size = s.size - n := by unfold behind; rw [ByteArray.size_extract, Nat.min_self]
theorem behind_behind (s : ByteArray) (n m : Nat) : behind (behind s n) m = behind s (n + m) := by
  apply ByteArray.ext
  unfold behind
  simp only [ByteArray.data_extract, ByteArray.size_extract, Array.extract_extract, Nat.min_self]
  congr 1
  omega
theorem behind_zero (s : ByteArray) : behind s 0 = s := by
  apply ByteArray.ext
  unfold behind
  simp only [ByteArray.data_extract]
  exact Array.extract_size
theorem putAll_snoc : ∀ (ps : List Addr) (w : World) (p : Addr) (s : ByteArray), putAll w (ps ++ [p]) s = (putAll w ps s).setCell p (.int .i64 (num2 (behind s (2 * ps.length))))
  | [], w, p, s => by
    show (w.setCell p (.int .i64 (num2 s))) = (w.setCell p (.int .i64 (num2 (behind s 0))))
    rw [behind_zero]
  | q :: ps, w, p, s => by
    show putAll (w.setCell q _) (ps ++ [p]) (behind s 2) = _
    rw [putAll_snoc ps, behind_behind]
    show (putAll (w.setCell q _) ps (behind s 2)).setCell p _ = (putAll (w.setCell q _) ps (behind s 2)).setCell p _
    congr 4
    simp
    omega

/-- what take asks of its places -/
def Places (W : World) (L : Nat) (ps : List Addr) : Prop := (∀ i (h : i < ps.length), W.cell? ⟨L, i, none⟩ = some (.pointer (some ps[i]))) ∧ ∀ p ∈ ps, p.block ≠ L ∧ (∃ v, W.cell? p = some v) ∧ W.frozen? p = false
theorem Places.set {W : World} {L : Nat} {ps : List Addr} (h : Places W L ps) (p : Addr) (hp : p ∈ ps) (v : Value) : Places (W.setCell p v) L ps := by
  obtain ⟨h1, h2⟩ := h
  refine ⟨fun i hi => ?_, fun q hq => ⟨(h2 q hq).1, ?_, ?_⟩⟩
  · rw [World.cell?_setCell_far _ _ _ _ (h2 p hp).1]
    exact h1 i hi
  · by_cases e : p = q
    · subst e
      obtain ⟨u, hu⟩ := (h2 p hp).2.1
      exact ⟨_, World.cell?_setCell_same _ _ _ hu⟩
    · obtain ⟨u, hu⟩ := (h2 q hq).2.1
      exact ⟨u, by rw [World.cell?_setCell_other _ _ _ _ e]; exact hu⟩
  · rw [World.frozen?_setCell]
    exact (h2 q hq).2.2
theorem Places.putAll {L : Nat} {ps : List Addr} : ∀ (qs : List Addr) {W : World} (s : ByteArray), Places W L ps → (∀ q ∈ qs, q ∈ ps) → Places (putAll W qs s) L ps
  | [], W, s, h, _ => h
  | q :: qs, W, s, h, hq => Places.putAll qs _ (h.set q (hq q List.mem_cons_self) _) (fun x hx => hq x (List.mem_cons_of_mem _ hx))

set_option maxRecDepth 100000 in
set_option maxHeartbeats 4000000 in
theorem take_calls (s : ByteArray) (L : Nat) (ps : List Addr) (c : Nat) (hps : ps.length ≤ 4) (hs : s.size ≤ 1000000) (w : World) (hP : Places w L ps) :
    Calls Try.prog 36 #[.string s, .slice (some ⟨L, 0, none⟩) ps.length c] w fun e w' => if s.size < 2 * ps.length then e = .returned (.tuple #[.string s, .bool false]) ∧ w' = w else e = .returned (.tuple #[.string (behind s (2 * ps.length)), .bool true]) ∧ ∃ n, w' = (putAll w ps s).drewN n := by
  have HP := Aside0.mk hP
  clear hP
  have hw2 : IntKind.i64.wrap (2 * (ps.length : Int)) = 2 * (ps.length : Int) := IntWalk.i64_in _ (by omega)
  by_cases hlt : s.size < 2 * ps.length
  · have hd : decide ((s.size : Int) < 2 * (ps.length : Int)) = true := decide_eq_true (by omega)
    simp only [if_pos hlt]
    go_enter Try.func36, Try.ntmps36
    go_wp2
    go_ret2
    exact ⟨rfl, rfl⟩
  · have hd : decide ((s.size : Int) < 2 * (ps.length : Int)) = false := decide_eq_false (by omega)
    simp only [if_neg hlt]
    have HLT := Aside0.mk hlt
    clear hlt
    go_enter Try.func36, Try.ntmps36
    go_wp2
    go_loopg [0, 17] (ps.length + 1) (fun kq v0 v17 w' => ∃ i : Nat, v0 = .string (behind s (2 * i)) ∧ v17 = .int .i64 (i : Int) ∧ Aside0 (i + kq = ps.length + 1) ∧ Aside0 (i ≤ ps.length) ∧ Aside0 (∃ n, w' = (putAll w (ps.take i) s).drewN n))
    case atStart => exact ⟨0, by rw [Nat.mul_zero, behind_zero], rfl, ⟨by omega⟩, ⟨Nat.zero_le _⟩, ⟨0, rfl⟩⟩
    case round =>
      obtain ⟨i, rfl, rfl, HK, HI, HW⟩ := hrel
      obtain ⟨n, hW⟩ := HW.out
      by_cases hi : i < ps.length
      · have hi1 : decide ((i : Int) < (ps.length : Int)) = true := decide_eq_true (by omega)
        have hPl := HP.out.putAll (ps.take i) s (fun q hq => List.mem_of_mem_take hq)
        have hsn := putAll_snoc (ps.take i) w ps[i] s
        have htk : ps.take (i + 1) = ps.take i ++ [ps[i]] := by rw [List.take_add_one, List.getElem?_eq_getElem hi]; rfl
        rw [← htk, List.length_take, Nat.min_eq_left (by omega)] at hsn
        generalize putAll w (ps.take i) s = Wi at *
        obtain ⟨hP1, hP2⟩ := hPl
        obtain ⟨_, ⟨v, hpc⟩, hpf⟩ := hP2 ps[i] (List.getElem_mem hi)
        have hcl := hP1 i hi
        have hts : 2 ≤ (behind s (2 * i)).size := by rw [behind_size]; have := HLT.out; omega
        have hbb := behind_behind s (2 * i) 2
        have HSN := Aside0.mk hsn
        have HHI := Aside0.mk hi
        have HBB := Aside0.mk hbb
        generalize behind s (2 * i) = t at hts HSN HBB ⊢
        generalize ps[i] = q at *
        have h0 : 0 < t.size := by omega
        have h1 : 1 < t.size := by omega
        have hb0 := bt_at t 0 (by simpa using h0)
        have hb1 := bt_at t 1 (by simpa using h1)
        simp only [Int.toNat_zero, Int.toNat_one] at hb0 hb1
        obtain ⟨r0, r0'⟩ := bt_range t 0
        obtain ⟨r1, r1'⟩ := bt_range t 1
        have w0 : IntKind.i64.wrap (bt t 0) = bt t 0 := IntWalk.i64_in _ (by omega)
        have w1 : IntKind.i64.wrap (bt t 1) = bt t 1 := IntWalk.i64_in _ (by omega)
        have w2 : IntKind.i64.wrap (bt t 0 * 256) = bt t 0 * 256 := IntWalk.i64_in _ (by omega)
        have h1i : (1 : Int) < (t.size : Int) := by omega
        have h2i : (2 : Int) ≤ (t.size : Int) := by omega
        have wo := or_bytes (bt t 0) (bt t 1) r0 (by omega) r1 (by omega)
        have ww : IntKind.i64.wrap ((i : Int) + 1) = ((i + 1 : Nat) : Int) := by rw [IntWalk.i64_in _ (by omega)]; simp
        clear hbb hsn htk hP1 hP2 r0 r0' r1 r1'
        subst hW
        have hcl' : (Wi.drewN n).cell? ⟨L, i, none⟩ = some (.pointer (some q)) := hcl
        have hpc' : (Wi.drewN n).cell? q = some v := hpc
        have hpf' : (Wi.drewN n).frozen? q = false := hpf
        go_wp2
        refine wp_region_still_tail 10 (by kernel_rfl) (by kernel_rfl) ?_
        simp only [List.take_succ_cons, List.take_zero, List.drop_succ_cons, List.drop_zero]
        change wpStill _ _ (World.drew _) _ _ _
        have hpc'' : (Wi.drewN (n + 1)).cell? q = some v := hpc
        have hpf'' : (Wi.drewN (n + 1)).frozen? q = false := hpf
        clear hcl hpc hpf hcl' hpc' hpf'
        repeat still_step
        refine wpStill_nil ?_
        change wpList _ _ _ _ _ (World.drew _)
        go_wp2
        go_roundg (gk - 1)
        case measure => have := HK.out; have := HHI.out; omega
        case rel =>
          refine ⟨i + 1, ?_, by simp, ⟨by have := HK.out; have := HHI.out; omega⟩, ⟨HHI.out⟩, ⟨n + 1, ?_⟩⟩
          · have h := HBB.out
            rw [show 2 * i + 2 = 2 * (i + 1) by omega] at h
            rw [← h]
            rfl
          · rw [HSN.out]
            rfl
      · obtain rfl : i = ps.length := by have := HI.out; omega
        subst hW
        rw [List.take_length]
        go_wp2
        go_ret2
        exact ⟨rfl, n, rfl⟩
end Go.Proofs.Ytnbjhfleoodncaa.X
