/- code.read: one instruction, as the plain model reads it. Conditions: the text has a byte, at most 4096; the place is at most 4096. -/
import Derived.Test.YtnbjhfleoodncaaXReadSS
import Derived.Test.YtnbjhfleoodncaaXCt
namespace Go.Proofs.Ytnbjhfleoodncaa.X
open Go.RowKit Go.Shelf Go.Proofs.YtnbjhfleoodncaaW.PrintWords Go.Proofs.YtnbjhfleoodncaaW.PrintLast Go.Proofs.YtnbjhfleoodncaaW.PrintMore
set_option linter.unusedVariables false
set_option linter.unusedSimpArgs false

theorem form_link0 : ∀ n : Nat, n < 256 → (code_Form.f (n : Int) = some (match Ct.form n with | 0 => 0 | 1 => 45 | 2 => 98 | 3 => 110 | 4 => 106 | _ => 115) ∧ Ct.form n ≤ 5) := by decide +kernel
def bytes (l : List UInt8) : ByteArray := ⟨l.toArray⟩
theorem bytes_of (s : ByteArray) : bytes s.data.toList = s := by unfold bytes; simp
theorem size_of (s : ByteArray) : s.size = s.data.toList.length := Array.length_toList.symm
theorem bt_zero {s : ByteArray} {a : UInt8} {l : List UInt8} (h : s.data.toList = a :: l) : bt s 0 = (a.toNat : Int) := by
  obtain ⟨d⟩ := s
  obtain ⟨l0⟩ := d
  simp only at h
  subst h
  rfl
theorem bt_one {s : ByteArray} {a b : UInt8} {l : List UInt8} (h : s.data.toList = a :: b :: l) : bt s 1 = (b.toNat : Int) := by
  obtain ⟨d⟩ := s
  obtain ⟨l0⟩ := d
  simp only at h
  subst h
  rfl
theorem behind_list (s : ByteArray) (n : Nat) : (behind s n).data.toList = s.data.toList.drop n := by
  unfold behind
  rw [ByteArray.data_extract, Array.toList_extract]
  unfold List.extract
  rw [List.take_of_length_le]
  rw [List.length_drop, ← size_of]
  omega
theorem num2_list {s : ByteArray} {a b : UInt8} {l : List UInt8} (h : s.data.toList = a :: b :: l) : num2 s = Ct.two a b := by
  unfold num2 Ct.two
  rw [bt_zero h, bt_one h]
  omega
theorem far_link {pc n : Int} (h0 : 0 ≤ pc) (h1 : pc ≤ 4096) (h2 : 0 ≤ n) (h3 : n ≤ 65535) : farI pc n = Ct.far pc n := by
  unfold farI Ct.far wrap64
  split
  · omega
  · omega
theorem swK_front (u : ByteArray) (m : Nat) : swK u (m + 1) = num2 u :: swK (behind u 4) m := by
  unfold swK
  rw [List.range_succ_eq_map, List.map_cons, List.map_map, Nat.mul_zero, behind_zero]
  congr 1
  refine List.map_congr_left fun j _ => ?_
  simp only [Function.comp, behind_behind]
  rw [show 4 * Nat.succ j = 4 + 4 * j by omega]
theorem swT_front (pc : Int) (u : ByteArray) (m : Nat) : swT pc u (m + 1) = farI pc (num2 (behind u 2)) :: swT pc (behind u 4) m := by
  unfold swT
  rw [List.range_succ_eq_map, List.map_cons, List.map_map, Nat.mul_zero]
  refine congrArg (farI pc (num2 (behind u 2)) :: ·) (List.map_congr_left fun j _ => ?_)
  simp only [Function.comp, behind_behind]
  rw [show 4 * Nat.succ j + 2 = 4 + (4 * j + 2) by omega]
theorem pairs_eq {pc : Int} (h0 : 0 ≤ pc) (h1 : pc ≤ 4096) : ∀ (m : Nat) (u : ByteArray), Ct.pairs pc m u.data.toList = if u.size < 4 * m then none else some (swK u m, swT pc u m, (behind u (4 * m)).data.toList)
  | 0, u => by
    rw [if_neg (by omega), Nat.mul_zero, behind_zero]
    rfl
  | m + 1, u => by
    rcases hu : u.data.toList with _ | ⟨a, _ | ⟨b, _ | ⟨c, _ | ⟨d, l⟩⟩⟩⟩
    · rw [if_pos (by rw [size_of, hu]; simp only [List.length_nil]; omega)]
      rfl
    · rw [if_pos (by rw [size_of, hu]; simp only [List.length_cons, List.length_nil]; omega)]
      rfl
    · rw [if_pos (by rw [size_of, hu]; simp only [List.length_cons, List.length_nil]; omega)]
      rfl
    · rw [if_pos (by rw [size_of, hu]; simp only [List.length_cons, List.length_nil]; omega)]
      rfl
    · have hl : (behind u 4).data.toList = l := by rw [behind_list, hu]; rfl
      have h2 : (behind u 2).data.toList = c :: d :: l := by rw [behind_list, hu]; rfl
      have ih := pairs_eq h0 h1 m (behind u 4)
      rw [hl, behind_size, behind_behind] at ih
      have hr := num2_range (behind u 2)
      have hsz : 4 ≤ u.size := by rw [size_of, hu]; simp only [List.length_cons]; omega
      show (match Ct.pairs pc m l with
        | some (ks, ts, r) => some (Ct.two a b :: ks, Ct.far pc (Ct.two c d) :: ts, r)
        | none => none) = _
      rw [ih]
      by_cases hlt : u.size < 4 * (m + 1)
      · rw [if_pos hlt, if_pos (by omega)]
      · rw [if_neg hlt, if_neg (by omega)]
        dsimp only
        rw [swK_front, swT_front, num2_list hu, far_link h0 h1 hr.1 hr.2, num2_list h2, show 4 + 4 * m = 4 * (m + 1) by omega]

/-- what read answers, by the model's answer -/
def ReadPost (w w' : World) (e : Ending) : Except Int (Ct.Ins × List UInt8) → Prop
  | .error er => ReadErr w w' e er
  | .ok (x, r) => ReadOk w w' e x.pc x.op x.n x.keys x.to (bytes r)
theorem read_calls (s : ByteArray) (pc : Int) (w : World) (hs : 0 < s.size) (hmax : s.size ≤ 4096) (h0 : 0 ≤ pc) (h1 : pc ≤ 4096) :
    Calls Try.prog 29 #[.string s, .int .i64 pc] w fun e w' => ReadPost w w' e (Ct.read s.data.toList pc) := by
  rcases hl : s.data.toList with _ | ⟨o, l⟩
  · rw [size_of, hl] at hs
    simp at hs
  have hb := bt_zero hl
  have ho : o.toNat < 256 := o.toNat_lt
  obtain ⟨hf, h5⟩ := form_link0 o.toNat ho
  rw [← hb] at hf
  have hb1 : (behind s 1).data.toList = l := by rw [behind_list, hl]; rfl
  have hsz : s.size = l.length + 1 := by rw [size_of, hl, List.length_cons]
  unfold Ct.read
  dsimp only
  match hfm : Ct.form o.toNat, h5 with
  | 0, _ =>
    rw [hfm] at hf
    exact read_none s pc hs w hf
  | 1, _ =>
    rw [hfm] at hf
    refine (read_plain s pc hs w hf).mono fun e w' h => ?_
    show ReadOk w w' e pc (o.toNat : Int) 0 [] [] (bytes l)
    rw [← hb, ← hb1, bytes_of]
    exact h
  | 2, _ =>
    rw [hfm] at hf
    match l, hb1, hsz with
    | [], hb1, hsz => exact read_b_short s pc hs w hf (by simpa using hsz)
    | a :: l, hb1, hsz =>
      refine (read_b s pc hs w hf (by rw [hsz]; simp) (by omega)).mono fun e w' h => ?_
      show ReadOk w w' e pc (o.toNat : Int) (a.toNat : Int) [] [] (bytes l)
      have hb2 : (behind s 2).data.toList = l := by rw [behind_list, hl]; rfl
      rw [← hb, ← bt_zero hb1, ← hb2, bytes_of]
      exact h
  | 3, _ =>
    rw [hfm] at hf
    match l, hb1, hsz with
    | [], hb1, hsz => exact read_n_short s pc hs w hf (by omega) (by rw [hsz]; simp)
    | [a], hb1, hsz => exact read_n_short s pc hs w hf (by omega) (by rw [hsz]; simp)
    | a :: b :: l, hb1, hsz =>
      refine (read_n s pc hs w hf (by omega) (by rw [hsz]; simp)).mono fun e w' h => ?_
      show ReadOk w w' e pc (o.toNat : Int) (Ct.two a b) [] [] (bytes l)
      have hb2 : (behind s 3).data.toList = l := by rw [behind_list, hl]; rfl
      rw [← hb, ← num2_list hb1, ← hb2, bytes_of]
      exact h
  | 4, _ =>
    rw [hfm] at hf
    match l, hb1, hsz with
    | [], hb1, hsz => exact read_j_short s pc hs w hf (by omega) (by rw [hsz]; simp)
    | [a], hb1, hsz => exact read_j_short s pc hs w hf (by omega) (by rw [hsz]; simp)
    | a :: b :: l, hb1, hsz =>
      refine (read_j s pc hs w hf (by omega) (by rw [hsz]; simp) _ (far_I _ _)).mono fun e w' h => ?_
      show ReadOk w w' e pc (o.toNat : Int) 0 [] [Ct.far pc (Ct.two a b)] (bytes l)
      have hb2 : (behind s 3).data.toList = l := by rw [behind_list, hl]; rfl
      have hr := num2_range (behind s 1)
      rw [far_link h0 h1 hr.1 hr.2] at h
      rw [← hb, ← num2_list hb1, ← hb2, bytes_of]
      exact h
  | 5, _ =>
    rw [hfm] at hf
    match l, hb1, hsz with
    | [], hb1, hsz => exact read_s_short s pc hs w hf (by omega) (by rw [hsz]; simp)
    | [a], hb1, hsz => exact read_s_short s pc hs w hf (by omega) (by rw [hsz]; simp)
    | [a, b], hb1, hsz => exact read_s_short s pc hs w hf (by omega) (by rw [hsz]; simp)
    | [a, b, c], hb1, hsz => exact read_s_short s pc hs w hf (by omega) (by rw [hsz]; simp)
    | a :: b :: c :: d :: l, hb1, hsz =>
      refine (read_s s pc hs w hf (by omega) (by rw [hsz]; simp)).mono fun e w' h => ?_
      have h3 : (behind s 3).data.toList = c :: d :: l := by rw [behind_list, hl]; rfl
      have h5 : (behind s 5).data.toList = l := by rw [behind_list, hl]; rfl
      have hr := num2_range (behind s 1)
      have hp := pairs_eq h0 h1 (Ct.two c d).toNat (behind s 5)
      rw [far_link h0 h1 hr.1 hr.2, num2_list h3, num2_list hb1] at h
      rw [h5] at hp
      show ReadPost w w' e (match Ct.pairs pc (Ct.two c d).toNat l with
        | some (ks, ts, r) => .ok (⟨pc, o.toNat, 0, ks, Ct.far pc (Ct.two a b) :: ts⟩, r)
        | none => .error 5)
      rw [hp]
      unfold SwPost at h
      by_cases hlt : (behind s 5).size < 4 * (Ct.two c d).toNat
      · rw [if_pos hlt] at h
        rw [if_pos hlt]
        exact h
      · rw [if_neg hlt] at h
        rw [if_neg hlt]
        show ReadOk w w' e pc (o.toNat : Int) 0 _ _ (bytes (behind (behind s 5) _).data.toList)
        rw [bytes_of, ← hb]
        exact h
end Go.Proofs.Ytnbjhfleoodncaa.X
