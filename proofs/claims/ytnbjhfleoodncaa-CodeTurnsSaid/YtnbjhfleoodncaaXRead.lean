/- code.read: one instruction. Conditions: the text has a byte; the place fits. -/
import Derived.Test.YtnbjhfleoodncaaXTake
import Derived.Laws.ResultCell
namespace Go.Proofs.Ytnbjhfleoodncaa.X
open Go.RowKit Go.Shelf Go.Proofs.YtnbjhfleoodncaaW.PrintWords Go.Proofs.YtnbjhfleoodncaaW.PrintLast Go.Proofs.YtnbjhfleoodncaaW.PrintMore
set_option linter.unusedVariables false
set_option linter.unusedSimpArgs false

theorem results_cell_tmp2 {fn : Func} {p u v : Tmp} {ty : TypeId} (h : fn.results = #[.cell p ty, .tmp u, .tmp v]) (tmps : Array Value) (P : Program) (w : World) :
    (results fn tmps).run P w =
      ((asAddr (tmps.getD p undef)).run P w).andThen fun a w₁ => ((loadVar ty a).run P w₁).andThen fun x w₂ => .ok (.tuple #[x, tmps.getD u undef, tmps.getD v undef]) w₂ := by
  simp only [results, h]
  simp [Sem.run_bind, Result.andThen]

/-- read's boxes: the result, the instruction, two numbers -/
structure Boxes (w W : World) (R X N T : Nat) (rc xc : Array Value) (n t : Int) : Prop where
  r : W.heap[R]? = some (.cells rc 57 (0, 0))
  x : W.heap[X]? = some (.cells xc 57 (0, 0))
  n : W.heap[N]? = some (.cells #[.int .i64 n] 3 (0, 0))
  t : W.heap[T]? = some (.cells #[.int .i64 t] 3 (0, 0))
  hR : w.heap.size ≤ R
  hX : w.heap.size ≤ X
  hN : w.heap.size ≤ N
  hT : w.heap.size ≤ T
  b : Below w.heap.size w W
theorem Boxes.below {w W W' : World} {R X N T : Nat} {rc xc : Array Value} {n t : Int} (h : Boxes w W R X N T rc xc n t) (hb : Below W.heap.size W W') : Boxes w W' R X N T rc xc n t :=
  ⟨(hb.block R (blk_lt h.r)).trans h.r, (hb.block X (blk_lt h.x)).trans h.x, (hb.block N (blk_lt h.n)).trans h.n, (hb.block T (blk_lt h.t)).trans h.t, h.hR, h.hX, h.hN, h.hT, below_step h.b hb⟩
theorem boxes_new (w : World) (pc op : Int) : ∃ W, (((w.alloc (.cells #[.int .i64 0, .int .i64 0, .int .i64 0, .slice none 0 0, .slice none 0 0] 57)).alloc (.cells #[.int .i64 pc, .int .i64 op, .int .i64 0, .slice none 0 0, .slice none 0 0] 57)).alloc (.cells #[.int .i64 0] 3)).alloc (.cells #[.int .i64 0] 3) = W ∧
    Boxes w W w.heap.size (w.heap.size + 1) (w.heap.size + 1 + 1) (w.heap.size + 1 + 1 + 1) #[.int .i64 0, .int .i64 0, .int .i64 0, .slice none 0 0, .slice none 0 0] #[.int .i64 pc, .int .i64 op, .int .i64 0, .slice none 0 0, .slice none 0 0] 0 0 := by
  refine ⟨_, rfl, ?_, ?_, ?_, ?_, by omega, by omega, by omega, by omega, below_alloc (below_alloc (below_alloc (below_alloc (Below.refl _ _) _) _) _) _⟩
  · exact blk_alloc (blk_alloc (blk_alloc (blk_new _ _) _) _) _
  · have h := blk_new (w.alloc (.cells #[.int .i64 0, .int .i64 0, .int .i64 0, .slice none 0 0, .slice none 0 0] 57)) (.cells #[.int .i64 pc, .int .i64 op, .int .i64 0, .slice none 0 0, .slice none 0 0] 57)
    rw [World.size_alloc] at h
    exact blk_alloc (blk_alloc h _) _
  · have h := blk_new ((w.alloc (.cells #[.int .i64 0, .int .i64 0, .int .i64 0, .slice none 0 0, .slice none 0 0] 57)).alloc (.cells #[.int .i64 pc, .int .i64 op, .int .i64 0, .slice none 0 0, .slice none 0 0] 57)) (.cells #[.int .i64 0] 3)
    rw [World.size_alloc, World.size_alloc] at h
    exact blk_alloc h _
  · have h := blk_new (((w.alloc (.cells #[.int .i64 0, .int .i64 0, .int .i64 0, .slice none 0 0, .slice none 0 0] 57)).alloc (.cells #[.int .i64 pc, .int .i64 op, .int .i64 0, .slice none 0 0, .slice none 0 0] 57)).alloc (.cells #[.int .i64 0] 3)) (.cells #[.int .i64 0] 3)
    rw [World.size_alloc, World.size_alloc, World.size_alloc] at h
    exact h

theorem set5 {W : World} {R : Nat} {r0 r1 r2 r3 r4 : Value} (h : W.heap[R]? = some (.cells #[r0, r1, r2, r3, r4] 57 (0, 0))) (a0 a1 a2 a3 a4 : Value) :
    (((((W.setCell ⟨R, 0, none⟩ a0).setCell ⟨R, 1, none⟩ a1).setCell ⟨R, 2, none⟩ a2).setCell ⟨R, 3, none⟩ a3).setCell ⟨R, 4, none⟩ a4).heap[R]? = some (.cells #[a0, a1, a2, a3, a4] 57 (0, 0)) :=
  blk_put (cs := #[a0, a1, a2, a3, r4]) (blk_put (cs := #[a0, a1, a2, r3, r4]) (blk_put (cs := #[a0, a1, r2, r3, r4]) (blk_put (cs := #[a0, r1, r2, r3, r4]) (blk_put h 0 a0 rfl) 1 a1 rfl) 2 a2 rfl) 3 a3 rfl) 4 a4 rfl
theorem below5 {w W : World} {B R : Nat} (h : Below B w W) (hR : B ≤ R) (a0 a1 a2 a3 a4 : Value) : Below B w (((((W.setCell ⟨R, 0, none⟩ a0).setCell ⟨R, 1, none⟩ a1).setCell ⟨R, 2, none⟩ a2).setCell ⟨R, 3, none⟩ a3).setCell ⟨R, 4, none⟩ a4) :=
  ((((h.setCell hR _).setCell hR _).setCell hR _).setCell hR _).setCell hR _
theorem info57s : (Try.prog.info? 57).map (·.size) = some 5 := by kernel_rfl
theorem f29_results : Try.f29.results = #[.cell 4 57, .tmp 5, .tmp 6] := by kernel_rfl
theorem read_ret {Q : Ending → World → Prop} {a : Act} {W : World} {R : Nat} {x0 x1 x2 x3 x4 : Value} (hd : a.defers = []) (h4 : a.tmps.getD 4 undef = .pointer (some ⟨R, 0, none⟩)) (hb : W.heap[R]? = some (.cells #[x0, x1, x2, x3, x4] 57 (0, 0)))
    (hq : Q (.returned (.tuple #[.agg #[x0, x1, x2, x3, x4], a.tmps.getD 5 undef, a.tmps.getD 6 undef])) W) : bodyPost Try.prog Try.f29 Q .ret a W := by
  refine ⟨hd, _, ?_, hq⟩
  rw [results_cell_tmp2 f29_results, h4]
  have hld := run_loadVar_row (P := Try.prog) W R 57 57 #[x0, x1, x2, x3, x4] (0, 0) _ hb Try.underlying57 rfl info57s
  simp [asAddr, Result.andThen, hld]

/-- what read answers where it reads: the instruction, its two rows new ones -/
def ReadOk (w W : World) (e : Ending) (pc op n : Int) (ks ts : List Int) (rest : ByteArray) : Prop :=
  ∃ vk vt : Value, e = .returned (.tuple #[.agg #[.int .i64 pc, .int .i64 op, .int .i64 n, vk, vt], .string rest, .int .i64 0]) ∧
    Kd.R (Kd.int .i64) 3 W w.heap.size (fun k => some k ≠ vt.ownBlock) vk ks ∧ Kd.R (Kd.int .i64) 3 W w.heap.size (fun k => some k ≠ vk.ownBlock) vt ts ∧ Below w.heap.size w W
/-- .. and where it fails -/
def ReadErr (w w' : World) (e : Ending) (err : Int) : Prop := ∃ (a b c : Int) (A3 A4 : Option Addr) (n3 c3 n4 c4 : Nat) (r : ByteArray), e = .returned (.tuple #[.agg #[.int .i64 a, .int .i64 b, .int .i64 c, .slice A3 n3 c3, .slice A4 n4 c4], .string r, .int .i64 err]) ∧ Below w.heap.size w w'

/-! MARK-CASES -/
set_option maxRecDepth 100000 in
set_option maxHeartbeats 4000000 in
theorem read_none (s : ByteArray) (pc : Int) (hs : 0 < s.size) (w : World) (hf : code_Form.f (bt s 0) = some 0) :
    Calls Try.prog 29 #[.string s, .int .i64 pc] w fun e w' => ReadErr w w' e 11 := by
  have hu57 := Try.underlying57
  have hb0 := bt_at s 0 (by simpa using hs)
  simp only [Int.toNat_zero] at hb0
  obtain ⟨r0, r0'⟩ := bt_range s 0
  have w0 : IntKind.i64.wrap (bt s 0) = bt s 0 := IntWalk.i64_in _ (by omega)
  have HF := Aside0.mk hf
  clear hf
  have hsl : (1 : Int) ≤ (s.size : Int) := by omega
  go_enter Try.func29, Try.ntmps29
  go_wp2_with (go_at_call 17; fail)
  obtain ⟨W, hW, HBX⟩ := boxes_new w pc (bt s 0)
  rw [hW]
  refine (code_Form.calls (bt s 0) 0 _ HF.out).mono ?_
  rintro e W1 ⟨rfl, hb⟩
  replace HBX := HBX.below hb
  clear hb hW W
  have NE : w.heap.size ≠ w.heap.size + 1 ∧ w.heap.size ≠ w.heap.size + 1 + 1 ∧ w.heap.size ≠ w.heap.size + 1 + 1 + 1 ∧ w.heap.size + 1 ≠ w.heap.size + 1 + 1 ∧ w.heap.size + 1 ≠ w.heap.size + 1 + 1 + 1 ∧ w.heap.size + 1 + 1 ≠ w.heap.size + 1 + 1 + 1 := by omega
  generalize w.heap.size + 1 + 1 + 1 = T at *
  generalize w.heap.size + 1 + 1 = N at *
  generalize w.heap.size + 1 = X at *
  generalize hR : w.heap.size = R at *
  have HNE := Aside0.mk NE
  clear NE
  have x0 := blk_cell HBX.x 0
  have x1 := blk_cell HBX.x 1
  have x2 := blk_cell HBX.x 2
  have x3 := blk_cell HBX.x 3
  have x4 := blk_cell HBX.x 4
  have r0 := blk_cell HBX.r 0
  have r1 := blk_cell HBX.r 1
  have r2 := blk_cell HBX.r 2
  have r3 := blk_cell HBX.r 3
  have r4 := blk_cell HBX.r 4
  have f0 := blk_frozen HBX.r 0
  have f1 := blk_frozen HBX.r 1
  have f2 := blk_frozen HBX.r 2
  have f3 := blk_frozen HBX.r 3
  have f4 := blk_frozen HBX.r 4
  simp only [List.getElem?_toArray, List.getElem?_cons_zero, List.getElem?_cons_succ] at x0 x1 x2 x3 x4 r0 r1 r2 r3 r4
  have HBX2 := Aside0.mk HBX
  clear HBX
  go_wp2
  refine read_ret rfl rfl (set5 HBX2.out.r _ _ _ _ _) ⟨_, _, _, _, _, _, _, _, _, _, rfl, ?_⟩
  rw [hR]
  exact below5 (hR ▸ HBX2.out.b) (Nat.le_refl _) _ _ _ _ _

set_option maxRecDepth 100000 in
set_option maxHeartbeats 4000000 in
theorem read_plain (s : ByteArray) (pc : Int) (hs : 0 < s.size) (w : World) (hf : code_Form.f (bt s 0) = some 45) :
    Calls Try.prog 29 #[.string s, .int .i64 pc] w fun e w' => ReadOk w w' e pc (bt s 0) 0 [] [] (behind s 1) := by
  have hu57 := Try.underlying57
  have hb0 := bt_at s 0 (by simpa using hs)
  simp only [Int.toNat_zero] at hb0
  obtain ⟨r0, r0'⟩ := bt_range s 0
  have w0 : IntKind.i64.wrap (bt s 0) = bt s 0 := IntWalk.i64_in _ (by omega)
  have HF := Aside0.mk hf
  clear hf
  have hsl : (1 : Int) ≤ (s.size : Int) := by omega
  go_enter Try.func29, Try.ntmps29
  go_wp2_with (go_at_call 17; fail)
  obtain ⟨W, hW, HBX⟩ := boxes_new w pc (bt s 0)
  rw [hW]
  refine (code_Form.calls (bt s 0) 45 _ HF.out).mono ?_
  rintro e W1 ⟨rfl, hb⟩
  replace HBX := HBX.below hb
  clear hb hW W
  have NE : w.heap.size ≠ w.heap.size + 1 ∧ w.heap.size ≠ w.heap.size + 1 + 1 ∧ w.heap.size ≠ w.heap.size + 1 + 1 + 1 ∧ w.heap.size + 1 ≠ w.heap.size + 1 + 1 ∧ w.heap.size + 1 ≠ w.heap.size + 1 + 1 + 1 ∧ w.heap.size + 1 + 1 ≠ w.heap.size + 1 + 1 + 1 := by omega
  generalize w.heap.size + 1 + 1 + 1 = T at *
  generalize w.heap.size + 1 + 1 = N at *
  generalize w.heap.size + 1 = X at *
  generalize hR : w.heap.size = R at *
  have HNE := Aside0.mk NE
  clear NE
  have x0 := blk_cell HBX.x 0
  have x1 := blk_cell HBX.x 1
  have x2 := blk_cell HBX.x 2
  have x3 := blk_cell HBX.x 3
  have x4 := blk_cell HBX.x 4
  have r0 := blk_cell HBX.r 0
  have r1 := blk_cell HBX.r 1
  have r2 := blk_cell HBX.r 2
  have r3 := blk_cell HBX.r 3
  have r4 := blk_cell HBX.r 4
  have f0 := blk_frozen HBX.r 0
  have f1 := blk_frozen HBX.r 1
  have f2 := blk_frozen HBX.r 2
  have f3 := blk_frozen HBX.r 3
  have f4 := blk_frozen HBX.r 4
  simp only [List.getElem?_toArray, List.getElem?_cons_zero, List.getElem?_cons_succ] at x0 x1 x2 x3 x4 r0 r1 r2 r3 r4
  have HBX2 := Aside0.mk HBX
  clear HBX
  go_wp2
  refine read_ret rfl rfl (set5 HBX2.out.r _ _ _ _ _) ⟨_, _, rfl, Kd.R_nil _ _ _ _ _, Kd.R_nil _ _ _ _ _, ?_⟩
  rw [hR]
  exact below5 (hR ▸ HBX2.out.b) (Nat.le_refl _) _ _ _ _ _

theorem toList_length (s : ByteArray) : s.toList.length = s.size := by rw [ByteArray.toList_eq, Array.length_toList]; rfl
theorem toList_ne (s : ByteArray) (h : 0 < s.size) : (s.toList == ([] : List UInt8)) = false ∧ (s.toList != ([] : List UInt8)) = true := by
  have h1 := toList_length s
  cases hl : s.toList with
  | nil => rw [hl] at h1; simp at h1; omega
  | cons a l => exact ⟨rfl, rfl⟩
theorem toList_nil (s : ByteArray) (h : s.size = 0) : (s.toList == ([] : List UInt8)) = true ∧ (s.toList != ([] : List UInt8)) = false := by
  have h1 := toList_length s
  cases hl : s.toList with
  | nil => exact ⟨rfl, rfl⟩
  | cons a l => rw [hl] at h1; simp at h1; omega

set_option maxRecDepth 100000 in
set_option maxHeartbeats 4000000 in
theorem read_b_short (s : ByteArray) (pc : Int) (hs : 0 < s.size) (w : World) (hf : code_Form.f (bt s 0) = some 98) (h1 : s.size = 1) :
    Calls Try.prog 29 #[.string s, .int .i64 pc] w fun e w' => ReadErr w w' e 5 := by
  have hu57 := Try.underlying57
  have hb0 := bt_at s 0 (by simpa using hs)
  simp only [Int.toNat_zero] at hb0
  obtain ⟨r0, r0'⟩ := bt_range s 0
  have w0 : IntKind.i64.wrap (bt s 0) = bt s 0 := IntWalk.i64_in _ (by omega)
  have HF := Aside0.mk hf
  clear hf
  have hsl : (1 : Int) ≤ (s.size : Int) := by omega
  go_enter Try.func29, Try.ntmps29
  go_wp2_with (go_at_call 17; fail)
  obtain ⟨W, hW, HBX⟩ := boxes_new w pc (bt s 0)
  rw [hW]
  refine (code_Form.calls (bt s 0) 98 _ HF.out).mono ?_
  rintro e W1 ⟨rfl, hb⟩
  replace HBX := HBX.below hb
  clear hb hW W
  have NE : w.heap.size ≠ w.heap.size + 1 ∧ w.heap.size ≠ w.heap.size + 1 + 1 ∧ w.heap.size ≠ w.heap.size + 1 + 1 + 1 ∧ w.heap.size + 1 ≠ w.heap.size + 1 + 1 ∧ w.heap.size + 1 ≠ w.heap.size + 1 + 1 + 1 ∧ w.heap.size + 1 + 1 ≠ w.heap.size + 1 + 1 + 1 := by omega
  generalize w.heap.size + 1 + 1 + 1 = T at *
  generalize w.heap.size + 1 + 1 = N at *
  generalize w.heap.size + 1 = X at *
  generalize hR : w.heap.size = R at *
  have HNE := Aside0.mk NE
  clear NE
  obtain ⟨q1, q2⟩ := toList_nil (s.extract 1 s.size) (by rw [ByteArray.size_extract]; omega)
  have H1 := Aside0.mk h1
  clear h1
  have x0 := blk_cell HBX.x 0
  have x1 := blk_cell HBX.x 1
  have x2 := blk_cell HBX.x 2
  have x3 := blk_cell HBX.x 3
  have x4 := blk_cell HBX.x 4
  have r0 := blk_cell HBX.r 0
  have r1 := blk_cell HBX.r 1
  have r2 := blk_cell HBX.r 2
  have r3 := blk_cell HBX.r 3
  have r4 := blk_cell HBX.r 4
  have f0 := blk_frozen HBX.r 0
  have f1 := blk_frozen HBX.r 1
  have f2 := blk_frozen HBX.r 2
  have f3 := blk_frozen HBX.r 3
  have f4 := blk_frozen HBX.r 4
  simp only [List.getElem?_toArray, List.getElem?_cons_zero, List.getElem?_cons_succ] at x0 x1 x2 x3 x4 r0 r1 r2 r3 r4
  have HBX2 := Aside0.mk HBX
  clear HBX
  go_wp2
  refine read_ret rfl rfl (set5 HBX2.out.r _ _ _ _ _) ⟨_, _, _, _, _, _, _, _, _, _, rfl, ?_⟩
  rw [hR]
  exact below5 (hR ▸ HBX2.out.b) (Nat.le_refl _) _ _ _ _ _

theorem Boxes.drew {w W : World} {R X N T : Nat} {rc xc : Array Value} {n t : Int} (h : Boxes w W R X N T rc xc n t) : Boxes w W.drew R X N T rc xc n t := ⟨h.r, h.x, h.n, h.t, h.hR, h.hX, h.hN, h.hT, below_drew h.b⟩
theorem Boxes.setX {w W : World} {R X N T : Nat} {rc xc xc' : Array Value} {n t : Int} (h : Boxes w W R X N T rc xc n t) (hR : R ≠ X) (hN : N ≠ X) (hT : T ≠ X) (i : Nat) (v : Value) (he : xc.setIfInBounds i v = xc') : Boxes w (W.setCell ⟨X, i, none⟩ v) R X N T rc xc' n t :=
  ⟨blk_far (p := ⟨X, i, none⟩) h.r hR v, blk_put h.x i v he, blk_far (p := ⟨X, i, none⟩) h.n hN v, blk_far (p := ⟨X, i, none⟩) h.t hT v, h.hR, h.hX, h.hN, h.hT, h.b.setCell (p := ⟨X, i, none⟩) h.hX v⟩

set_option maxRecDepth 100000 in
set_option maxHeartbeats 4000000 in
theorem read_b (s : ByteArray) (pc : Int) (hs : 0 < s.size) (w : World) (hf : code_Form.f (bt s 0) = some 98) (h1 : 1 < s.size) (hmax : s.size ≤ 1000000) :
    Calls Try.prog 29 #[.string s, .int .i64 pc] w fun e w' => ReadOk w w' e pc (bt s 0) (bt (behind s 1) 0) [] [] (behind s 2) := by
  have hu57 := Try.underlying57
  have hb0 := bt_at s 0 (by simpa using hs)
  simp only [Int.toNat_zero] at hb0
  obtain ⟨r0, r0'⟩ := bt_range s 0
  have w0 : IntKind.i64.wrap (bt s 0) = bt s 0 := IntWalk.i64_in _ (by omega)
  have HF := Aside0.mk hf
  clear hf
  have hsl : (1 : Int) ≤ (s.size : Int) := by omega
  go_enter Try.func29, Try.ntmps29
  go_wp2_with (go_at_call 17; fail)
  obtain ⟨W, hW, HBX⟩ := boxes_new w pc (bt s 0)
  rw [hW]
  refine (code_Form.calls (bt s 0) 98 _ HF.out).mono ?_
  rintro e W1 ⟨rfl, hb⟩
  replace HBX := HBX.below hb
  clear hb hW W
  have NE : w.heap.size ≠ w.heap.size + 1 ∧ w.heap.size ≠ w.heap.size + 1 + 1 ∧ w.heap.size ≠ w.heap.size + 1 + 1 + 1 ∧ w.heap.size + 1 ≠ w.heap.size + 1 + 1 ∧ w.heap.size + 1 ≠ w.heap.size + 1 + 1 + 1 ∧ w.heap.size + 1 + 1 ≠ w.heap.size + 1 + 1 + 1 := by omega
  generalize w.heap.size + 1 + 1 + 1 = T at *
  generalize w.heap.size + 1 + 1 = N at *
  generalize w.heap.size + 1 = X at *
  generalize hR : w.heap.size = R at *
  have HNE := Aside0.mk NE
  clear NE
  have hts : 1 ≤ (s.extract 1 s.size).size := by rw [ByteArray.size_extract]; omega
  obtain ⟨q1, q2⟩ := toList_ne (s.extract 1 s.size) hts
  have hbb := behind_behind s 1 1
  have hbe : s.extract 1 s.size = behind s 1 := rfl
  rw [hbe] at hts q1 q2 ⊢
  generalize ht : behind s 1 = t at hts q1 q2 hbb ⊢
  have HT := Aside0.mk ht
  clear ht
  have q3 : t.toList.isEmpty = false := by
    cases hl : t.toList with
    | nil => rw [hl] at q1; simp at q1
    | cons a l => rfl
  have hb1 := bt_at t 0 (show (0 : Int).toNat < t.size from hts)
  simp only [Int.toNat_zero] at hb1
  obtain ⟨g0, g0'⟩ := bt_range t 0
  have w1 : IntKind.i64.wrap (bt t 0) = bt t 0 := IntWalk.i64_in _ (by omega)
  have h0t : 0 < t.size := hts
  have h1t : (1 : Int) ≤ (t.size : Int) := by omega
  have HBB := Aside0.mk hbb
  clear hbb hbe q1 q2
  have x0 := blk_cell HBX.x 0
  have x1 := blk_cell HBX.x 1
  have x2 := blk_cell HBX.x 2
  have x3 := blk_cell HBX.x 3
  have x4 := blk_cell HBX.x 4
  have r0 := blk_cell HBX.r 0
  have r1 := blk_cell HBX.r 1
  have r2 := blk_cell HBX.r 2
  have r3 := blk_cell HBX.r 3
  have r4 := blk_cell HBX.r 4
  have f0 := blk_frozen HBX.r 0
  have f1 := blk_frozen HBX.r 1
  have f2 := blk_frozen HBX.r 2
  have f3 := blk_frozen HBX.r 3
  have f4 := blk_frozen HBX.r 4
  simp only [List.getElem?_toArray, List.getElem?_cons_zero, List.getElem?_cons_succ] at x0 x1 x2 x3 x4 r0 r1 r2 r3 r4
  have HBX2 := Aside0.mk HBX
  clear HBX
  go_wp2
  refine start_ (n := 8) (S := fun _ => True) (ds := [6]) #[false, false, false, false, false, false, false, false] (by kernel_rfl) rfl rfl trivial (fun hHeld => ?_)
  refine pure_ (i := 0) (N := some 32) (v := ?_) (a' := ?_) #[true, false, false, false, false, false, false, false] rfl rfl (by kernel_rfl) (fun _ _ _ h => h) (Or.inl ⟨by rfl, ?_⟩) ?_ ?_
  rotate_left
  · intro w'
    go_simp
    with_reducible rfl
  rotate_left
  · simp only [Act.put, List.setIfInBounds_toArray, List.set_cons_zero, List.set_cons_succ]
    rfl
  refine pure_ (i := 1) (N := some 33) (v := ?_) (a' := ?_) #[true, true, false, false, false, false, false, false] rfl rfl (by kernel_rfl) (fun _ _ _ h => h) (Or.inl ⟨by rfl, ?_⟩) ?_ ?_
  rotate_left
  · intro w'
    go_simp
    with_reducible rfl
  rotate_left
  · simp only [Act.put, List.setIfInBounds_toArray, List.set_cons_zero, List.set_cons_succ]
    rfl
  refine pure_ (i := 2) (N := some 34) (v := ?_) (a' := ?_) #[true, true, true, false, false, false, false, false] rfl rfl (by kernel_rfl) (fun _ _ _ h => h) (Or.inl ⟨by rfl, ?_⟩) ?_ ?_
  rotate_left
  · intro w'
    go_simp
    with_reducible rfl
  rotate_left
  · simp only [Act.put, List.setIfInBounds_toArray, List.set_cons_zero, List.set_cons_succ]
    rfl
  refine pure_ (i := 3) (N := some 35) (v := ?_) (a' := ?_) #[true, true, true, true, false, false, false, false] rfl rfl (by kernel_rfl) (fun _ _ _ h => h) (Or.inl ⟨by rfl, ?_⟩) ?_ ?_
  rotate_left
  · intro w'
    go_simp
    with_reducible rfl
  rotate_left
  · simp only [Act.put, List.setIfInBounds_toArray, List.set_cons_zero, List.set_cons_succ]
    rfl
  refine pure_ (i := 4) (N := some 36) (v := ?_) (a' := ?_) #[true, true, true, true, true, false, false, false] rfl rfl (by kernel_rfl) (fun _ _ _ h => h) (Or.inl ⟨by rfl, ?_⟩) ?_ ?_
  rotate_left
  · intro w'
    go_simp
    with_reducible rfl
  rotate_left
  · simp only [Act.put, List.setIfInBounds_toArray, List.set_cons_zero, List.set_cons_succ]
    rfl
  refine pure_ (i := 5) (N := some 37) (v := ?_) (a' := ?_) #[true, true, true, true, true, true, false, false] rfl rfl (by kernel_rfl) (fun _ _ _ h => h) (Or.inl ⟨by rfl, ?_⟩) ?_ ?_
  rotate_left
  · intro w'
    go_simp
    with_reducible rfl
  rotate_left
  · simp only [Act.put, List.setIfInBounds_toArray, List.set_cons_zero, List.set_cons_succ]
    rfl
  refine last_ (i := 6) (N := none) #[true, true, true, true, true, true, true, false] rfl rfl (by kernel_rfl) (by decide) (fun K hK => ?_)
  have fx2 : W1.drew.frozen? ⟨X, 2, none⟩ = false := blk_frozen HBX2.out.x 2
  have cx2 : W1.drew.cell? ⟨X, 2, none⟩ = some (.int .i64 0) := blk_cell HBX2.out.x 2
  refine skip_ (w1 := ?_) (by rfl) rfl ?_ ?_
  rotate_left
  · go_simp
    rfl
  refine hK.out _ _ ?_
  clear hK K
  clear x0 x1 x2 x3 x4 r0 r1 r2 r3 r4 f0 f1 f2 f3 f4 fx2 cx2
  obtain ⟨n1, n2, n3, n4, n5, n6⟩ := HNE.out
  have HBX := (HBX2.out.setX n1 (Ne.symm n4) (Ne.symm n5) 2 (.int .i64 (bt t 0)) rfl).drew
  clear HBX2 n1 n2 n3 n4 n5 n6
  generalize (W1.setCell ⟨X, 2, none⟩ (.int .i64 (bt t 0))).drew = W2 at HBX ⊢
  refine pure_ (i := 7) (N := some 8) (v := ?_) (a' := ?_) #[true, true, true, true, true, true, true, true] rfl rfl (by kernel_rfl) (fun _ _ _ h => h) (Or.inl ⟨by rfl, ?_⟩) ?_ ?_
  rotate_left
  · intro w'
    go_simp
    with_reducible rfl
  rotate_left
  · simp only [Act.put, List.setIfInBounds_toArray, List.set_cons_zero, List.set_cons_succ]
    rfl
  refine done_ (by kernel_rfl) ?_
  have x0 := blk_cell HBX.x 0
  have x1 := blk_cell HBX.x 1
  have x2 := blk_cell HBX.x 2
  have x3 := blk_cell HBX.x 3
  have x4 := blk_cell HBX.x 4
  have r0 := blk_cell HBX.r 0
  have r1 := blk_cell HBX.r 1
  have r2 := blk_cell HBX.r 2
  have r3 := blk_cell HBX.r 3
  have r4 := blk_cell HBX.r 4
  have f0 := blk_frozen HBX.r 0
  have f1 := blk_frozen HBX.r 1
  have f2 := blk_frozen HBX.r 2
  have f3 := blk_frozen HBX.r 3
  have f4 := blk_frozen HBX.r 4
  simp only [List.getElem?_toArray, List.getElem?_cons_zero, List.getElem?_cons_succ] at x0 x1 x2 x3 x4 r0 r1 r2 r3 r4
  have HBX2 := Aside0.mk HBX
  clear HBX
  go_wp2
  refine read_ret rfl rfl (set5 HBX2.out.r _ _ _ _ _) ⟨_, _, ?_, Kd.R_nil _ _ _ _ _, Kd.R_nil _ _ _ _ _, ?_⟩
  · show Ending.returned (.tuple #[.agg #[_, _, _, .slice none 0 0, .slice none 0 0], .string (behind t 1), .int .i64 0]) = _
    rw [HBB.out, HT.out]
  · rw [hR]
    exact below5 (hR ▸ HBX2.out.b) (Nat.le_refl _) _ _ _ _ _

end Go.Proofs.Ytnbjhfleoodncaa.X
