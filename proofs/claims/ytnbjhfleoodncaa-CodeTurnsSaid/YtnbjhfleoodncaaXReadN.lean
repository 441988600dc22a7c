/- code.read, where an op has a number of two bytes, or a place. Conditions: the text has a byte; the place fits. -/
import Derived.Test.YtnbjhfleoodncaaXRead
namespace Go.Proofs.Ytnbjhfleoodncaa.X
open Go.RowKit Go.Shelf Go.Proofs.YtnbjhfleoodncaaW.PrintWords Go.Proofs.YtnbjhfleoodncaaW.PrintLast Go.Proofs.YtnbjhfleoodncaaW.PrintMore
set_option linter.unusedVariables false
set_option linter.unusedSimpArgs false

theorem Boxes.drewN {w W : World} {R X N T : Nat} {rc xc : Array Value} {n t : Int} (h : Boxes w W R X N T rc xc n t) (m : Nat) : Boxes w (W.drewN m) R X N T rc xc n t := ⟨h.r, h.x, h.n, h.t, h.hR, h.hX, h.hN, h.hT, pw_below_drewN h.b m⟩
theorem Boxes.alloc {w W : World} {R X N T : Nat} {rc xc : Array Value} {n t : Int} (h : Boxes w W R X N T rc xc n t) (o : Obj) : Boxes w (W.alloc o) R X N T rc xc n t := h.below (below_alloc (Below.refl _ _) _)
theorem Boxes.setT {w W : World} {R X N T : Nat} {rc xc : Array Value} {n t : Int} (h : Boxes w W R X N T rc xc n t) (hR : R ≠ T) (hX : X ≠ T) (hN : N ≠ T) (v : Int) : Boxes w (W.setCell ⟨T, 0, none⟩ (.int .i64 v)) R X N T rc xc n v :=
  ⟨blk_far (p := ⟨T, 0, none⟩) h.r hR _, blk_far (p := ⟨T, 0, none⟩) h.x hX _, blk_far (p := ⟨T, 0, none⟩) h.n hN _, blk_set h.t 0 _, h.hR, h.hX, h.hN, h.hT, h.b.setCell (p := ⟨T, 0, none⟩) h.hT _⟩
theorem Boxes.setN {w W : World} {R X N T : Nat} {rc xc : Array Value} {n t : Int} (h : Boxes w W R X N T rc xc n t) (hR : R ≠ N) (hX : X ≠ N) (hT : T ≠ N) (v : Int) : Boxes w (W.setCell ⟨N, 0, none⟩ (.int .i64 v)) R X N T rc xc v t :=
  ⟨blk_far (p := ⟨N, 0, none⟩) h.r hR _, blk_far (p := ⟨N, 0, none⟩) h.x hX _, blk_set h.n 0 _, blk_far (p := ⟨N, 0, none⟩) h.t hT _, h.hR, h.hX, h.hN, h.hT, h.b.setCell (p := ⟨N, 0, none⟩) h.hN _⟩
theorem places1 {W : World} {b o : Nat} {v : Value} {m : Nat} (hp : W.cell? ⟨b, o, none⟩ = some v) (hf : W.frozen? ⟨b, o, none⟩ = false) : Places (W.alloc (.cells #[.pointer (some ⟨b, o, none⟩)] m)) W.heap.size [⟨b, o, none⟩] := by
  have hlt : b < W.heap.size := World.block_lt_of_cell? _ _ hp
  refine ⟨fun i hi => ?_, fun q hq => ?_⟩
  · obtain rfl : i = 0 := by simp at hi; exact hi
    exact blk_cell (blk_new _ _) 0
  · obtain rfl : q = ⟨b, o, none⟩ := by simpa using hq
    refine ⟨Nat.ne_of_lt hlt, ⟨v, by rw [World.cell?_alloc_lt _ _ _ hlt]; exact hp⟩, ?_⟩
    rw [World.frozen?_alloc_past (hn := hlt)]
    exact hf

set_option maxRecDepth 100000 in
set_option maxHeartbeats 4000000 in
theorem read_n_short (s : ByteArray) (pc : Int) (hs : 0 < s.size) (w : World) (hf : code_Form.f (bt s 0) = some 110) (hmax : s.size ≤ 1000000) (hn3 : s.size < 3) :
    Calls Try.prog 29 #[.string s, .int .i64 pc] w fun e w' => ReadErr w w' e 5 := by
  have hu57 := Try.underlying57
  have hb0 := bt_at s 0 (by simpa using hs)
  simp only [Int.toNat_zero] at hb0
  obtain ⟨r0, r0'⟩ := bt_range s 0
  have w0 : IntKind.i64.wrap (bt s 0) = bt s 0 := IntWalk.i64_in _ (by omega)
  have HF := Aside0.mk hf
  clear hf
  have hsl : (1 : Int) ≤ (s.size : Int) := by omega
  go_enter Try.func29, Try.ntmps29
  go_wp2_with (go_at_call 17; fail)
  obtain ⟨W, hW, HBX⟩ := boxes_new w pc (bt s 0)
  rw [hW]
  refine (code_Form.calls (bt s 0) 110 _ HF.out).mono ?_
  rintro e W1 ⟨rfl, hb⟩
  replace HBX := HBX.below hb
  clear hb hW W
  have NE : w.heap.size ≠ w.heap.size + 1 ∧ w.heap.size ≠ w.heap.size + 1 + 1 ∧ w.heap.size ≠ w.heap.size + 1 + 1 + 1 ∧ w.heap.size + 1 ≠ w.heap.size + 1 + 1 ∧ w.heap.size + 1 ≠ w.heap.size + 1 + 1 + 1 ∧ w.heap.size + 1 + 1 ≠ w.heap.size + 1 + 1 + 1 := by omega
  generalize w.heap.size + 1 + 1 + 1 = T at *
  generalize w.heap.size + 1 + 1 = N at *
  generalize w.heap.size + 1 = X at *
  generalize hR : w.heap.size = R at *
  have HNE := Aside0.mk NE
  clear NE
  have hbb := behind_behind s 1 2
  have hbs := behind_size s 1
  have hbe : s.extract 1 s.size = behind s 1 := rfl
  rw [hbe]
  generalize ht : behind s 1 = t at hbb hbs ⊢
  have HT := Aside0.mk ht
  have HBB := Aside0.mk hbb
  have HBS := Aside0.mk hbs
  have HN3 := Aside0.mk hn3
  clear hbb hbe ht hbs hn3
  have x0 := blk_cell HBX.x 0
  have x1 := blk_cell HBX.x 1
  have x2 := blk_cell HBX.x 2
  have x3 := blk_cell HBX.x 3
  have x4 := blk_cell HBX.x 4
  have r0 := blk_cell HBX.r 0
  have r1 := blk_cell HBX.r 1
  have r2 := blk_cell HBX.r 2
  have r3 := blk_cell HBX.r 3
  have r4 := blk_cell HBX.r 4
  have f0 := blk_frozen HBX.r 0
  have f1 := blk_frozen HBX.r 1
  have f2 := blk_frozen HBX.r 2
  have f3 := blk_frozen HBX.r 3
  have f4 := blk_frozen HBX.r 4
  simp only [List.getElem?_toArray, List.getElem?_cons_zero, List.getElem?_cons_succ] at x0 x1 x2 x3 x4 r0 r1 r2 r3 r4
  have HBX2 := Aside0.mk HBX
  clear HBX
  have cx2 : W1.cell? ⟨X, 2, none⟩ = some (.int .i64 0) := blk_cell HBX2.out.x 2
  have fx2 : W1.frozen? ⟨X, 2, none⟩ = false := blk_frozen HBX2.out.x 2
  have hPl := Aside0.mk (places1 (m := 90) cx2 fx2)
  go_wp2_with (go_at_call 36; fail)
  refine (take_calls t W1.heap.size [⟨X, 2, none⟩] 1 (by simp) (by rw [HBS.out]; omega) _ hPl.out).mono ?_
  clear cx2 fx2 x0 x1 x2 x3 x4 r0 r1 r2 r3 r4 f0 f1 f2 f3 f4 hPl
  intro e W2 hres
  rw [if_pos (show t.size < 2 * [(⟨X, 2, none⟩ : Addr)].length by have := HBS.out; have := HN3.out; simp; omega)] at hres
  obtain ⟨rfl, rfl⟩ := hres
  have HBX := HBX2.out.alloc (.cells #[.pointer (some ⟨X, 2, none⟩)] 90)
  generalize W1.alloc (.cells #[.pointer (some ⟨X, 2, none⟩)] 90) = W2 at HBX ⊢
  clear HBX2
  have x0 := blk_cell HBX.x 0
  have x1 := blk_cell HBX.x 1
  have x2 := blk_cell HBX.x 2
  have x3 := blk_cell HBX.x 3
  have x4 := blk_cell HBX.x 4
  have r0 := blk_cell HBX.r 0
  have r1 := blk_cell HBX.r 1
  have r2 := blk_cell HBX.r 2
  have r3 := blk_cell HBX.r 3
  have r4 := blk_cell HBX.r 4
  have f0 := blk_frozen HBX.r 0
  have f1 := blk_frozen HBX.r 1
  have f2 := blk_frozen HBX.r 2
  have f3 := blk_frozen HBX.r 3
  have f4 := blk_frozen HBX.r 4
  simp only [List.getElem?_toArray, List.getElem?_cons_zero, List.getElem?_cons_succ] at x0 x1 x2 x3 x4 r0 r1 r2 r3 r4
  have HBX2 := Aside0.mk HBX
  clear HBX
  go_wp2
  refine read_ret rfl rfl (set5 HBX2.out.r _ _ _ _ _) ⟨_, _, _, _, _, _, _, _, _, _, rfl, ?_⟩
  rw [hR]
  exact below5 (hR ▸ HBX2.out.b) (Nat.le_refl _) _ _ _ _ _

set_option maxRecDepth 100000 in
set_option maxHeartbeats 4000000 in
theorem read_n (s : ByteArray) (pc : Int) (hs : 0 < s.size) (w : World) (hf : code_Form.f (bt s 0) = some 110) (hmax : s.size ≤ 1000000) (hn3 : 3 ≤ s.size) :
    Calls Try.prog 29 #[.string s, .int .i64 pc] w fun e w' => ReadOk w w' e pc (bt s 0) (num2 (behind s 1)) [] [] (behind s 3) := by
  have hu57 := Try.underlying57
  have hb0 := bt_at s 0 (by simpa using hs)
  simp only [Int.toNat_zero] at hb0
  obtain ⟨r0, r0'⟩ := bt_range s 0
  have w0 : IntKind.i64.wrap (bt s 0) = bt s 0 := IntWalk.i64_in _ (by omega)
  have HF := Aside0.mk hf
  clear hf
  have hsl : (1 : Int) ≤ (s.size : Int) := by omega
  go_enter Try.func29, Try.ntmps29
  go_wp2_with (go_at_call 17; fail)
  obtain ⟨W, hW, HBX⟩ := boxes_new w pc (bt s 0)
  rw [hW]
  refine (code_Form.calls (bt s 0) 110 _ HF.out).mono ?_
  rintro e W1 ⟨rfl, hb⟩
  replace HBX := HBX.below hb
  clear hb hW W
  have NE : w.heap.size ≠ w.heap.size + 1 ∧ w.heap.size ≠ w.heap.size + 1 + 1 ∧ w.heap.size ≠ w.heap.size + 1 + 1 + 1 ∧ w.heap.size + 1 ≠ w.heap.size + 1 + 1 ∧ w.heap.size + 1 ≠ w.heap.size + 1 + 1 + 1 ∧ w.heap.size + 1 + 1 ≠ w.heap.size + 1 + 1 + 1 := by omega
  generalize w.heap.size + 1 + 1 + 1 = T at *
  generalize w.heap.size + 1 + 1 = N at *
  generalize w.heap.size + 1 = X at *
  generalize hR : w.heap.size = R at *
  have HNE := Aside0.mk NE
  clear NE
  have hbb := behind_behind s 1 2
  have hbs := behind_size s 1
  have hbe : s.extract 1 s.size = behind s 1 := rfl
  rw [hbe]
  generalize ht : behind s 1 = t at hbb hbs ⊢
  have HT := Aside0.mk ht
  have HBB := Aside0.mk hbb
  have HBS := Aside0.mk hbs
  have HN3 := Aside0.mk hn3
  clear hbb hbe ht hbs hn3
  have x0 := blk_cell HBX.x 0
  have x1 := blk_cell HBX.x 1
  have x2 := blk_cell HBX.x 2
  have x3 := blk_cell HBX.x 3
  have x4 := blk_cell HBX.x 4
  have r0 := blk_cell HBX.r 0
  have r1 := blk_cell HBX.r 1
  have r2 := blk_cell HBX.r 2
  have r3 := blk_cell HBX.r 3
  have r4 := blk_cell HBX.r 4
  have f0 := blk_frozen HBX.r 0
  have f1 := blk_frozen HBX.r 1
  have f2 := blk_frozen HBX.r 2
  have f3 := blk_frozen HBX.r 3
  have f4 := blk_frozen HBX.r 4
  simp only [List.getElem?_toArray, List.getElem?_cons_zero, List.getElem?_cons_succ] at x0 x1 x2 x3 x4 r0 r1 r2 r3 r4
  have HBX2 := Aside0.mk HBX
  clear HBX
  have cx2 : W1.cell? ⟨X, 2, none⟩ = some (.int .i64 0) := blk_cell HBX2.out.x 2
  have fx2 : W1.frozen? ⟨X, 2, none⟩ = false := blk_frozen HBX2.out.x 2
  have hPl := Aside0.mk (places1 (m := 90) cx2 fx2)
  go_wp2_with (go_at_call 36; fail)
  refine (take_calls t W1.heap.size [⟨X, 2, none⟩] 1 (by simp) (by rw [HBS.out]; omega) _ hPl.out).mono ?_
  clear cx2 fx2 x0 x1 x2 x3 x4 r0 r1 r2 r3 r4 f0 f1 f2 f3 f4 hPl
  intro e W2 hres
  rw [if_neg (show ¬ t.size < 2 * [(⟨X, 2, none⟩ : Addr)].length by have := HBS.out; have := HN3.out; simp; omega)] at hres
  obtain ⟨rfl, m, hW2⟩ := hres
  obtain ⟨n1, n2, n3, n4, n5, n6⟩ := HNE.out
  have HBX := ((HBX2.out.alloc (.cells #[.pointer (some ⟨X, 2, none⟩)] 90)).setX n1 (Ne.symm n4) (Ne.symm n5) 2 (.int .i64 (num2 t)) rfl).drewN m
  have hW2' : W2 = ((W1.alloc (.cells #[.pointer (some ⟨X, 2, none⟩)] 90)).setCell ⟨X, 2, none⟩ (.int .i64 (num2 t))).drewN m := hW2
  rw [← hW2'] at HBX
  clear HBX2 n1 n2 n3 n4 n5 n6 hW2 hW2'
  have hb2 : behind t (2 * [(⟨X, 2, none⟩ : Addr)].length) = behind t 2 := rfl
  rw [hb2]
  clear hb2
  have x0 := blk_cell HBX.x 0
  have x1 := blk_cell HBX.x 1
  have x2 := blk_cell HBX.x 2
  have x3 := blk_cell HBX.x 3
  have x4 := blk_cell HBX.x 4
  have r0 := blk_cell HBX.r 0
  have r1 := blk_cell HBX.r 1
  have r2 := blk_cell HBX.r 2
  have r3 := blk_cell HBX.r 3
  have r4 := blk_cell HBX.r 4
  have f0 := blk_frozen HBX.r 0
  have f1 := blk_frozen HBX.r 1
  have f2 := blk_frozen HBX.r 2
  have f3 := blk_frozen HBX.r 3
  have f4 := blk_frozen HBX.r 4
  simp only [List.getElem?_toArray, List.getElem?_cons_zero, List.getElem?_cons_succ] at x0 x1 x2 x3 x4 r0 r1 r2 r3 r4
  have HBX2 := Aside0.mk HBX
  clear HBX
  go_wp2
  refine read_ret rfl rfl (set5 HBX2.out.r _ _ _ _ _) ⟨_, _, ?_, Kd.R_nil _ _ _ _ _, Kd.R_nil _ _ _ _ _, ?_⟩
  · show Ending.returned (.tuple #[.agg #[_, _, _, .slice none 0 0, .slice none 0 0], .string (behind t 2), .int .i64 0]) = _
    rw [HBB.out, HT.out]
  · rw [hR]
    exact below5 (hR ▸ HBX2.out.b) (Nat.le_refl _) _ _ _ _ _

end Go.Proofs.Ytnbjhfleoodncaa.X
