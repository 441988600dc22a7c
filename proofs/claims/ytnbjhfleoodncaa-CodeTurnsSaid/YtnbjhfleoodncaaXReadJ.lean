/- code.read, where an op has a place. Conditions: the text has a byte; the place fits. -/
import Derived.Test.YtnbjhfleoodncaaXReadN
namespace Go.Proofs.Ytnbjhfleoodncaa.X
open Go.RowKit Go.Shelf Go.Proofs.YtnbjhfleoodncaaW.PrintWords Go.Proofs.YtnbjhfleoodncaaW.PrintLast Go.Proofs.YtnbjhfleoodncaaW.PrintMore
set_option linter.unusedVariables false
set_option linter.unusedSimpArgs false
theorem R_set5 {W : World} {base R : Nat} {ok : Nat → Prop} {v : Value} {xs : List Int} {r0 r1 r2 r3 r4 : Value} (h : Kd.R (Kd.int .i64) 3 W base ok v xs) (hb : W.heap[R]? = some (.cells #[r0, r1, r2, r3, r4] 57 (0, 0))) (a0 a1 a2 a3 a4 : Value) :
    Kd.R (Kd.int .i64) 3 (((((W.setCell ⟨R, 0, none⟩ a0).setCell ⟨R, 1, none⟩ a1).setCell ⟨R, 2, none⟩ a2).setCell ⟨R, 3, none⟩ a3).setCell ⟨R, 4, none⟩ a4) base ok v xs := by
  have b0 := blk_put (cs' := #[a0, r1, r2, r3, r4]) hb 0 a0 rfl
  have b1 := blk_put (cs' := #[a0, a1, r2, r3, r4]) b0 1 a1 rfl
  have b2 := blk_put (cs' := #[a0, a1, a2, r3, r4]) b1 2 a2 rfl
  have b3 := blk_put (cs' := #[a0, a1, a2, a3, r4]) b2 3 a3 rfl
  exact Kd.R_set (Kd.R_set (Kd.R_set (Kd.R_set (Kd.R_set h hb (by simp [Kd.int, Kd.scalar]) 0 a0) b0 (by simp [Kd.int, Kd.scalar]) 1 a1) b1 (by simp [Kd.int, Kd.scalar]) 2 a2) b2 (by simp [Kd.int, Kd.scalar]) 3 a3) b3 (by simp [Kd.int, Kd.scalar]) 4 a4

set_option maxRecDepth 100000 in
set_option maxHeartbeats 4000000 in
theorem read_j (s : ByteArray) (pc : Int) (hs : 0 < s.size) (w : World) (hf : code_Form.f (bt s 0) = some 106) (hmax : s.size ≤ 1000000) (hn3 : 3 ≤ s.size) (fr : Int) (hfar : code_far.f pc (num2 (behind s 1)) = some fr) :
    Calls Try.prog 29 #[.string s, .int .i64 pc] w fun e w' => ReadOk w w' e pc (bt s 0) 0 [] [fr] (behind s 3) := by
  have hu57 := Try.underlying57
  have hb0 := bt_at s 0 (by simpa using hs)
  simp only [Int.toNat_zero] at hb0
  obtain ⟨r0, r0'⟩ := bt_range s 0
  have w0 : IntKind.i64.wrap (bt s 0) = bt s 0 := IntWalk.i64_in _ (by omega)
  have HF := Aside0.mk hf
  clear hf
  have hsl : (1 : Int) ≤ (s.size : Int) := by omega
  go_enter Try.func29, Try.ntmps29
  go_wp2_with (go_at_call 17; fail)
  obtain ⟨W, hW, HBX⟩ := boxes_new w pc (bt s 0)
  rw [hW]
  refine (code_Form.calls (bt s 0) 106 _ HF.out).mono ?_
  rintro e W1 ⟨rfl, hb⟩
  replace HBX := HBX.below hb
  clear hb hW W
  have NE : w.heap.size ≠ w.heap.size + 1 ∧ w.heap.size ≠ w.heap.size + 1 + 1 ∧ w.heap.size ≠ w.heap.size + 1 + 1 + 1 ∧ w.heap.size + 1 ≠ w.heap.size + 1 + 1 ∧ w.heap.size + 1 ≠ w.heap.size + 1 + 1 + 1 ∧ w.heap.size + 1 + 1 ≠ w.heap.size + 1 + 1 + 1 := by omega
  generalize w.heap.size + 1 + 1 + 1 = T at *
  generalize w.heap.size + 1 + 1 = N at *
  generalize w.heap.size + 1 = X at *
  generalize hR : w.heap.size = R at *
  have HNE := Aside0.mk NE
  clear NE
  have HFAR := Aside0.mk hfar
  clear hfar
  have hbb := behind_behind s 1 2
  have hbs := behind_size s 1
  have hbe : s.extract 1 s.size = behind s 1 := rfl
  rw [hbe]
  generalize ht : behind s 1 = t at hbb hbs ⊢
  have HT := Aside0.mk ht
  have HBB := Aside0.mk hbb
  have HBS := Aside0.mk hbs
  have HN3 := Aside0.mk hn3
  clear hbb hbe ht hbs hn3
  have x0 := blk_cell HBX.x 0
  have x1 := blk_cell HBX.x 1
  have x2 := blk_cell HBX.x 2
  have x3 := blk_cell HBX.x 3
  have x4 := blk_cell HBX.x 4
  have r0 := blk_cell HBX.r 0
  have r1 := blk_cell HBX.r 1
  have r2 := blk_cell HBX.r 2
  have r3 := blk_cell HBX.r 3
  have r4 := blk_cell HBX.r 4
  have f0 := blk_frozen HBX.r 0
  have f1 := blk_frozen HBX.r 1
  have f2 := blk_frozen HBX.r 2
  have f3 := blk_frozen HBX.r 3
  have f4 := blk_frozen HBX.r 4
  simp only [List.getElem?_toArray, List.getElem?_cons_zero, List.getElem?_cons_succ] at x0 x1 x2 x3 x4 r0 r1 r2 r3 r4
  have HBX2 := Aside0.mk HBX
  clear HBX
  have ct : W1.cell? ⟨T, 0, none⟩ = some (.int .i64 0) := blk_cell HBX2.out.t 0
  have ft : W1.frozen? ⟨T, 0, none⟩ = false := blk_frozen HBX2.out.t 0
  have hPl := Aside0.mk (places1 (m := 90) ct ft)
  go_wp2_with (go_at_call 36; fail)
  refine (take_calls t W1.heap.size [⟨T, 0, none⟩] 1 (by simp) (by rw [HBS.out]; omega) _ hPl.out).mono ?_
  clear ct ft x0 x1 x2 x3 x4 r0 r1 r2 r3 r4 f0 f1 f2 f3 f4 hPl
  intro e W2 hres
  rw [if_neg (show ¬ t.size < 2 * [(⟨T, 0, none⟩ : Addr)].length by have := HBS.out; have := HN3.out; simp; omega)] at hres
  obtain ⟨rfl, m, hW2⟩ := hres
  obtain ⟨n1, n2, n3, n4, n5, n6⟩ := HNE.out
  have HBX := ((HBX2.out.alloc (.cells #[.pointer (some ⟨T, 0, none⟩)] 90)).setT n3 n5 n6 (num2 t)).drewN m
  have hW2' : W2 = ((W1.alloc (.cells #[.pointer (some ⟨T, 0, none⟩)] 90)).setCell ⟨T, 0, none⟩ (.int .i64 (num2 t))).drewN m := hW2
  rw [← hW2'] at HBX
  clear HBX2 n1 n2 n3 n4 n5 n6 hW2 hW2'
  have hb2 : behind t (2 * [(⟨T, 0, none⟩ : Addr)].length) = behind t 2 := rfl
  rw [hb2]
  clear hb2
  have x0 := blk_cell HBX.x 0
  have x1 := blk_cell HBX.x 1
  have x2 := blk_cell HBX.x 2
  have x3 := blk_cell HBX.x 3
  have x4 := blk_cell HBX.x 4
  have r0 := blk_cell HBX.r 0
  have r1 := blk_cell HBX.r 1
  have r2 := blk_cell HBX.r 2
  have r3 := blk_cell HBX.r 3
  have r4 := blk_cell HBX.r 4
  have f0 := blk_frozen HBX.r 0
  have f1 := blk_frozen HBX.r 1
  have f2 := blk_frozen HBX.r 2
  have f3 := blk_frozen HBX.r 3
  have f4 := blk_frozen HBX.r 4
  simp only [List.getElem?_toArray, List.getElem?_cons_zero, List.getElem?_cons_succ] at x0 x1 x2 x3 x4 r0 r1 r2 r3 r4
  have HBX2 := Aside0.mk HBX
  clear HBX
  have ct : W2.cell? ⟨T, 0, none⟩ = some (.int .i64 (num2 t)) := blk_cell HBX2.out.t 0
  rw [HT.out] at HFAR
  go_wp2_with (go_at_call 37; fail)
  refine (code_far.calls pc (num2 t) fr _ HFAR.out).mono ?_
  rintro e W3 ⟨rfl, hdr⟩
  have HBX := HBX2.out.below hdr.below
  clear hdr HBX2 x0 x1 x2 x3 x4 r0 r1 r2 r3 r4 f0 f1 f2 f3 f4 ct
  obtain ⟨n1, n2, n3, n4, n5, n6⟩ := HNE.out
  have hX3 := blk_lt HBX.x
  have hHB3 := HBX.b
  have HBY := (HBX.setX n1 (Ne.symm n4) (Ne.symm n5) 4 (.slice (some ⟨W3.heap.size, 0, none⟩) 1 1) rfl).alloc (.cells #[.int .i64 fr] 3)
  have cx4 : (W3.alloc (.cells #[.int .i64 fr] 3)).cell? ⟨X, 4, none⟩ = some (.slice none 0 0) := blk_cell (HBX.alloc (.cells #[.int .i64 fr] 3)).x 4
  have fx4 : (W3.alloc (.cells #[.int .i64 fr] 3)).frozen? ⟨X, 4, none⟩ = false := blk_frozen (HBX.alloc (.cells #[.int .i64 fr] 3)).x 4
  have hszz : (W3.setCell ⟨X, 4, none⟩ (.slice (some ⟨W3.heap.size, 0, none⟩) 1 1)).heap.size = W3.heap.size := by simp [World.setCell]
  have hown := own_lit (W3.setCell ⟨X, 4, none⟩ (.slice (some ⟨W3.heap.size, 0, none⟩) 1 1)) w.heap.size 3 .i64 [fr] (by rw [hszz]; exact hHB3.size) (by simp)
  rw [hszz] at hown
  replace hown : ((W3.setCell ⟨X, 4, none⟩ (.slice (some ⟨W3.heap.size, 0, none⟩) 1 1)).alloc (.cells #[.int .i64 fr] 3)).ownsRow w.heap.size 3 1 (.slice (some ⟨W3.heap.size, 0, none⟩) 1 1) 1 [.int .i64 fr] := hown
  clear n1 n2 n3 n4 n5 n6
  have HBX2 := Aside0.mk HBX
  have HBY2 := Aside0.mk HBY
  have HOWN := Aside0.mk hown
  clear HBX HBY hown
  go_upto_region 24 with (fail)
  clear cx4 fx4 HBX2
  generalize (W3.setCell ⟨X, 4, none⟩ (.slice (some ⟨W3.heap.size, 0, none⟩) 1 1)).alloc (.cells #[.int .i64 fr] 3) = W4 at HBY2 HOWN ⊢
  have HBX := HBY2.out
  clear HBY2
  have x0 := blk_cell HBX.x 0
  have x1 := blk_cell HBX.x 1
  have x2 := blk_cell HBX.x 2
  have x3 := blk_cell HBX.x 3
  have x4 := blk_cell HBX.x 4
  have r0 := blk_cell HBX.r 0
  have r1 := blk_cell HBX.r 1
  have r2 := blk_cell HBX.r 2
  have r3 := blk_cell HBX.r 3
  have r4 := blk_cell HBX.r 4
  have f0 := blk_frozen HBX.r 0
  have f1 := blk_frozen HBX.r 1
  have f2 := blk_frozen HBX.r 2
  have f3 := blk_frozen HBX.r 3
  have f4 := blk_frozen HBX.r 4
  simp only [List.getElem?_toArray, List.getElem?_cons_zero, List.getElem?_cons_succ] at x0 x1 x2 x3 x4 r0 r1 r2 r3 r4
  have HBX2 := Aside0.mk HBX
  clear HBX
  go_wp2
  refine read_ret rfl rfl (set5 HBX2.out.r _ _ _ _ _) ⟨.slice none 0 0, .slice (some ⟨W3.heap.size, 0, none⟩) 1 1, ?_, Kd.R_nil _ _ _ _ _, ?_, ?_⟩
  · show Ending.returned (.tuple #[.agg #[_, _, _, .slice none 0 0, .slice (some ⟨W3.heap.size, 0, none⟩) 1 1], .string (behind t 2), .int .i64 0]) = _
    rw [HBB.out]
  · exact R_set5 (Kd.R_of_own (xs := [fr]) HOWN.out (fun k hk => by simp [Value.ownBlock])) HBX2.out.r _ _ _ _ _
  · rw [hR]
    exact below5 (hR ▸ HBX2.out.b) (Nat.le_refl _) _ _ _ _ _

end Go.Proofs.Ytnbjhfleoodncaa.X
