/- code.read, where an op is a switch and there are too few bytes. Conditions: the text has a byte; the place fits. -/
import Derived.Test.YtnbjhfleoodncaaXReadS
namespace Go.Proofs.Ytnbjhfleoodncaa.X
open Go.RowKit Go.Shelf Go.Proofs.YtnbjhfleoodncaaW.PrintWords Go.Proofs.YtnbjhfleoodncaaW.PrintLast Go.Proofs.YtnbjhfleoodncaaW.PrintMore
set_option linter.unusedVariables false
set_option linter.unusedSimpArgs false
set_option maxRecDepth 100000 in
set_option maxHeartbeats 4000000 in
theorem read_s_short (s : ByteArray) (pc : Int) (hs : 0 < s.size) (w : World) (hf : code_Form.f (bt s 0) = some 115) (hmax : s.size ≤ 1000000) (hn5 : s.size < 5) :
    Calls Try.prog 29 #[.string s, .int .i64 pc] w fun e w' => ReadErr w w' e 5 := by
  have hu57 := Try.underlying57
  have hb0 := bt_at s 0 (by simpa using hs)
  simp only [Int.toNat_zero] at hb0
  obtain ⟨r0, r0'⟩ := bt_range s 0
  have w0 : IntKind.i64.wrap (bt s 0) = bt s 0 := IntWalk.i64_in _ (by omega)
  have HF := Aside0.mk hf
  clear hf
  have hsl : (1 : Int) ≤ (s.size : Int) := by omega
  go_enter Try.func29, Try.ntmps29
  go_wp2_with (go_at_call 17; fail)
  obtain ⟨W, hW, HBX⟩ := boxes_new w pc (bt s 0)
  rw [hW]
  refine (code_Form.calls (bt s 0) 115 _ HF.out).mono ?_
  rintro e W1 ⟨rfl, hb⟩
  replace HBX := HBX.below hb
  clear hb hW W
  have NE : w.heap.size ≠ w.heap.size + 1 ∧ w.heap.size ≠ w.heap.size + 1 + 1 ∧ w.heap.size ≠ w.heap.size + 1 + 1 + 1 ∧ w.heap.size + 1 ≠ w.heap.size + 1 + 1 ∧ w.heap.size + 1 ≠ w.heap.size + 1 + 1 + 1 ∧ w.heap.size + 1 + 1 ≠ w.heap.size + 1 + 1 + 1 := by omega
  generalize w.heap.size + 1 + 1 + 1 = T at *
  generalize w.heap.size + 1 + 1 = N at *
  generalize w.heap.size + 1 = X at *
  generalize hR : w.heap.size = R at *
  have HNE := Aside0.mk NE
  clear NE
  have hbb := behind_behind s 1 4
  have hbs := behind_size s 1
  have hbe : s.extract 1 s.size = behind s 1 := rfl
  rw [hbe]
  generalize ht : behind s 1 = t at hbb hbs ⊢
  have hb4 := behind_behind t 2 2
  have HT := Aside0.mk ht
  have HBB := Aside0.mk hbb
  have HBS := Aside0.mk hbs
  have HN5 := Aside0.mk hn5
  clear hbb hbe ht hbs hn5 hb4
  have x0 := blk_cell HBX.x 0
  have x1 := blk_cell HBX.x 1
  have x2 := blk_cell HBX.x 2
  have x3 := blk_cell HBX.x 3
  have x4 := blk_cell HBX.x 4
  have r0 := blk_cell HBX.r 0
  have r1 := blk_cell HBX.r 1
  have r2 := blk_cell HBX.r 2
  have r3 := blk_cell HBX.r 3
  have r4 := blk_cell HBX.r 4
  have f0 := blk_frozen HBX.r 0
  have f1 := blk_frozen HBX.r 1
  have f2 := blk_frozen HBX.r 2
  have f3 := blk_frozen HBX.r 3
  have f4 := blk_frozen HBX.r 4
  simp only [List.getElem?_toArray, List.getElem?_cons_zero, List.getElem?_cons_succ] at x0 x1 x2 x3 x4 r0 r1 r2 r3 r4
  have HBX2 := Aside0.mk HBX
  clear HBX
  have ct : W1.cell? ⟨T, 0, none⟩ = some (.int .i64 0) := blk_cell HBX2.out.t 0
  have ft : W1.frozen? ⟨T, 0, none⟩ = false := blk_frozen HBX2.out.t 0
  have cn : W1.cell? ⟨N, 0, none⟩ = some (.int .i64 0) := blk_cell HBX2.out.n 0
  have fn : W1.frozen? ⟨N, 0, none⟩ = false := blk_frozen HBX2.out.n 0
  have hPl := Aside0.mk (places2 (m := 90) ct ft cn fn)
  clear cn fn
  go_wp2_with (go_at_call 36; fail)
  refine (take_calls t W1.heap.size [⟨T, 0, none⟩, ⟨N, 0, none⟩] 2 (by simp) (by rw [HBS.out]; omega) _ hPl.out).mono ?_
  clear ct ft x0 x1 x2 x3 x4 r0 r1 r2 r3 r4 f0 f1 f2 f3 f4 hPl
  intro e W2 hres
  rw [if_pos (show t.size < 2 * [(⟨T, 0, none⟩ : Addr), ⟨N, 0, none⟩].length by have := HBS.out; have := HN5.out; simp; omega)] at hres
  obtain ⟨rfl, hW2⟩ := hres
  have HBX := HBX2.out.alloc (.cells #[.pointer (some ⟨T, 0, none⟩), .pointer (some ⟨N, 0, none⟩)] 90)
  rw [← hW2] at HBX
  clear HBX2 hW2
  have x0 := blk_cell HBX.x 0
  have x1 := blk_cell HBX.x 1
  have x2 := blk_cell HBX.x 2
  have x3 := blk_cell HBX.x 3
  have x4 := blk_cell HBX.x 4
  have r0 := blk_cell HBX.r 0
  have r1 := blk_cell HBX.r 1
  have r2 := blk_cell HBX.r 2
  have r3 := blk_cell HBX.r 3
  have r4 := blk_cell HBX.r 4
  have f0 := blk_frozen HBX.r 0
  have f1 := blk_frozen HBX.r 1
  have f2 := blk_frozen HBX.r 2
  have f3 := blk_frozen HBX.r 3
  have f4 := blk_frozen HBX.r 4
  simp only [List.getElem?_toArray, List.getElem?_cons_zero, List.getElem?_cons_succ] at x0 x1 x2 x3 x4 r0 r1 r2 r3 r4
  have HBX2 := Aside0.mk HBX
  clear HBX
  have ct : W2.cell? ⟨T, 0, none⟩ = some (.int .i64 0) := blk_cell HBX2.out.t 0
  have HFAR : Aside0 (code_far.f pc (0) = some (farI pc (0))) := ⟨far_I _ _⟩
  go_wp2_with (go_at_call 37; fail)
  refine (code_far.calls pc (0) _ _ HFAR.out).mono ?_
  rintro e W3 ⟨rfl, hdr⟩
  have HBX := HBX2.out.below hdr.below
  clear hdr HBX2 x0 x1 x2 x3 x4 r0 r1 r2 r3 r4 f0 f1 f2 f3 f4 ct HFAR
  generalize hfr : farI pc (0) = fr
  have HFR := Aside0.mk hfr
  clear hfr
  obtain ⟨n1, n2, n3, n4, n5, n6⟩ := HNE.out
  have hHB3 := HBX.b
  have HBA := HBX.alloc (.cells #[.int .i64 fr] 3)
  have HBY := HBA.setX n1 (Ne.symm n4) (Ne.symm n5) 4 (.slice (some ⟨W3.heap.size, 0, none⟩) 1 1) rfl
  have cx4 : (W3.alloc (.cells #[.int .i64 fr] 3)).cell? ⟨X, 4, none⟩ = some (.slice none 0 0) := blk_cell HBA.x 4
  have fx4 : (W3.alloc (.cells #[.int .i64 fr] 3)).frozen? ⟨X, 4, none⟩ = false := blk_frozen HBA.x 4
  have hown := own_lit W3 w.heap.size 3 .i64 [fr] hHB3.size (by simp)
  replace hown : (W3.alloc (.cells #[.int .i64 fr] 3)).ownsRow w.heap.size 3 1 (.slice (some ⟨W3.heap.size, 0, none⟩) 1 1) 1 [.int .i64 fr] := hown
  have hltn := blk_lt HBX.n
  have hltt := blk_lt HBX.t
  clear n1 n2 n3 n4 n5 n6
  have HBX2 := Aside0.mk HBX
  have HBA2 := Aside0.mk HBA
  have HBY2 := Aside0.mk HBY
  have HOWN := Aside0.mk hown
  clear HBX HBY HBA hown
  go_wp2
  clear cx4 fx4 HBX2
  clear HOWN HBA2
  generalize (W3.alloc (.cells #[.int .i64 fr] 3)).setCell ⟨X, 4, none⟩ (.slice (some ⟨W3.heap.size, 0, none⟩) 1 1) = W4 at HBY2 ⊢
  have hbx := HBY2.out
  clear HBY2
  generalize W3.heap.size = g0 at hbx ⊢
  have HB0 := Aside0.mk hbx
  clear hbx hHB3 hltn hltt
  go_loopg [8, 9] 1 (fun kq v8 v9 w' => ∃ r : ByteArray, v8 = .string r ∧ v9 = .bool false ∧ Aside0 (Boxes w w' R X N T #[.int .i64 0, .int .i64 0, .int .i64 0, .slice none 0 0, .slice none 0 0] #[.int .i64 pc, .int .i64 (bt s 0), .int .i64 0, .slice none 0 0, .slice (some ⟨g0, 0, none⟩) 1 1] 0 0))
  case atStart => exact ⟨t, rfl, rfl, ⟨HB0.out⟩⟩
  case round =>
    obtain ⟨r, rfl, rfl, HBR⟩ := hrel
    have HBX := HBR.out
    clear HBR HB0
    have x0 := blk_cell HBX.x 0
    have x1 := blk_cell HBX.x 1
    have x2 := blk_cell HBX.x 2
    have x3 := blk_cell HBX.x 3
    have x4 := blk_cell HBX.x 4
    have r0 := blk_cell HBX.r 0
    have r1 := blk_cell HBX.r 1
    have r2 := blk_cell HBX.r 2
    have r3 := blk_cell HBX.r 3
    have r4 := blk_cell HBX.r 4
    have f0 := blk_frozen HBX.r 0
    have f1 := blk_frozen HBX.r 1
    have f2 := blk_frozen HBX.r 2
    have f3 := blk_frozen HBX.r 3
    have f4 := blk_frozen HBX.r 4
    simp only [List.getElem?_toArray, List.getElem?_cons_zero, List.getElem?_cons_succ] at x0 x1 x2 x3 x4 r0 r1 r2 r3 r4
    have HBX2 := Aside0.mk HBX
    clear HBX
    go_wp2
    refine read_ret rfl rfl (set5 HBX2.out.r _ _ _ _ _) ⟨_, _, _, _, _, _, _, _, _, _, rfl, ?_⟩
    rw [hR]
    exact below5 (hR ▸ HBX2.out.b) (Nat.le_refl _) _ _ _ _ _
end Go.Proofs.Ytnbjhfleoodncaa.X
