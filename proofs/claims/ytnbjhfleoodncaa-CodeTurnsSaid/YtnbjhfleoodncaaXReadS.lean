/- code.read, where an op is a switch. Conditions: the text has five bytes; the place fits. -/
import Derived.Test.YtnbjhfleoodncaaXSw
namespace Go.Proofs.Ytnbjhfleoodncaa.X
open Go.RowKit Go.Shelf Go.Proofs.YtnbjhfleoodncaaW.PrintWords Go.Proofs.YtnbjhfleoodncaaW.PrintLast Go.Proofs.YtnbjhfleoodncaaW.PrintMore
set_option linter.unusedVariables false
set_option linter.unusedSimpArgs false
theorem infoT3 : (Try.prog.info? 3).map (fun i => (i.zero, i.size, i.bytes)) = some (some (.int .i64 0), 1, 8) := by kernel_rfl
/-- between two keys -/
def SwRel (w : World) (R X N T : Nat) (pc op : Int) (u : ByteArray) (fr : Int) (c kq : Nat) (r : ByteArray) (ok : Bool) (W : World) : Prop :=
  ∃ (vk vt : Value) (n t : Int) (ks ts : List Int), Sw w W R X N T N #[.int .i64 pc, .int .i64 op, .int .i64 0, vk, vt] n t n vk vt ks ts ∧ 0 < kq ∧ ks.length ≤ c ∧ ts.length ≤ c + 1 ∧
    (ok = false → u.size < 4 * c) ∧ (ok = true → ∃ i, i ≤ c ∧ 4 * i ≤ u.size ∧ r = behind u (4 * i) ∧ n = (c : Int) - i ∧ ks = swK u i ∧ ts = fr :: swT pc u i ∧ i + kq = c + 2)
def SwPost (w : World) (pc op : Int) (u : ByteArray) (fr : Int) (c : Nat) (e : Ending) (w' : World) : Prop :=
  if u.size < 4 * c then ReadErr w w' e 5 else ReadOk w w' e pc op 0 (swK u c) (fr :: swT pc u c) (behind u (4 * c))
set_option maxRecDepth 100000 in
set_option maxHeartbeats 4000000 in
theorem read_s (s : ByteArray) (pc : Int) (hs : 0 < s.size) (w : World) (hf : code_Form.f (bt s 0) = some 115) (hmax : s.size ≤ 1000000) (hn5 : 5 ≤ s.size) :
    Calls Try.prog 29 #[.string s, .int .i64 pc] w fun e w' => SwPost w pc (bt s 0) (behind s 5) (farI pc (num2 (behind s 1))) (num2 (behind s 3)).toNat e w' := by
  have hu57 := Try.underlying57
  have hb0 := bt_at s 0 (by simpa using hs)
  simp only [Int.toNat_zero] at hb0
  obtain ⟨r0, r0'⟩ := bt_range s 0
  have w0 : IntKind.i64.wrap (bt s 0) = bt s 0 := IntWalk.i64_in _ (by omega)
  have HF := Aside0.mk hf
  clear hf
  have hsl : (1 : Int) ≤ (s.size : Int) := by omega
  go_enter Try.func29, Try.ntmps29
  go_wp2_with (go_at_call 17; fail)
  obtain ⟨W, hW, HBX⟩ := boxes_new w pc (bt s 0)
  rw [hW]
  refine (code_Form.calls (bt s 0) 115 _ HF.out).mono ?_
  rintro e W1 ⟨rfl, hb⟩
  replace HBX := HBX.below hb
  clear hb hW W
  have NE : w.heap.size ≠ w.heap.size + 1 ∧ w.heap.size ≠ w.heap.size + 1 + 1 ∧ w.heap.size ≠ w.heap.size + 1 + 1 + 1 ∧ w.heap.size + 1 ≠ w.heap.size + 1 + 1 ∧ w.heap.size + 1 ≠ w.heap.size + 1 + 1 + 1 ∧ w.heap.size + 1 + 1 ≠ w.heap.size + 1 + 1 + 1 := by omega
  generalize w.heap.size + 1 + 1 + 1 = T at *
  generalize w.heap.size + 1 + 1 = N at *
  generalize w.heap.size + 1 = X at *
  generalize hR : w.heap.size = R at *
  have HNE := Aside0.mk NE
  clear NE
  have hbb := behind_behind s 1 4
  have hbs := behind_size s 1
  have hbe : s.extract 1 s.size = behind s 1 := rfl
  rw [hbe]
  generalize ht : behind s 1 = t at hbb hbs ⊢
  have hb4 := behind_behind t 2 2
  have HT := Aside0.mk ht
  have HBB := Aside0.mk hbb
  have HBS := Aside0.mk hbs
  have HN5 := Aside0.mk hn5
  clear hbb hbe ht hbs hn5 hb4
  have x0 := blk_cell HBX.x 0
  have x1 := blk_cell HBX.x 1
  have x2 := blk_cell HBX.x 2
  have x3 := blk_cell HBX.x 3
  have x4 := blk_cell HBX.x 4
  have r0 := blk_cell HBX.r 0
  have r1 := blk_cell HBX.r 1
  have r2 := blk_cell HBX.r 2
  have r3 := blk_cell HBX.r 3
  have r4 := blk_cell HBX.r 4
  have f0 := blk_frozen HBX.r 0
  have f1 := blk_frozen HBX.r 1
  have f2 := blk_frozen HBX.r 2
  have f3 := blk_frozen HBX.r 3
  have f4 := blk_frozen HBX.r 4
  simp only [List.getElem?_toArray, List.getElem?_cons_zero, List.getElem?_cons_succ] at x0 x1 x2 x3 x4 r0 r1 r2 r3 r4
  have HBX2 := Aside0.mk HBX
  clear HBX
  have ct : W1.cell? ⟨T, 0, none⟩ = some (.int .i64 0) := blk_cell HBX2.out.t 0
  have ft : W1.frozen? ⟨T, 0, none⟩ = false := blk_frozen HBX2.out.t 0
  have cn : W1.cell? ⟨N, 0, none⟩ = some (.int .i64 0) := blk_cell HBX2.out.n 0
  have fn : W1.frozen? ⟨N, 0, none⟩ = false := blk_frozen HBX2.out.n 0
  have hPl := Aside0.mk (places2 (m := 90) ct ft cn fn)
  clear cn fn
  go_wp2_with (go_at_call 36; fail)
  refine (take_calls t W1.heap.size [⟨T, 0, none⟩, ⟨N, 0, none⟩] 2 (by simp) (by rw [HBS.out]; omega) _ hPl.out).mono ?_
  clear ct ft x0 x1 x2 x3 x4 r0 r1 r2 r3 r4 f0 f1 f2 f3 f4 hPl
  intro e W2 hres
  rw [if_neg (show ¬ t.size < 2 * [(⟨T, 0, none⟩ : Addr), ⟨N, 0, none⟩].length by have := HBS.out; have := HN5.out; simp; omega)] at hres
  obtain ⟨rfl, m, hW2⟩ := hres
  obtain ⟨n1, n2, n3, n4, n5, n6⟩ := HNE.out
  have HBX := (((HBX2.out.alloc (.cells #[.pointer (some ⟨T, 0, none⟩), .pointer (some ⟨N, 0, none⟩)] 90)).setT n3 n5 n6 (num2 t)).setN n2 n4 (Ne.symm n6) (num2 (behind t 2))).drewN m
  have hW2' : W2 = (((W1.alloc (.cells #[.pointer (some ⟨T, 0, none⟩), .pointer (some ⟨N, 0, none⟩)] 90)).setCell ⟨T, 0, none⟩ (.int .i64 (num2 t))).setCell ⟨N, 0, none⟩ (.int .i64 (num2 (behind t 2)))).drewN m := hW2
  rw [← hW2'] at HBX
  clear HBX2 n1 n2 n3 n4 n5 n6 hW2 hW2'
  have hb2 : behind t (2 * [(⟨T, 0, none⟩ : Addr), ⟨N, 0, none⟩].length) = behind t 4 := rfl
  rw [hb2]
  clear hb2
  have x0 := blk_cell HBX.x 0
  have x1 := blk_cell HBX.x 1
  have x2 := blk_cell HBX.x 2
  have x3 := blk_cell HBX.x 3
  have x4 := blk_cell HBX.x 4
  have r0 := blk_cell HBX.r 0
  have r1 := blk_cell HBX.r 1
  have r2 := blk_cell HBX.r 2
  have r3 := blk_cell HBX.r 3
  have r4 := blk_cell HBX.r 4
  have f0 := blk_frozen HBX.r 0
  have f1 := blk_frozen HBX.r 1
  have f2 := blk_frozen HBX.r 2
  have f3 := blk_frozen HBX.r 3
  have f4 := blk_frozen HBX.r 4
  simp only [List.getElem?_toArray, List.getElem?_cons_zero, List.getElem?_cons_succ] at x0 x1 x2 x3 x4 r0 r1 r2 r3 r4
  have HBX2 := Aside0.mk HBX
  clear HBX
  have ct : W2.cell? ⟨T, 0, none⟩ = some (.int .i64 (num2 t)) := blk_cell HBX2.out.t 0
  have HFAR : Aside0 (code_far.f pc (num2 t) = some (farI pc (num2 t))) := ⟨far_I _ _⟩
  go_wp2_with (go_at_call 37; fail)
  refine (code_far.calls pc (num2 t) _ _ HFAR.out).mono ?_
  rintro e W3 ⟨rfl, hdr⟩
  have HBX := HBX2.out.below hdr.below
  clear hdr HBX2 x0 x1 x2 x3 x4 r0 r1 r2 r3 r4 f0 f1 f2 f3 f4 ct HFAR
  generalize hfr : farI pc (num2 t) = fr
  have HFR := Aside0.mk hfr
  clear hfr
  obtain ⟨n1, n2, n3, n4, n5, n6⟩ := HNE.out
  have hHB3 := HBX.b
  have HBA := HBX.alloc (.cells #[.int .i64 fr] 3)
  have HBY := HBA.setX n1 (Ne.symm n4) (Ne.symm n5) 4 (.slice (some ⟨W3.heap.size, 0, none⟩) 1 1) rfl
  have cx4 : (W3.alloc (.cells #[.int .i64 fr] 3)).cell? ⟨X, 4, none⟩ = some (.slice none 0 0) := blk_cell HBA.x 4
  have fx4 : (W3.alloc (.cells #[.int .i64 fr] 3)).frozen? ⟨X, 4, none⟩ = false := blk_frozen HBA.x 4
  have hown := own_lit W3 w.heap.size 3 .i64 [fr] hHB3.size (by simp)
  replace hown : (W3.alloc (.cells #[.int .i64 fr] 3)).ownsRow w.heap.size 3 1 (.slice (some ⟨W3.heap.size, 0, none⟩) 1 1) 1 [.int .i64 fr] := hown
  have hltn := blk_lt HBX.n
  have hltt := blk_lt HBX.t
  clear n1 n2 n3 n4 n5 n6
  have HBX2 := Aside0.mk HBX
  have HBA2 := Aside0.mk HBA
  have HBY2 := Aside0.mk HBY
  have HOWN := Aside0.mk hown
  clear HBX HBY HBA hown
  go_wp2
  clear cx4 fx4 HBX2
  have HRT : Kd.R (Kd.int .i64) 3 ((W3.alloc (.cells #[.int .i64 fr] 3)).setCell ⟨X, 4, none⟩ (.slice (some ⟨W3.heap.size, 0, none⟩) 1 1)) w.heap.size (fun k => k ≠ N ∧ k ≠ T ∧ k ≠ N ∧ some k ≠ (Value.slice none 0 0).ownBlock) (.slice (some ⟨W3.heap.size, 0, none⟩) 1 1) [fr] :=
    Kd.R_set (Kd.R_of_own (xs := [fr]) HOWN.out (fun k hk => by
      have hk' : W3.heap.size = k := by simpa [Value.ownBlock] using hk
      exact ⟨by omega, by omega, by omega, by simp [Value.ownBlock]⟩)) HBA2.out.x (by simp [Kd.int, Kd.scalar]) 4 _
  have HSW := Aside0.mk HRT
  clear HRT HOWN HBA2
  generalize (W3.alloc (.cells #[.int .i64 fr] 3)).setCell ⟨X, 4, none⟩ (.slice (some ⟨W3.heap.size, 0, none⟩) 1 1) = W4 at HBY2 HSW ⊢
  have HRT := HSW
  clear HSW
  have HSW : Aside0 (Sw w W4 R X N T N #[.int .i64 pc, .int .i64 (bt s 0), .int .i64 0, .slice none 0 0, .slice (some ⟨W3.heap.size, 0, none⟩) 1 1] (num2 (behind t 2)) (num2 t) (num2 (behind t 2)) (.slice none 0 0) (.slice (some ⟨W3.heap.size, 0, none⟩) 1 1) [] [fr]) :=
    ⟨HBY2.out, HBY2.out.n, HBY2.out.hN, Kd.R_nil _ _ _ _ _, HRT.out⟩
  clear HBY2 HRT hHB3 hltn hltt
  generalize W3.heap.size = g0 at HSW ⊢
  obtain ⟨hc0, hc1⟩ := num2_range (behind t 2)
  obtain ⟨c, hc⟩ := Int.eq_ofNat_of_zero_le hc0
  have HC := Aside0.mk hc
  rw [hc] at hc1 HSW
  clear hc hc0
  generalize hu : behind t 4 = u
  have HU := Aside0.mk hu
  clear hu
  have hfin : (SwPost w pc (bt s 0) (behind s 5) (farI pc (num2 (behind s 1))) (num2 (behind s 3)).toNat) = SwPost w pc (bt s 0) u fr c := by
    have h3 : (num2 (behind s 3)).toNat = c := by
      rw [show behind s 3 = behind t 2 by rw [← HT.out, behind_behind], HC.out]
      simp
    rw [h3, HT.out, HFR.out, ← HU.out, HBB.out]
  have HFIN := Aside0.mk hfin
  clear hfin
  go_loopg [8, 9] (c + 2) (fun kq v8 v9 w' => ∃ (r : ByteArray) (ok : Bool), v8 = .string r ∧ v9 = .bool ok ∧ Aside0 (SwRel w R X N T pc (bt s 0) u fr c kq r ok w'))
  case atStart => exact ⟨u, true, rfl, rfl, ⟨_, _, _, _, _, _, HSW.out, by omega, by simp, by simp, by simp, fun _ => ⟨0, by omega, by omega, by rw [Nat.mul_zero, behind_zero], by simp, rfl, rfl, by omega⟩⟩⟩
  case round =>
    clear HSW
    obtain ⟨r, ok, rfl, rfl, HREL⟩ := hrel
    obtain ⟨vk, vt, n, t1, ks, ts, hsw, hkq, hkl, htl, hno, hyes⟩ := HREL.out
    clear HREL
    obtain ⟨Ak, ck, rfl⟩ := Kd.R_slice hsw.rk
    obtain ⟨At, ct, rfl⟩ := Kd.R_slice hsw.rt
    cases ok with
    | false =>
      have HNO := Aside0.mk (hno rfl)
      have HBX := hsw.b
      clear hyes hno hsw hkq hkl htl
      have x0 := blk_cell HBX.x 0
      have x1 := blk_cell HBX.x 1
      have x2 := blk_cell HBX.x 2
      have x3 := blk_cell HBX.x 3
      have x4 := blk_cell HBX.x 4
      have r0 := blk_cell HBX.r 0
      have r1 := blk_cell HBX.r 1
      have r2 := blk_cell HBX.r 2
      have r3 := blk_cell HBX.r 3
      have r4 := blk_cell HBX.r 4
      have f0 := blk_frozen HBX.r 0
      have f1 := blk_frozen HBX.r 1
      have f2 := blk_frozen HBX.r 2
      have f3 := blk_frozen HBX.r 3
      have f4 := blk_frozen HBX.r 4
      simp only [List.getElem?_toArray, List.getElem?_cons_zero, List.getElem?_cons_succ] at x0 x1 x2 x3 x4 r0 r1 r2 r3 r4
      have HBX2 := Aside0.mk HBX
      clear HBX
      go_wp2
      refine read_ret rfl rfl (set5 HBX2.out.r _ _ _ _ _) ?_
      show SwPost _ _ _ _ _ _ _ _
      rw [HFIN.out]
      unfold SwPost
      rw [if_pos HNO.out]
      refine ⟨_, _, _, _, _, _, _, _, _, _, rfl, ?_⟩
      rw [hR]
      exact below5 (hR ▸ HBX2.out.b) (Nat.le_refl _) _ _ _ _ _
    | true =>
      obtain ⟨i, hi, hui, hr, hn, hks, hts, hik⟩ := hyes rfl
      clear hyes hno
      by_cases hlt : i < c
      · have HR := Aside0.mk hr
        have HKS := Aside0.mk hks
        have HTS := Aside0.mk hts
        have HSW := Aside0.mk hsw
        have HNN := Aside0.mk hn
        have HIK := Aside0.mk hik
        have hn0 : decide ((0 : Int) < n) = true := decide_eq_true (by omega)
        have hnw : IntKind.i64.wrap (n - 1) = n - 1 := IntWalk.i64_in _ (by omega)
        clear hn
        have HBX := hsw.b
        clear hr hks hts hsw hik hkq
        have x0 := blk_cell HBX.x 0
        have x1 := blk_cell HBX.x 1
        have x2 := blk_cell HBX.x 2
        have x3 := blk_cell HBX.x 3
        have x4 := blk_cell HBX.x 4
        have r0 := blk_cell HBX.r 0
        have r1 := blk_cell HBX.r 1
        have r2 := blk_cell HBX.r 2
        have r3 := blk_cell HBX.r 3
        have r4 := blk_cell HBX.r 4
        have f0 := blk_frozen HBX.r 0
        have f1 := blk_frozen HBX.r 1
        have f2 := blk_frozen HBX.r 2
        have f3 := blk_frozen HBX.r 3
        have f4 := blk_frozen HBX.r 4
        simp only [List.getElem?_toArray, List.getElem?_cons_zero, List.getElem?_cons_succ] at x0 x1 x2 x3 x4 r0 r1 r2 r3 r4
        have HBX2 := Aside0.mk HBX
        clear HBX
        have cn : wr.cell? ⟨N, 0, none⟩ = some (.int .i64 n) := blk_cell HBX2.out.n 0
        have hs1 := HSW.out.newK 0
        have hPl := places2 (m := 90) (blk_cell hs1.k 0) (blk_frozen hs1.k 0) (blk_cell hs1.b.t 0) (blk_frozen hs1.b.t 0)
        rw [World.size_alloc] at hPl
        have HPL := Aside0.mk hPl
        have HS1 := Aside0.mk (hs1.alloc (.cells #[.pointer (some ⟨wr.heap.size, 0, none⟩), .pointer (some ⟨T, 0, none⟩)] 90))
        have hlx := blk_lt HSW.out.b.x
        have hlr := blk_lt HSW.out.b.r
        have hln := blk_lt HSW.out.b.n
        have hlt' := blk_lt HSW.out.b.t
        obtain ⟨n1, n2, n3, n4, n5, n6⟩ := HNE.out
        have HNX : Aside0 (R ≠ X ∧ N ≠ X ∧ T ≠ X ∧ wr.heap.size ≠ X) := ⟨n1, Ne.symm n4, Ne.symm n5, by omega⟩
        have HNK : Aside0 (R ≠ wr.heap.size ∧ X ≠ wr.heap.size ∧ N ≠ wr.heap.size ∧ T ≠ wr.heap.size ∧ wr.heap.size ≠ T) := ⟨by omega, by omega, by omega, by omega, by omega⟩
        have HNM : Aside0 (R ≠ T ∧ X ≠ T ∧ N ≠ T) := ⟨n3, n5, n6⟩
        have HNO : Aside0 (R ≠ N ∧ X ≠ N ∧ T ≠ N) := ⟨n2, n4, Ne.symm n6⟩
        clear hs1 hPl n1 n2 n3 n4 n5 n6 hlx hlr hln hlt'
        go_wp2_with (go_at_call 36; fail)
        have hrs : r.size = u.size - 4 * i := by rw [HR.out, behind_size]
        have hus : u.size ≤ 1000000 := by rw [← HU.out, behind_size, HBS.out]; omega
        have HRS := Aside0.mk hrs
        have HUS := Aside0.mk hus
        clear hrs hus
        refine (take_calls r (wr.heap.size + 1) [⟨wr.heap.size, 0, none⟩, ⟨T, 0, none⟩] 2 (by simp) (by have := HRS.out; have := HUS.out; omega) _ HPL.out).mono ?_
        clear x0 x1 x2 x3 x4 r0 r1 r2 r3 r4 f0 f1 f2 f3 f4 HPL cn
        intro e W5 hres
        obtain ⟨ok2, r2, kv, tv, rfl, hs5, hno2, hyes2⟩ : ∃ ok2 r2 kv tv, e = .returned (.tuple #[.string r2, .bool ok2]) ∧ Sw w W5 R X N T wr.heap.size #[.int .i64 pc, .int .i64 (bt s 0), .int .i64 0, .slice Ak ks.length ck, .slice At ts.length ct] n tv kv (.slice Ak ks.length ck) (.slice At ts.length ct) ks ts ∧ (ok2 = false → r.size < 4) ∧ (ok2 = true → 4 ≤ r.size ∧ r2 = behind r 4 ∧ kv = num2 r ∧ tv = num2 (behind r 2)) := by
          by_cases h4 : r.size < 4
          · rw [if_pos (show r.size < 2 * [(⟨wr.heap.size, 0, none⟩ : Addr), ⟨T, 0, none⟩].length by simp; omega)] at hres
            obtain ⟨rfl, rfl⟩ := hres
            exact ⟨false, r, 0, t1, rfl, HS1.out, fun _ => h4, fun h => by cases h⟩
          · rw [if_neg (show ¬ r.size < 2 * [(⟨wr.heap.size, 0, none⟩ : Addr), ⟨T, 0, none⟩].length by simp; omega)] at hres
            obtain ⟨rfl, m, hW5⟩ := hres
            obtain ⟨k1, k2, k3, k4, k5⟩ := HNK.out
            obtain ⟨m1, m2, m3⟩ := HNM.out
            have h := ((HS1.out.setK k1 k2 k3 k4 (num2 r)).setT m1 m2 m3 k5 (num2 (behind r 2))).drewN m
            refine ⟨true, behind r 4, num2 r, num2 (behind r 2), rfl, ?_, (fun h => by cases h), fun _ => ⟨by omega, rfl, rfl, rfl⟩⟩
            rw [hW5]
            exact h
        have HS5 := Aside0.mk hs5
        have HNO2 := Aside0.mk hno2
        have HYES2 := Aside0.mk hyes2
        clear hs5 hno2 hyes2 hres HS1 HNK HBX2
        generalize hKK : wr.heap.size = KK at HS5 HNX ⊢
        have HKN : Aside0 (KK ≠ N) := ⟨by have := HS5.out.lts; have h9 := blk_lt HSW.out.b.n; omega⟩
        clear hKK HSW
        go_wp2
        refine start_ (n := 16) (S := fun w' => w'.cell? ⟨X, 3, none⟩ = some (.slice Ak ks.length ck) ∧ w'.cell? ⟨KK, 0, none⟩ = some (.int .i64 kv) ∧ w'.cell? ⟨X, 4, none⟩ = some (.slice At ts.length ct) ∧ w'.cell? ⟨T, 0, none⟩ = some (.int .i64 tv)) (ds := [13, 15]) #[false, false, false, false, false, false, false, false, false, false, false, false, false, false, false, false] (by kernel_rfl) rfl rfl ⟨blk_cell HS5.out.b.x 3, blk_cell HS5.out.k 0, blk_cell HS5.out.b.x 4, blk_cell HS5.out.b.t 0⟩ (fun hHeld => ?_)
        have HS6 : Aside0 (Sw w W5.drew R X N T KK #[.int .i64 pc, .int .i64 (bt s 0), .int .i64 0, .slice Ak ks.length ck, .slice At ts.length ct] n tv kv (.slice Ak ks.length ck) (.slice At ts.length ct) ks ts) := ⟨HS5.out.drewN 1⟩
        clear HS5
        generalize W5.drew = W6 at hHeld HS6 ⊢
        refine pure_ (i := 0) (N := some 86) (v := ?_) (a' := ?_) #[true, false, false, false, false, false, false, false, false, false, false, false, false, false, false, false] rfl rfl (by kernel_rfl) (fun _ _ _ h => h) (Or.inl ⟨by rfl, ?_⟩) ?_ ?_
        rotate_left
        · intro w'
          go_simp
          with_reducible rfl
        rotate_left
        · simp only [Act.put, List.setIfInBounds_toArray, List.set_cons_zero, List.set_cons_succ, i64_w, i32_w]
          rfl
        refine pure_ (i := 5) (N := some 91) (v := ?_) (a' := ?_) #[true, false, false, false, false, true, false, false, false, false, false, false, false, false, false, false] rfl rfl (by kernel_rfl) (fun _ _ _ h => h) (Or.inl ⟨by rfl, ?_⟩) ?_ ?_
        rotate_left
        · intro w'
          go_simp
          with_reducible rfl
        rotate_left
        · simp only [Act.put, List.setIfInBounds_toArray, List.set_cons_zero, List.set_cons_succ, i64_w, i32_w]
          rfl
        refine pure_ (i := 7) (N := some 93) (v := ?_) (a' := ?_) #[true, false, false, false, false, true, false, true, false, false, false, false, false, false, false, false] rfl rfl (by kernel_rfl) (fun _ _ _ h => h) (Or.inl ⟨by rfl, ?_⟩) ?_ ?_
        rotate_left
        · intro w'
          go_simp
          with_reducible rfl
        rotate_left
        · simp only [Act.put, List.setIfInBounds_toArray, List.set_cons_zero, List.set_cons_succ, i64_w, i32_w]
          rfl
        refine take_ (i := 1) (N := some 87) (v := ?_) (a' := ?_) #[true, true, false, false, false, true, false, true, false, false, false, false, false, false, false, false] rfl rfl (by kernel_rfl) (fun _ _ _ h => h) (Or.inl ⟨by rfl, ?_⟩) hHeld ?_ ?_
        rotate_left
        · rintro w' ⟨s0, s1, s2, s3⟩
          go_simp
          with_reducible rfl
        rotate_left
        · simp only [Act.put, List.setIfInBounds_toArray, List.set_cons_zero, List.set_cons_succ, i64_w, i32_w]
          rfl
        refine take_ (i := 2) (N := some 88) (v := ?_) (a' := ?_) #[true, true, true, false, false, true, false, true, false, false, false, false, false, false, false, false] rfl rfl (by kernel_rfl) (fun _ _ _ h => h) (Or.inl ⟨by rfl, ?_⟩) hHeld ?_ ?_
        rotate_left
        · rintro w' ⟨s0, s1, s2, s3⟩
          go_simp
          with_reducible rfl
        rotate_left
        · simp only [Act.put, List.setIfInBounds_toArray, List.set_cons_zero, List.set_cons_succ, i64_w, i32_w]
          rfl
        refine take_ (i := 6) (N := some 92) (v := ?_) (a' := ?_) #[true, true, true, false, false, true, true, true, false, false, false, false, false, false, false, false] rfl rfl (by kernel_rfl) (fun _ _ _ h => h) (Or.inl ⟨by rfl, ?_⟩) hHeld ?_ ?_
        rotate_left
        · rintro w' ⟨s0, s1, s2, s3⟩
          go_simp
          with_reducible rfl
        rotate_left
        · simp only [Act.put, List.setIfInBounds_toArray, List.set_cons_zero, List.set_cons_succ, i64_w, i32_w]
          rfl
        refine take_ (i := 8) (N := some 94) (v := ?_) (a' := ?_) #[true, true, true, false, false, true, true, true, true, false, false, false, false, false, false, false] rfl rfl (by kernel_rfl) (fun _ _ _ h => h) (Or.inl ⟨by rfl, ?_⟩) hHeld ?_ ?_
        rotate_left
        · rintro w' ⟨s0, s1, s2, s3⟩
          go_simp
          with_reducible rfl
        rotate_left
        · simp only [Act.put, List.setIfInBounds_toArray, List.set_cons_zero, List.set_cons_succ, i64_w, i32_w]
          rfl
        refine one_ (i := 3) (N := some 89) #[true, true, true, true, false, true, true, true, true, false, false, false, false, false, false, false] rfl rfl (by kernel_rfl) (by decide) (fun K hK => ?_)
        refine value_ (w1 := W6.alloc (.cells #[.int .i64 kv] 3)) (v := .slice (some ⟨W6.heap.size, 0, none⟩) 1 1) (by rfl) rfl ?_ ?_
        · go_simp
        have HS6a := Aside0.mk (HS6.out.alloc (.cells #[.int .i64 kv] 3))
        refine hK.out _ _ ⟨blk_cell HS6a.out.b.x 3, blk_cell HS6a.out.k 0, blk_cell HS6a.out.b.x 4, blk_cell HS6a.out.b.t 0⟩ (fun hHeld => ?_)
        clear hK K
        refine norm_ (a' := ?_) ?_ ?_
        rotate_left
        · show Act.put _ (some 89) _ = _
          simp only [Act.put, List.setIfInBounds_toArray, List.set_cons_zero, List.set_cons_succ, i64_w, i32_w]
          rfl
        refine one_ (i := 4) (N := some 90) #[true, true, true, true, true, true, true, true, true, false, false, false, false, false, false, false] rfl rfl (by kernel_rfl) (by decide) (fun K hK => ?_)
        obtain ⟨l1, l2, l3, l4, l5⟩ := HS6.out.lts
        refine Kd.R_append_step (Kd.int .i64) (w0 := w) w.heap.size (by rfl) (.tmp 87) (.tmp 89) 23 3 (.int .i64 0) 8 rfl Try.underlying23 infoT3 rfl (by decide) (by omega) (.slice Ak ks.length ck) ks kv [.int .i64 kv] (fun k => k ≠ N ∧ k ≠ T ∧ k ≠ KK ∧ some k ≠ (Value.slice At ts.length ct).ownBlock) (fun _ => False) rfl rfl rfl (fun _ hk => hk.elim) (fun k hk => ⟨by omega, by omega, by omega, l4 k hk⟩) HS6.out.rk HS6.out.b.b HS6.out.b.b.size (by omega) ?_
        intro v1 W7 h1 hb1 hg1 hat1
        have HS7 := Aside0.mk (HS6.out.appK h1 hb1 hg1 hat1)
        clear h1 hb1 hg1 hat1 l1 l2 l3 l4 l5 HS6 HS6a hHeld
        refine hK.out _ _ ⟨blk_cell HS7.out.b.x 3, blk_cell HS7.out.k 0, blk_cell HS7.out.b.x 4, blk_cell HS7.out.b.t 0⟩ (fun hHeld => ?_)
        clear hK K
        refine norm_ (a' := ?_) ?_ ?_
        rotate_left
        · show Act.put _ (some 90) _ = _
          simp only [Act.put, List.setIfInBounds_toArray, List.set_cons_zero, List.set_cons_succ, i64_w, i32_w]
          rfl
        refine one_ (i := 9) (N := some 95) #[true, true, true, true, true, true, true, true, true, true, false, false, false, false, false, false] rfl rfl (by kernel_rfl) (by decide) (fun K hK => ?_)
        refine goes_ Try.func37 (by kernel_rfl) rfl #[.int .i64 pc, .int .i64 tv] (by rfl) rfl rfl (by simp only [List.map_toArray, List.map_cons, List.map_nil]; rfl) ?_
        refine (code_far.calls pc tv _ _ (far_I _ _)).mono ?_
        rintro e w7 ⟨rfl, ⟨nd, rfl⟩⟩
        refine ⟨_, rfl, ?_⟩
        have HS8 := Aside0.mk (HS7.out.drewN nd)
        clear HS7 hHeld
        refine hK.out _ _ ⟨blk_cell HS8.out.b.x 3, blk_cell HS8.out.k 0, blk_cell HS8.out.b.x 4, blk_cell HS8.out.b.t 0⟩ (fun hHeld => ?_)
        clear hK K
        refine norm_ (a' := ?_) ?_ ?_
        rotate_left
        · show Act.put _ (some 95) _ = _
          simp only [Act.put, List.setIfInBounds_toArray, List.set_cons_zero, List.set_cons_succ, i64_w, i32_w]
          rfl
        generalize W7.drewN nd = W8 at hHeld HS8 ⊢
        refine one_ (i := 10) (N := some 96) #[true, true, true, true, true, true, true, true, true, true, true, false, false, false, false, false] rfl rfl (by kernel_rfl) (by decide) (fun K hK => ?_)
        refine value_ (w1 := W8.alloc (.cells #[.int .i64 (farI pc tv)] 3)) (v := .slice (some ⟨W8.heap.size, 0, none⟩) 1 1) (by rfl) rfl ?_ ?_
        · go_simp
        have HS8a := Aside0.mk (HS8.out.alloc (.cells #[.int .i64 (farI pc tv)] 3))
        refine hK.out _ _ ⟨blk_cell HS8a.out.b.x 3, blk_cell HS8a.out.k 0, blk_cell HS8a.out.b.x 4, blk_cell HS8a.out.b.t 0⟩ (fun hHeld => ?_)
        clear hK K
        refine norm_ (a' := ?_) ?_ ?_
        rotate_left
        · show Act.put _ (some 96) _ = _
          simp only [Act.put, List.setIfInBounds_toArray, List.set_cons_zero, List.set_cons_succ, i64_w, i32_w]
          rfl
        refine one_ (i := 11) (N := some 97) #[true, true, true, true, true, true, true, true, true, true, true, true, false, false, false, false] rfl rfl (by kernel_rfl) (by decide) (fun K hK => ?_)
        obtain ⟨l1, l2, l3, l4, l5⟩ := HS8.out.lts
        refine Kd.R_append_step (Kd.int .i64) (w0 := w) w.heap.size (by rfl) (.tmp 92) (.tmp 96) 23 3 (.int .i64 0) 8 rfl Try.underlying23 infoT3 rfl (by decide) (by omega) (.slice At ts.length ct) ts (farI pc tv) [.int .i64 (farI pc tv)] (fun k => k ≠ N ∧ k ≠ T ∧ k ≠ KK ∧ some k ≠ v1.ownBlock) (fun _ => False) rfl rfl rfl (fun _ hk => hk.elim) (fun k hk => ⟨by omega, by omega, by omega, l5 k hk⟩) HS8.out.rt HS8.out.b.b HS8.out.b.b.size (by omega) ?_
        intro v2 W9 h1 hb1 hg1 hat1
        have HS9 := Aside0.mk (HS8.out.appT h1 hb1 hg1 hat1)
        clear h1 hb1 hg1 hat1 l1 l2 l3 l4 l5 HS8 HS8a hHeld
        refine hK.out _ _ ⟨blk_cell HS9.out.b.x 3, blk_cell HS9.out.k 0, blk_cell HS9.out.b.x 4, blk_cell HS9.out.b.t 0⟩ (fun hHeld => ?_)
        clear hK K
        refine norm_ (a' := ?_) ?_ ?_
        rotate_left
        · show Act.put _ (some 97) _ = _
          simp only [Act.put, List.setIfInBounds_toArray, List.set_cons_zero, List.set_cons_succ, i64_w, i32_w]
          rfl
        obtain ⟨A1, c1, hv1⟩ := Kd.R_slice HS9.out.rk
        obtain ⟨A2, c2, hv2⟩ := Kd.R_slice HS9.out.rt
        rw [List.length_append, List.length_singleton] at hv1 hv2
        subst hv1
        subst hv2
        refine pure_ (i := 12) (N := some 98) (v := ?_) (a' := ?_) #[true, true, true, true, true, true, true, true, true, true, true, true, true, false, false, false] rfl rfl (by kernel_rfl) (fun _ _ _ h => h) (Or.inl ⟨by rfl, ?_⟩) ?_ ?_
        rotate_left
        · intro w'
          go_simp
          with_reducible rfl
        rotate_left
        · simp only [Act.put, List.setIfInBounds_toArray, List.set_cons_zero, List.set_cons_succ, i64_w, i32_w]
          rfl
        have cx3 : W9.cell? ⟨X, 3, none⟩ = some (.slice Ak ks.length ck) := blk_cell HS9.out.b.x 3
        have fx3 : W9.frozen? ⟨X, 3, none⟩ = false := blk_frozen HS9.out.b.x 3
        refine last_ (i := 13) (N := none) #[true, true, true, true, true, true, true, true, true, true, true, true, true, true, false, false] rfl rfl (by kernel_rfl) (by decide) (fun K hK => ?_)
        refine skip_ (w1 := ?_) (by rfl) rfl ?_ ?_
        rotate_left
        · go_simp
          rfl
        refine hK.out _ _ ?_
        clear hK K cx3 fx3
        obtain ⟨k1, k2, k3, k4⟩ := HNX.out
        have HS10 := Aside0.mk (HS9.out.setX (xc' := #[.int .i64 pc, .int .i64 (bt s 0), .int .i64 0, .slice A1 (ks.length + 1) c1, .slice At ts.length ct]) k1 k2 k3 k4 3 (.slice A1 (ks.length + 1) c1) rfl)
        clear HS9 k1 k2 k3 k4
        generalize W9.setCell ⟨X, 3, none⟩ (.slice A1 (ks.length + 1) c1) = W10 at HS10 ⊢
        have cx4 : W10.cell? ⟨X, 4, none⟩ = some (.slice At ts.length ct) := blk_cell HS10.out.b.x 4
        have fx4 : W10.frozen? ⟨X, 4, none⟩ = false := blk_frozen HS10.out.b.x 4
        refine pure_ (i := 14) (N := some 99) (v := ?_) (a' := ?_) #[true, true, true, true, true, true, true, true, true, true, true, true, true, true, true, false] rfl rfl (by kernel_rfl) (fun _ _ _ h => h) (Or.inl ⟨by rfl, ?_⟩) ?_ ?_
        rotate_left
        · intro w'
          go_simp
          with_reducible rfl
        rotate_left
        · simp only [Act.put, List.setIfInBounds_toArray, List.set_cons_zero, List.set_cons_succ, i64_w, i32_w]
          rfl
        refine last_ (i := 15) (N := none) #[true, true, true, true, true, true, true, true, true, true, true, true, true, true, true, true] rfl rfl (by kernel_rfl) (by decide) (fun K hK => ?_)
        refine skip_ (w1 := ?_) (by rfl) rfl ?_ ?_
        rotate_left
        · go_simp
          rfl
        refine hK.out _ _ ?_
        clear hK K cx4 fx4
        obtain ⟨k1, k2, k3, k4⟩ := HNX.out
        have HS11 := Aside0.mk (HS10.out.setX (xc' := #[.int .i64 pc, .int .i64 (bt s 0), .int .i64 0, .slice A1 (ks.length + 1) c1, .slice A2 (ts.length + 1) c2]) k1 k2 k3 k4 4 (.slice A2 (ts.length + 1) c2) rfl)
        clear HS10 k1 k2 k3 k4
        generalize W10.setCell ⟨X, 4, none⟩ (.slice A2 (ts.length + 1) c2) = W11 at HS11 ⊢
        refine done_ (by kernel_rfl) ?_
        have cn : W11.cell? ⟨N, 0, none⟩ = some (.int .i64 n) := blk_cell HS11.out.b.n 0
        have fn : W11.frozen? ⟨N, 0, none⟩ = false := blk_frozen HS11.out.b.n 0
        go_wp2
        go_roundg (gk - 1)
        case measure => have := HIK.out; omega
        case rel =>
          obtain ⟨m1, m2, m3⟩ := HNO.out
          have hfin := (HS11.out.setN m1 m2 m3 HKN.out (n - 1)).forget
          refine ⟨r2, ok2, rfl, rfl, ⟨_, _, _, _, _, _, hfin, by have := HIK.out; omega, ?_, ?_, ?_, ?_⟩⟩
          · rw [HKS.out, List.length_append, swK_length, List.length_singleton]; omega
          · rw [HTS.out, List.length_append, List.length_cons, swT_length, List.length_singleton]; omega
          · intro h
            have := HNO2.out h
            have := HRS.out
            omega
          · intro h
            obtain ⟨g1, g2, g3, g4⟩ := HYES2.out h
            refine ⟨i + 1, by omega, by have := HRS.out; omega, ?_, by rw [HNN.out]; omega, ?_, ?_, by have := HIK.out; omega⟩
            · rw [g2, HR.out, behind_behind]; rfl
            · rw [HKS.out, swK_succ, g3, HR.out]
            · rw [HTS.out, swT_succ, g4, HR.out, behind_behind]; rfl
      · obtain rfl : i = c := by omega
        obtain rfl : n = 0 := by omega
        have HR := Aside0.mk hr
        have HKS := Aside0.mk hks
        have HTS := Aside0.mk hts
        have HSW := Aside0.mk hsw
        have HUI := Aside0.mk hui
        have HBX := hsw.b
        clear hr hks hts hsw hn hik hui hkq hkl htl
        have x0 := blk_cell HBX.x 0
        have x1 := blk_cell HBX.x 1
        have x2 := blk_cell HBX.x 2
        have x3 := blk_cell HBX.x 3
        have x4 := blk_cell HBX.x 4
        have r0 := blk_cell HBX.r 0
        have r1 := blk_cell HBX.r 1
        have r2 := blk_cell HBX.r 2
        have r3 := blk_cell HBX.r 3
        have r4 := blk_cell HBX.r 4
        have f0 := blk_frozen HBX.r 0
        have f1 := blk_frozen HBX.r 1
        have f2 := blk_frozen HBX.r 2
        have f3 := blk_frozen HBX.r 3
        have f4 := blk_frozen HBX.r 4
        simp only [List.getElem?_toArray, List.getElem?_cons_zero, List.getElem?_cons_succ] at x0 x1 x2 x3 x4 r0 r1 r2 r3 r4
        have HBX2 := Aside0.mk HBX
        clear HBX
        have cn : wr.cell? ⟨N, 0, none⟩ = some (.int .i64 0) := blk_cell HBX2.out.n 0
        go_wp2
        refine read_ret rfl rfl (set5 HBX2.out.r _ _ _ _ _) ?_
        show SwPost _ _ _ _ _ _ _ _
        rw [HFIN.out]
        unfold SwPost
        rw [if_neg (by have := HUI.out; omega)]
        refine ⟨.slice Ak ks.length ck, .slice At ts.length ct, ?_, ?_, ?_, ?_⟩
        · rw [HR.out]
          rfl
        · rw [← HKS.out]
          exact R_set5 (Kd.R_mono HSW.out.rk (fun k hk => hk.2.2.2)) HBX2.out.r _ _ _ _ _
        · rw [← HTS.out]
          exact R_set5 (Kd.R_mono HSW.out.rt (fun k hk => hk.2.2.2)) HBX2.out.r _ _ _ _ _
        · rw [hR]
          exact below5 (hR ▸ HBX2.out.b) (Nat.le_refl _) _ _ _ _ _
end Go.Proofs.Ytnbjhfleoodncaa.X
