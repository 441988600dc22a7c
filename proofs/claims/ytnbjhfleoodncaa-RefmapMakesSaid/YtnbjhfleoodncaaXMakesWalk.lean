/- RefmapMakes, walked: it answers true where its parts answer as told. -/
import Derived.Test.YtnbjhfleoodncaaXMake
import Derived.Test.YtnbjhfleoodncaaXx5
import Derived.Test.YtnbjhfleoodncaaXShown
namespace Go.Proofs.Ytnbjhfleoodncaa.X
open Go.RowKit Go.Shelf Go.Proofs.YtnbjhfleoodncaaW.PrintWords Go.Proofs.YtnbjhfleoodncaaW.PrintLast Go.Proofs.YtnbjhfleoodncaaW.PrintMore
set_option linter.unusedVariables false
set_option linter.unusedSimpArgs false
attribute [local go_sem] max2_int min2_int max_two min_two max_three min_three max_four min_four

/-- a box that holds two rows of bits -/
structure KeepM (w W : World) (M : Nat) (t : TypeId) (A0 : Option Addr) (c0 : Nat) (x0 : List Bool) (A1 : Option Addr) (c1 : Nat) (x1 : List Bool) : Prop where
  m : W.heap[M]? = some (.cells #[.slice A0 x0.length c0, .slice A1 x1.length c1] t (0, 0))
  g0 : Kd.bool.C W A0 x0.length x0
  g1 : Kd.bool.C W A1 x1.length x1
  b : Below w.heap.size w W
theorem KeepM.below {w W W' : World} {M : Nat} {t : TypeId} {A0 A1 : Option Addr} {c0 c1 : Nat} {x0 x1 : List Bool} (h : KeepM w W M t A0 c0 x0 A1 c1 x1) (hb : Below W.heap.size W W') : KeepM w W' M t A0 c0 x0 A1 c1 x1 :=
  ⟨(hb.block M (blk_lt h.m)).trans h.m, Kd.C_below h.g0 hb, Kd.C_below h.g1 hb, below_step h.b hb⟩
theorem KeepM.new {w W : World} {t : TypeId} {A0 A1 : Option Addr} {c0 c1 : Nat} {x0 x1 : List Bool} (hB : Below w.heap.size w W) (g0 : Kd.bool.C W A0 x0.length x0) (g1 : Kd.bool.C W A1 x1.length x1) : KeepM w (W.alloc (.cells #[.slice A0 x0.length c0, .slice A1 x1.length c1] t)) W.heap.size t A0 c0 x0 A1 c1 x1 :=
  ⟨blk_new _ _, Kd.C_below g0 (below_alloc (Below.refl _ _) _), Kd.C_below g1 (below_alloc (Below.refl _ _) _), below_alloc hB _⟩
theorem KeepM.alloc {w W : World} {M : Nat} {t : TypeId} {A0 A1 : Option Addr} {c0 c1 : Nat} {x0 x1 : List Bool} (h : KeepM w W M t A0 c0 x0 A1 c1 x1) (o : Obj) : KeepM w (W.alloc o) M t A0 c0 x0 A1 c1 x1 := h.below (below_alloc (Below.refl _ _) _)
theorem row_one38 {W : World} {g : Nat} {t : TypeId} {A0 A1 : Option Addr} {c0 c1 : Nat} {x0 x1 : List Bool} (hb : W.heap[g]? = some (.cells #[.slice A0 x0.length c0, .slice A1 x1.length c1] t (0, 0))) (l0 : x0.length ≤ c0) (h0 : Kd.bool.C W A0 x0.length x0) (l1 : x1.length ≤ c1) (h1 : Kd.bool.C W A1 x1.length x1) : k38.C W (some ⟨g, 0, none⟩) 1 [⟨x0, x1⟩] := by
  refine row_lit k38 hb [⟨x0, x1⟩] (by simp) [[.slice A0 x0.length c0, .slice A1 x1.length c1]] rfl fun j x c hj hc => ?_
  match j, hj, hc with
  | 0, hj, hc => cases hj; cases hc; exact ⟨rfl, k38_mk W (⟨x0, x1⟩ : S38) l0 h0 l1 h1, fun i u hi => by match i, hi with | 0, hi => exact hi | 1, hi => exact hi⟩
theorem row_one43 {W : World} {g : Nat} {t : TypeId} {A0 A1 : Option Addr} {c0 c1 : Nat} {x0 x1 : List Bool} (hb : W.heap[g]? = some (.cells #[.slice A0 x0.length c0, .slice A1 x1.length c1] t (0, 0))) (l0 : x0.length ≤ c0) (h0 : Kd.bool.C W A0 x0.length x0) (l1 : x1.length ≤ c1) (h1 : Kd.bool.C W A1 x1.length x1) : k43.C W (some ⟨g, 0, none⟩) 1 [⟨x0, x1⟩] := by
  refine row_lit k43 hb [⟨x0, x1⟩] (by simp) [[.slice A0 x0.length c0, .slice A1 x1.length c1]] rfl fun j x c hj hc => ?_
  match j, hj, hc with
  | 0, hj, hc => cases hj; cases hc; exact ⟨rfl, k43_mk W (⟨x0, x1⟩ : S43) l0 h0 l1 h1, fun i u hi => by match i, hi with | 0, hi => exact hi | 1, hi => exact hi⟩

/-- what the round asks: both answers are the same -/
def OfOk (k : Nat) (x : S42) : Prop := ∃ r1 r2, refmap_Of.f k x.f0 x.f1 = some (r1, r2) ∧ crucibleref12_Of.f k x.f0 x.f1 = some (r1, r2) ∧ cruciblelaw12_same.f k [⟨r1, r2⟩] [⟨r1, r2⟩] = some true
def MakeOk (k : Nat) (l0 : List S42) (l1 : List Bool) (l2 : List S57) : Prop := ∃ m m', refmap_Make.f k l2 l0 l1 = some m ∧ crucibleref12_Make.f k l2 l0 l1 = some m' ∧ cruciblelaw12_same.f k m m' = some true

set_option maxHeartbeats 8000000 in
set_option maxRecDepth 100000 in
theorem makes_calls (k : Nat) (A0 : Option Addr) (c0 : Nat) (l0 : List S42) (A1 : Option Addr) (c1 : Nat) (l1 : List Bool) (A2 : Option Addr) (c2 : Nat) (l2 : List S57) (w : World) (hr0 : Kd.C k42 w A0 l0.length l0) (hc0 : l0.length ≤ c0) (hr1 : Kd.C Kd.bool w A1 l1.length l1) (hc1 : l1.length ≤ c1) (hr2 : Kd.C k57 w A2 l2.length l2) (hc2 : l2.length ≤ c2)
    (hof : ∀ i, OfOk k (rd_T42 l0 i)) (hmk : MakeOk k l0 l1 l2) :
    Calls Try.prog 4 #[.slice A0 l0.length c0, .slice A1 l1.length c1, .slice A2 l2.length c2] w fun e w' => e = .returned (.bool true) ∧ Below w.heap.size w w' := by
  have hu42 := Try.underlying42
  have hu38 := Try.underlying38
  have hu43 := Try.underlying43
  have HR0 := Aside0.mk hr0
  have HR1 := Aside0.mk hr1
  have HR2 := Aside0.mk hr2
  have HC0 := Aside0.mk hc0
  have HC1 := Aside0.mk hc1
  have HC2 := Aside0.mk hc2
  have HOF := Aside0.mk hof
  have HMK := Aside0.mk hmk
  clear hr0 hr1 hr2 hc0 hc1 hc2 hof hmk
  have hlen : (l0.length : Int) ≤ 9223372036854775807 := by have := HR0.out.2.1; omega
  have HLEN := Aside0.mk hlen
  clear hlen
  go_enter Try.func4, Try.ntmps4
  go_wp2_with (go_at_call 6; refine (cruciblelaw12_shown.calls true _ rfl).mono ?_; rintro e w1 ⟨rfl, hb⟩; have HB := Aside0.mk hb; clear hb)
  go_loopg [8] 301 (fun kq v8 w' => ∃ i : Nat, v8 = .int .i64 (i : Int) ∧ Aside0 (i + kq = 301) ∧ Aside0 (i ≤ l0.length ∧ i ≤ 300) ∧ Aside0 (Below w.heap.size w w'))
  case atStart => exact ⟨0, rfl, ⟨rfl⟩, ⟨Nat.zero_le _, Nat.zero_le _⟩, HB⟩
  case round =>
    obtain ⟨i, rfl, HK, HI, HB⟩ := hrel
    by_cases hlt : i < l0.length
    · have hlt1 : decide ((i : Int) < (l0.length : Int)) = true := decide_eq_true (by omega)
      by_cases h300 : i < 300
      · have h3001 : decide ((i : Int) < 300) = true := decide_eq_true (by omega)
        obtain ⟨ad, B0, d0, B1, d1, rfl, hx0, hx1, hl0, hi0, hl1, hi1⟩ := at_T42 HR0.out (i : Int) (by omega) (by omega)
        obtain ⟨r1, r2, hf1, hf2, hf3⟩ := HOF.out (i : Int)
        generalize rd_T42 l0 (i : Int) = m at hx0 hx1 hl0 hi0 hl1 hi1 hf1 hf2
        replace hx0 := (HB.out.cell (World.block_lt_of_cell? w _ hx0)).trans hx0
        replace hx1 := (HB.out.cell (World.block_lt_of_cell? w _ hx1)).trans hx1
        rw [Int.toNat_natCast] at hx0 hx1
        have HI0 := Aside0.mk hi0
        have HI1 := Aside0.mk hi1
        have HL0 := Aside0.mk hl0
        have HL1 := Aside0.mk hl1
        have HF1 := Aside0.mk hf1
        have HF2 := Aside0.mk hf2
        have HF3 := Aside0.mk hf3
        have HLT := Aside0.mk hlt
        have H300 := Aside0.mk h300
        clear hi0 hi1 hl0 hl1 hf1 hf2 hf3
        go_wp2_with (go_at_call 9; fail)
        refine (refmap_Of.calls k _ _ m.f0 _ _ m.f1 r1 r2 _ (Kd.C_below HI0.out HB.out) HL0.out (Kd.C_below HI1.out HB.out) HL1.out HF1.out).mono ?_
        rintro e W1 ⟨v0, v1, rfl, hv0, hv1, hb⟩
        obtain ⟨D0, e0, rfl, le0, g0⟩ := Kd.R_reads hv0
        obtain ⟨D1, e1, rfl, le1, g1⟩ := Kd.R_reads hv1
        have K1 := KeepM.new (t := 38) (c0 := e0) (c1 := e1) (below_step HB.out hb) g0 g1
        have hbx := hb.trans (below_alloc (Below.refl W1.heap.size W1) (.cells #[.slice D0 r1.length e0, .slice D1 r2.length e1] 38) |>.mono hb.size)
        replace hx0 := (hbx.cell (World.block_lt_of_cell? _ _ hx0)).trans hx0
        replace hx1 := (hbx.cell (World.block_lt_of_cell? _ _ hx1)).trans hx1
        have LE0 := Aside0.mk le0
        have LE1 := Aside0.mk le1
        have HK1 := Aside0.mk K1
        clear hv0 hv1 hb hbx le0 le1 g0 g1 K1 HB
        go_upto_region 8 with (fail)
        generalize W1.alloc (.cells #[.slice D0 r1.length e0, .slice D1 r2.length e1] 38) = W2 at *
        generalize W1.heap.size = M1 at *
        go_wp2_with (go_at_call 10; fail)
        refine (crucibleref12_Of.calls k _ _ m.f0 _ _ m.f1 r1 r2 _ (Kd.C_below HI0.out HK1.out.b) HL0.out (Kd.C_below HI1.out HK1.out.b) HL1.out HF2.out).mono ?_
        rintro e W3 ⟨v0, v1, rfl, hv0, hv1, hb⟩
        obtain ⟨E0, f0, rfl, le2, g0⟩ := Kd.R_reads hv0
        obtain ⟨E1, f1, rfl, le3, g1⟩ := Kd.R_reads hv1
        replace HK1 := Aside0.mk (HK1.out.below hb)
        have HK2 := Aside0.mk (KeepM.new (t := 43) (c0 := f0) (c1 := f1) HK1.out.b g0 g1)
        replace HK1 := Aside0.mk (HK1.out.alloc (.cells #[.slice E0 r1.length f0, .slice E1 r2.length f1] 43))
        have LE2 := Aside0.mk le2
        have LE3 := Aside0.mk le3
        clear hv0 hv1 hb le2 le3 g0 g1 hx0 hx1
        go_upto_region 9 with (fail)
        generalize W3.alloc (.cells #[.slice E0 r1.length f0, .slice E1 r2.length f1] 43) = W4 at *
        generalize W3.heap.size = M2 at *
        have hm0 : W4.cell? ⟨M1, 0, none⟩ = some (.slice D0 r1.length e0) := blk_cell HK1.out.m 0
        have hm1 : W4.cell? ⟨M1, 1, none⟩ = some (.slice D1 r2.length e1) := blk_cell HK1.out.m 1
        have hn0 : (W4.alloc (.cells #[.slice D0 r1.length e0, .slice D1 r2.length e1] 38)).cell? ⟨M2, 0, none⟩ = some (.slice E0 r1.length f0) := blk_cell (HK2.out.alloc _).m 0
        have hn1 : (W4.alloc (.cells #[.slice D0 r1.length e0, .slice D1 r2.length e1] 38)).cell? ⟨M2, 1, none⟩ = some (.slice E1 r2.length f1) := blk_cell (HK2.out.alloc _).m 1
        go_wp2_with (go_at_call 11; fail)
        have hq := KeepM.new (t := 38) (c0 := e0) (c1 := e1) HK1.out.b HK1.out.g0 HK1.out.g1
        have hq2 := HK2.out.alloc (.cells #[.slice D0 r1.length e0, .slice D1 r2.length e1] 38)
        have hq3 := KeepM.new (t := 43) (c0 := f0) (c1 := f1) hq2.b hq2.g0 hq2.g1
        have hq4 := hq.alloc (.cells #[.slice E0 r1.length f0, .slice E1 r2.length f1] 43)
        rw [World.size_alloc] at hq3
        refine (cruciblelaw12_same.calls k _ _ [⟨r1, r2⟩] _ _ [⟨r1, r2⟩] true _ (row_one38 hq4.m LE0.out hq4.g0 LE1.out hq4.g1) (by simp) (row_one43 hq3.m LE2.out hq3.g0 LE3.out hq3.g1) (by simp) HF3.out).mono ?_
        rintro e W5 ⟨rfl, hdr⟩
        have HB := Aside0.mk (below_step hq3.b hdr.below)
        clear hq hq2 hq3 hq4 hdr hm0 hm1 hn0 hn1 HK1 HK2
        have hw : IntKind.i64.wrap ((i : Int) + 1) = ((i + 1 : Nat) : Int) := by rw [IntWalk.i64_in _ (by have := HI.out; omega)]; simp
        go_wp2
        go_roundg (gk - 1)
        case measure => have := HK.out; have := H300.out; omega
        case rel => exact ⟨i + 1, by simp, ⟨by have := HK.out; have := H300.out; omega⟩, ⟨by have := HLT.out; have := H300.out; omega⟩, HB⟩
      · have h3002 : decide ((i : Int) < 300) = false := decide_eq_false (by omega)
        go_wp2_with (go_at_call 12; fail)
        obtain ⟨m, m', hm1, hm2, hm3⟩ := HMK.out
        refine (refmap_Make.calls k _ _ l2 _ _ l0 _ _ l1 m _ (Kd.C_below HR2.out HB.out) HC2.out (Kd.C_below HR0.out HB.out) HC0.out (Kd.C_below HR1.out HB.out) HC1.out hm1).mono ?_
        rintro e W1 ⟨v, rfl, hv, hb⟩
        obtain ⟨E, f, rfl, le, g⟩ := Kd.R_reads (Kd.S_R hv)
        replace HB := Aside0.mk (below_step HB.out hb)
        have HM2 := Aside0.mk hm2
        have HM3 := Aside0.mk hm3
        have LE := Aside0.mk le
        have G := Aside0.mk g
        clear hm1 hm2 hm3 hv hb le g
        go_wp2_with (go_at_call 13; fail)
        refine (crucibleref12_Make.calls k _ _ l2 _ _ l0 _ _ l1 m' _ (Kd.C_below HR2.out HB.out) HC2.out (Kd.C_below HR0.out HB.out) HC0.out (Kd.C_below HR1.out HB.out) HC1.out HM2.out).mono ?_
        rintro e W2 ⟨v, rfl, hv, hb⟩
        obtain ⟨E2, f2, rfl, le, g⟩ := Kd.R_reads (Kd.S_R hv)
        replace HB := Aside0.mk (below_step HB.out hb)
        replace G := Aside0.mk (Kd.C_below G.out hb)
        have LE2 := Aside0.mk le
        have G2 := Aside0.mk g
        clear hv hb le g
        go_wp2_with (go_at_call 11; fail)
        refine (cruciblelaw12_same.calls k _ _ m _ _ m' true _ G.out LE.out G2.out LE2.out HM3.out).mono ?_
        rintro e W3 ⟨rfl, hdr⟩
        replace HB := Aside0.mk (below_step HB.out hdr.below)
        clear hdr
        go_wp2
        go_ret
        exact ⟨rfl, HB.out⟩
    · have hlt2 : decide ((i : Int) < (l0.length : Int)) = false := decide_eq_false (by omega)
      go_wp2_with (go_at_call 12; fail)
      obtain ⟨m, m', hm1, hm2, hm3⟩ := HMK.out
      refine (refmap_Make.calls k _ _ l2 _ _ l0 _ _ l1 m _ (Kd.C_below HR2.out HB.out) HC2.out (Kd.C_below HR0.out HB.out) HC0.out (Kd.C_below HR1.out HB.out) HC1.out hm1).mono ?_
      rintro e W1 ⟨v, rfl, hv, hb⟩
      obtain ⟨E, f, rfl, le, g⟩ := Kd.R_reads (Kd.S_R hv)
      replace HB := Aside0.mk (below_step HB.out hb)
      have HM2 := Aside0.mk hm2
      have HM3 := Aside0.mk hm3
      have LE := Aside0.mk le
      have G := Aside0.mk g
      clear hm1 hm2 hm3 hv hb le g
      go_wp2_with (go_at_call 13; fail)
      refine (crucibleref12_Make.calls k _ _ l2 _ _ l0 _ _ l1 m' _ (Kd.C_below HR2.out HB.out) HC2.out (Kd.C_below HR0.out HB.out) HC0.out (Kd.C_below HR1.out HB.out) HC1.out HM2.out).mono ?_
      rintro e W2 ⟨v, rfl, hv, hb⟩
      obtain ⟨E2, f2, rfl, le, g⟩ := Kd.R_reads (Kd.S_R hv)
      replace HB := Aside0.mk (below_step HB.out hb)
      replace G := Aside0.mk (Kd.C_below G.out hb)
      have LE2 := Aside0.mk le
      have G2 := Aside0.mk g
      clear hv hb le g
      go_wp2_with (go_at_call 11; fail)
      refine (cruciblelaw12_same.calls k _ _ m _ _ m' true _ G.out LE.out G2.out LE2.out HM3.out).mono ?_
      rintro e W3 ⟨rfl, hdr⟩
      replace HB := Aside0.mk (below_step HB.out hdr.below)
      clear hdr
      go_wp2
      go_ret
      exact ⟨rfl, HB.out⟩
end Go.Proofs.Ytnbjhfleoodncaa.X
