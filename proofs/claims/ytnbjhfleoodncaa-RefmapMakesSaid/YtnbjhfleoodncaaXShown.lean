/- chapter 12's examples: shown answers true. -/
import Derived.Test.YtnbjhfleoodncaaXUnpack
namespace Go.Proofs.Ytnbjhfleoodncaa.X
open Go.RowKit Go.Shelf Go.Proofs.YtnbjhfleoodncaaW.PrintWords Go.Proofs.YtnbjhfleoodncaaW.PrintLast Go.Proofs.YtnbjhfleoodncaaW.PrintMore
set_option linter.unusedVariables false
set_option linter.unusedSimpArgs false

def cruciblelaw12_shown.f : Option Bool := some true

def exL : List S64 := [⟨1, z62, 0⟩, ⟨2, z62, 0⟩, ⟨0, z62, 0⟩]
def exS : List S64 := [⟨4, z62, 0⟩]
def exM : List S38 := [⟨[false, true, false], [true]⟩]
theorem ex_of : refmap_Of.f 5 exL exS = some ([false, true, false], [true]) := by decide +kernel
theorem ex_pack : refmap_Pack.f exM = some (⟨#[0, 1, 3, 1, 80]⟩, 0) := by
  have h : (strOfNums (packTo exM exM.length)).data = #[0, 1, 3, 1, 80] := by decide +kernel
  have h2 : strOfNums (packTo exM exM.length) = ⟨#[0, 1, 3, 1, 80]⟩ := by
    cases hs : strOfNums (packTo exM exM.length)
    rw [hs] at h
    simp only at h
    rw [h]
  unfold refmap_Pack.f
  rw [if_neg (by decide), if_pos (by decide), h2]
theorem ex_sameL : cruciblelaw12_sameBits.f 5 [false, true, false] [false, true, false] = some true := by decide +kernel
theorem ex_sameS : cruciblelaw12_sameBits.f 5 [true] [true] = some true := by decide +kernel

/-- a block's cells, read as a row -/
theorem row_lit {α : Type} (d : Kd α) {W : World} {g : Nat} {t : TypeId} {arr : Array Value} (hb : W.heap[g]? = some (.cells arr t (0, 0))) (xs : List α) (hx : xs.length ≤ 1000) (css : List (List Value)) (hl : css.length = xs.length)
    (hK : ∀ j x c, xs[j]? = some x → css[j]? = some c → c.length = d.sz ∧ d.K W x c ∧ ∀ i u, c[i]? = some u → arr[j * d.sz + i]? = some u) : d.C W (some ⟨g, 0, none⟩) xs.length xs := by
  refine ⟨rfl, by omega, fun _ => ⟨_, rfl, fun j p hj => ?_⟩⟩
  have hlt : j < xs.length := (List.getElem?_eq_some_iff.1 hj).1
  obtain ⟨h1, h2, h3⟩ := hK j p (css[j]'(by omega)) hj (List.getElem?_eq_getElem (by omega))
  refine ⟨_, h1, h2, fun i u hi => ?_⟩
  rw [add_plain, blk_cell hb]
  exact h3 i u hi
theorem row_bools {W : World} {g : Nat} {t : TypeId} (xs : List Bool) (hx : xs.length ≤ 1000) (hb : W.heap[g]? = some (.cells (xs.map Value.bool).toArray t (0, 0))) : Kd.bool.C W (some ⟨g, 0, none⟩) xs.length xs := by
  refine row_lit Kd.bool hb xs hx (xs.map fun x => [.bool x]) (by simp) fun j x c hj hc => ?_
  simp only [List.getElem?_map, hj, Option.map_some, Option.some.injEq] at hc
  subst hc
  refine ⟨rfl, rfl, fun i u hi => ?_⟩
  have hs : Kd.bool.sz = 1 := rfl
  match i, hi with
  | 0, hi =>
    simp only [List.getElem?_cons_zero, Option.some.injEq] at hi
    subst hi
    simp [hs, hj]

theorem row_exL {W : World} {g : Nat} {t : TypeId} (hb : W.heap[g]? = some (.cells #[.int .i64 1, .int .i64 0, .string ⟨#[]⟩, .int .i64 0, .int .i64 2, .int .i64 0, .string ⟨#[]⟩, .int .i64 0, .int .i64 0, .int .i64 0, .string ⟨#[]⟩, .int .i64 0] t (0, 0))) : k64.C W (some ⟨g, 0, none⟩) 3 exL := by
  refine row_lit k64 hb exL (by decide) [[.int .i64 1, .int .i64 0, .string ⟨#[]⟩, .int .i64 0], [.int .i64 2, .int .i64 0, .string ⟨#[]⟩, .int .i64 0], [.int .i64 0, .int .i64 0, .string ⟨#[]⟩, .int .i64 0]] rfl fun j x c hj hc => ?_
  match j, hj, hc with
  | 0, hj, hc => cases hj; cases hc; exact ⟨rfl, k64_mk W _, fun i u hi => by match i, hi with | 0, hi => exact hi | 1, hi => exact hi | 2, hi => exact hi | 3, hi => exact hi⟩
  | 1, hj, hc => cases hj; cases hc; exact ⟨rfl, k64_mk W _, fun i u hi => by match i, hi with | 0, hi => exact hi | 1, hi => exact hi | 2, hi => exact hi | 3, hi => exact hi⟩
  | 2, hj, hc => cases hj; cases hc; exact ⟨rfl, k64_mk W _, fun i u hi => by match i, hi with | 0, hi => exact hi | 1, hi => exact hi | 2, hi => exact hi | 3, hi => exact hi⟩
theorem row_exS {W : World} {g : Nat} {t : TypeId} (hb : W.heap[g]? = some (.cells #[.int .i64 4, .int .i64 0, .string ⟨#[]⟩, .int .i64 0] t (0, 0))) : k64.C W (some ⟨g, 0, none⟩) 1 exS := by
  refine row_lit k64 hb exS (by decide) [[.int .i64 4, .int .i64 0, .string ⟨#[]⟩, .int .i64 0]] rfl fun j x c hj hc => ?_
  match j, hj, hc with
  | 0, hj, hc => cases hj; cases hc; exact ⟨rfl, k64_mk W _, fun i u hi => by match i, hi with | 0, hi => exact hi | 1, hi => exact hi | 2, hi => exact hi | 3, hi => exact hi⟩
theorem row_exM {W : World} {g : Nat} {t : TypeId} {A0 A1 : Option Addr} {c0 c1 : Nat} (hb : W.heap[g]? = some (.cells #[.slice A0 3 c0, .slice A1 1 c1] t (0, 0))) (l0 : 3 ≤ c0) (h0 : Kd.bool.C W A0 3 [false, true, false]) (l1 : 1 ≤ c1) (h1 : Kd.bool.C W A1 1 [true]) : k38.C W (some ⟨g, 0, none⟩) 1 exM := by
  refine row_lit k38 hb exM (by decide) [[.slice A0 3 c0, .slice A1 1 c1]] rfl fun j x c hj hc => ?_
  match j, hj, hc with
  | 0, hj, hc => cases hj; cases hc; exact ⟨rfl, k38_mk W (⟨[false, true, false], [true]⟩ : S38) l0 h0 l1 h1, fun i u hi => by match i, hi with | 0, hi => exact hi | 1, hi => exact hi⟩

theorem ex_of_calls (w : World) : ∃ W, ((w.alloc (.cells #[.int .i64 1, .int .i64 0, .string ⟨#[]⟩, .int .i64 0, .int .i64 2, .int .i64 0, .string ⟨#[]⟩, .int .i64 0, .int .i64 0, .int .i64 0, .string ⟨#[]⟩, .int .i64 0] 64)).alloc (.cells #[.int .i64 4, .int .i64 0, .string ⟨#[]⟩, .int .i64 0] 64)).alloc (.cells #[.slice (some ⟨w.heap.size, 0, none⟩) 3 3, .slice (some ⟨w.heap.size + 1, 0, none⟩) 1 1] 42) = W ∧
    Calls Try.prog 9 #[.agg #[.slice (some ⟨w.heap.size, 0, none⟩) 3 3, .slice (some ⟨w.heap.size + 1, 0, none⟩) 1 1]] W fun e w' => ∃ A0 c0 A1 c1, e = .returned (.agg #[.slice A0 3 c0, .slice A1 1 c1]) ∧ 3 ≤ c0 ∧ Kd.bool.C w' A0 3 [false, true, false] ∧ 1 ≤ c1 ∧ Kd.bool.C w' A1 1 [true] ∧ Below w.heap.size w w' := by
  refine ⟨_, rfl, ?_⟩
  have hB : Below w.heap.size w (((w.alloc (.cells #[.int .i64 1, .int .i64 0, .string ⟨#[]⟩, .int .i64 0, .int .i64 2, .int .i64 0, .string ⟨#[]⟩, .int .i64 0, .int .i64 0, .int .i64 0, .string ⟨#[]⟩, .int .i64 0] 64)).alloc (.cells #[.int .i64 4, .int .i64 0, .string ⟨#[]⟩, .int .i64 0] 64)).alloc (.cells #[.slice (some ⟨w.heap.size, 0, none⟩) 3 3, .slice (some ⟨w.heap.size + 1, 0, none⟩) 1 1] 42)) := below_alloc (below_alloc (below_alloc (Below.refl _ _) _) _) _
  refine (refmap_Of.calls 5 (some ⟨w.heap.size, 0, none⟩) 3 exL (some ⟨w.heap.size + 1, 0, none⟩) 1 exS [false, true, false] [true] _ (row_exL (t := 64) ?_) (by decide) (row_exS (t := 64) ?_) (by decide) ex_of).mono ?_
  · exact blk_alloc (blk_alloc (blk_new _ _) _) _
  · have h := blk_new (w.alloc (.cells #[.int .i64 1, .int .i64 0, .string ⟨#[]⟩, .int .i64 0, .int .i64 2, .int .i64 0, .string ⟨#[]⟩, .int .i64 0, .int .i64 0, .int .i64 0, .string ⟨#[]⟩, .int .i64 0] 64)) (.cells #[.int .i64 4, .int .i64 0, .string ⟨#[]⟩, .int .i64 0] 64)
    rw [World.size_alloc] at h
    exact blk_alloc h _
  · rintro e w' ⟨v0, v1, rfl, h0, h1, hb⟩
    obtain ⟨A0, c0, rfl, l0, g0⟩ := Kd.R_reads h0
    obtain ⟨A1, c1, rfl, l1, g1⟩ := Kd.R_reads h1
    exact ⟨A0, c0, A1, c1, rfl, l0, g0, l1, g1, below_step hB hb⟩

/-- what stays: the map's block, its two rows -/
structure Keeps (w W : World) (M : Nat) (A0 : Option Addr) (c0 : Nat) (A1 : Option Addr) (c1 : Nat) : Prop where
  m : W.heap[M]? = some (.cells #[.slice A0 3 c0, .slice A1 1 c1] 38 (0, 0))
  g0 : Kd.bool.C W A0 3 [false, true, false]
  g1 : Kd.bool.C W A1 1 [true]
  b : Below w.heap.size w W
theorem Keeps.below {w W W' : World} {M : Nat} {A0 A1 : Option Addr} {c0 c1 : Nat} (h : Keeps w W M A0 c0 A1 c1) (hb : Below W.heap.size W W') : Keeps w W' M A0 c0 A1 c1 :=
  ⟨(hb.block M (blk_lt h.m)).trans h.m, Kd.C_below h.g0 hb, Kd.C_below h.g1 hb, below_step h.b hb⟩
theorem Keeps.alloc {w W : World} {M : Nat} {A0 A1 : Option Addr} {c0 c1 : Nat} (h : Keeps w W M A0 c0 A1 c1) (o : Obj) : Keeps w (W.alloc o) M A0 c0 A1 c1 := h.below (below_alloc (Below.refl _ _) _)
theorem Keeps.new {w W : World} {A0 A1 : Option Addr} {c0 c1 : Nat} (hB : Below w.heap.size w W) (g0 : Kd.bool.C W A0 3 [false, true, false]) (g1 : Kd.bool.C W A1 1 [true]) : Keeps w (W.alloc (.cells #[.slice A0 3 c0, .slice A1 1 c1] 38)) W.heap.size A0 c0 A1 c1 :=
  ⟨blk_new _ _, Kd.C_below g0 (below_alloc (Below.refl _ _) _), Kd.C_below g1 (below_alloc (Below.refl _ _) _), below_alloc hB _⟩

set_option maxRecDepth 100000 in
set_option maxHeartbeats 4000000 in
theorem cruciblelaw12_shown.calls (r : Bool) (w : World) (h : cruciblelaw12_shown.f = some r) : Calls Try.prog 6 #[] w fun e w' => e = .returned (.bool r) ∧ Below w.heap.size w w' := by
  obtain rfl : true = r := Option.some.inj h
  clear h
  go_enter Try.func6, Try.ntmps6
  go_wp2_with (go_at_call 9; fail)
  obtain ⟨W, hW, hc⟩ := ex_of_calls w
  rw [hW]
  refine hc.mono ?_
  clear hc hW W
  rintro e W ⟨A0, c0, A1, c1, rfl, l0, g0, l1, g1, hB⟩
  go_wp2_with (go_at_call 20; fail)
  have HK := Keeps.new (c0 := c0) (c1 := c1) hB g0 g1
  clear g0 g1 hB
  generalize hW1 : W.alloc (.cells #[.slice A0 3 c0, .slice A1 1 c1] 38) = W1 at HK ⊢
  have hsz : W1.heap.size = W.heap.size + 1 := by rw [← hW1, World.size_alloc]
  rw [← hsz]
  generalize W.heap.size = M at *
  clear hW1 hsz W
  refine (cruciblelaw12_sameBits.calls 5 A0 c0 [false, true, false] (some ⟨W1.heap.size, 0, none⟩) 3 [false, true, false] true _ (HK.alloc _).g0 l0 (row_bools (t := 4) _ (by decide) (blk_new _ _)) (by decide) ex_sameL).mono ?_
  rintro e W2 ⟨rfl, hdr⟩
  replace HK := (HK.alloc _).below hdr.below
  clear hdr
  have hm0 : W2.cell? ⟨M, 0, none⟩ = some (.slice A0 3 c0) := blk_cell HK.m 0
  have hm1 : W2.cell? ⟨M, 1, none⟩ = some (.slice A1 1 c1) := blk_cell HK.m 1
  have HK2 := Aside0.mk HK
  clear HK
  go_wp2_with (go_at_call 20; fail)
  have HK := HK2.out
  refine (cruciblelaw12_sameBits.calls 5 A1 c1 [true] (some ⟨W2.heap.size, 0, none⟩) 1 [true] true _ (HK.alloc _).g1 l1 (row_bools (t := 4) _ (by decide) (blk_new _ _)) (by decide) ex_sameS).mono ?_
  rintro e W3 ⟨rfl, hdr⟩
  replace HK := (HK.alloc _).below hdr.below
  clear hdr HK2 hm0 hm1
  have hm0 : W3.cell? ⟨M, 0, none⟩ = some (.slice A0 3 c0) := blk_cell HK.m 0
  have hm1 : W3.cell? ⟨M, 1, none⟩ = some (.slice A1 1 c1) := blk_cell HK.m 1
  have HK2 := Aside0.mk HK
  clear HK
  go_wp2_with (go_at_call 8; fail)
  have HK := HK2.out
  refine (refmap_Pack.calls (some ⟨W3.heap.size, 0, none⟩) 1 exM ⟨#[0, 1, 3, 1, 80]⟩ 0 _ (row_exM (t := 38) (blk_new _ _) l0 (HK.alloc _).g0 l1 (HK.alloc _).g1) (by decide) ex_pack).mono ?_
  rintro e W4 ⟨rfl, hb⟩
  have HB := Aside0.mk ((HK.alloc _).below hb).b
  clear hb HK HK2 hm0 hm1
  go_wp2_with (go_at_call 21; fail)
  refine (unpack_row80 _).mono ?_
  rintro e W5 ⟨⟨b, A5, c5, c5', rfl, hcell⟩, hb⟩
  replace HB := Aside0.mk (below_step HB.out hb)
  have hlt : b < W5.heap.size := World.block_lt_of_cell? _ ⟨b, 0, none⟩ hcell
  clear hb
  go_wp2_with (go_at_call 21; fail)
  refine (unpack_row81 _).mono ?_
  rintro e W6 ⟨rfl, hb⟩
  replace HB := Aside0.mk (below_step HB.out hb)
  replace hcell := (hb.cell hlt).trans hcell
  replace hlt := Nat.lt_of_lt_of_le hlt hb.size
  clear hb
  go_wp2_with (go_at_call 21; fail)
  refine (unpack_short _).mono ?_
  rintro e W7 ⟨rfl, hb⟩
  replace HB := Aside0.mk (below_step HB.out hb)
  replace hcell := (hb.cell hlt).trans hcell
  replace hlt := Nat.lt_of_lt_of_le hlt hb.size
  clear hb
  go_wp2_with (go_at_call 21; fail)
  refine (unpack_long _).mono ?_
  rintro e W8 ⟨rfl, hb⟩
  replace HB := Aside0.mk (below_step HB.out hb)
  replace hcell := (hb.cell hlt).trans hcell
  clear hb hlt
  go_wp2
  go_ret
  exact ⟨rfl, HB.out⟩
end Go.Proofs.Ytnbjhfleoodncaa.X
