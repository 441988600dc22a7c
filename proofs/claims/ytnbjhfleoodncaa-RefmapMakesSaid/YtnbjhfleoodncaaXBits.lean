/- (refmap.Map).bits and its iterator: it yields each bit of Locals, then of Stack, with its place. Conditions: together at most 1000 bits. -/
import Derived.RangeFuncNested
import Derived.RangeFuncBound
import Derived.RangeFuncCalls
import Derived.RangeFuncLeaves
import Derived.Shelf.Abstract
import Derived.Shelf.RegionOpen
import Derived.OwnWalkIn
import Derived.TacticsInMore
import Derived.LoopNIn
import Derived.LoopIn
import Derived.Test.YtnbjhfleoodncaaXGrow
namespace Go.Proofs.Ytnbjhfleoodncaa.X
open Go.RowKit Go.Shelf Go.Proofs.YtnbjhfleoodncaaW.PrintWords Go.Proofs.YtnbjhfleoodncaaW.PrintLast Go.Proofs.YtnbjhfleoodncaaW.PrintMore
set_option linter.unusedVariables false
set_option linter.unusedSimpArgs false
attribute [local go_sem] Oper.semAt_some

/-- what is cells, and no block gb, stays -/
structure CellsBut (gb : Nat) (w w' : World) : Prop where
  os : w'.os = w.os
  tape : w'.tape = w.tape
  output : w'.output = w.output
  size : w.heap.size ≤ w'.heap.size
  block : ∀ k c e f, k ≠ gb → w.heap[k]? = some (.cells c e f) → w'.heap[k]? = some (.cells c e f)

theorem CellsBut.refl (gb : Nat) (w : World) : CellsBut gb w w := ⟨rfl, rfl, rfl, Nat.le_refl _, fun _ _ _ _ _ h => h⟩
theorem CellsBut.trans {gb : Nat} {a b c : World} (h : CellsBut gb a b) (k : CellsBut gb b c) : CellsBut gb a c :=
  ⟨k.os.trans h.os, k.tape.trans h.tape, k.output.trans h.output, Nat.le_trans h.size k.size, fun j x y z hj hx => k.block j x y z hj (h.block j x y z hj hx)⟩
theorem CellsBut.drewN {gb : Nat} {w w' : World} (h : CellsBut gb w w') (n : Nat) : CellsBut gb w (w'.drewN n) := ⟨h.os, h.tape, h.output, h.size, h.block⟩
theorem CellsBut.setCell {gb : Nat} {w w' : World} (h : CellsBut gb w w') (o : Nat) (u : Value) : CellsBut gb w (w'.setCell ⟨gb, o, none⟩ u) :=
  ⟨h.os, h.tape, h.output, by simpa [World.setCell] using h.size, fun k c e f hk hc => (Below.heap_setCell _ _ _ _ (by simpa using hk)).trans (h.block k c e f hk hc)⟩
theorem CellsBut.putObj {gb : Nat} (W : World) (l : Nat) (o o' : Obj) (hl : W.heap[l]? = some o) (ho : o.isCells = false) : CellsBut gb W (W.putObj l o') := by
  have hg := grownBy_putObj' W l o'
  refine ⟨hg.os, hg.tape, hg.output, hg.size, fun k c e f _ hc => ?_⟩
  have hne : k ≠ l := by
    rintro rfl
    rw [hl] at hc
    cases hc
    simp [Obj.isCells] at ho
  rw [hg.block k (Array.getElem?_eq_some_iff.1 hc).1 (by simpa using hne)]
  exact hc

theorem R_cellsBut {α : Type} {d : Kd α} {e : Nat} {w w1 : World} {base : Nat} {ok : Nat → Prop} {v : Value} {xs : List α} {gb : Nat} (h : d.R e w base ok v xs) (hk : CellsBut gb w w1) (hg : gb < base) : d.R e w1 base ok v xs :=
  Kd.R_mono (Kd.R_move (Kd.R_bound h) (fun k hok => by
    obtain ⟨_, h1, _, q, _, cells, hc⟩ := hok
    rw [hc]
    exact hk.block k _ _ _ (by omega) hc)) (fun _ hok => hok.1)

/-- the first k places -/
def uptoF (n k : Nat) : List (Fin n) := (List.finRange n).take k
theorem uptoF_succ (n k : Nat) (hk : k < n) : uptoF n (k + 1) = uptoF n k ++ [⟨k, hk⟩] := by
  unfold uptoF
  rw [List.take_succ_eq_append_getElem (by simpa using hk)]
  simp
theorem uptoF_length (n k : Nat) (hk : k ≤ n) : (uptoF n k).length = k := by simp [uptoF, hk]
theorem uptoF_zero (n : Nat) : uptoF n 0 = [] := by simp [uptoF]
/-- a bit -/
def bitAt (zs : List Bool) (i : Nat) : Bool := zs[i]?.getD false
/-- what the loop's two variables hold -/
def encB (zs : List Bool) (i : Fin zs.length) : Array Value := #[.int .i64 ((i.1 : Nat) : Int), .bool (bitAt zs i.1)]

theorem at_bool {w : World} {A : Option Addr} {n : Nat} {xs : List Bool} (h : Kd.bool.C w A n xs) (k : Nat) (h1 : k < n) : ∃ ad, A = some ad ∧ w.cell? (ad.add k) = some (.bool (bitAt xs k)) := by
  unfold bitAt
  obtain ⟨ad, c, e, _, hK, hc0⟩ := Kd.C_get h false (k : Int) (by omega) (by omega)
  have hc : ∀ j u, c[j]? = some u → w.cell? (ad.add (k * 1 + j)) = some u := hc0
  have hK' : c = [.bool (xs[k]?.getD false)] := by rw [show xs.getD (k : Int).toNat false = xs[k]?.getD false by simp [List.getD]] at hK; exact hK
  subst hK'
  exact ⟨ad, e, by have hq := hc 0 _ rfl; rwa [Nat.mul_one, Nat.add_zero] at hq⟩

theorem reads_two {W : World} {A0 A1 : Option Addr} {c0 c1 : Nat} {x y : List Bool} (l0 : x.length ≤ c0) (l1 : y.length ≤ c1) (h0 : Kd.bool.C W A0 x.length x) (h1 : Kd.bool.C W A1 y.length y) :
    Kd.C (Kd.slice 4 Kd.bool) (W.alloc (.cells #[.slice A0 x.length c0, .slice A1 y.length c1] 35)) (some ⟨W.heap.size, 0, none⟩) 2 [x, y] := by
  have hb : Below W.heap.size W (W.alloc (.cells #[.slice A0 x.length c0, .slice A1 y.length c1] 35)) := (Below.refl _ W).alloc (Nat.le_refl _) _
  refine ⟨rfl, by omega, fun _ => ⟨_, rfl, fun j p hj => ?_⟩⟩
  have hc : ∀ j, (W.alloc (.cells #[.slice A0 x.length c0, .slice A1 y.length c1] 35)).cell? ((⟨W.heap.size, 0, none⟩ : Addr).add j) = (#[.slice A0 x.length c0, .slice A1 y.length c1] : Array Value)[j]? := by
    intro j
    rw [add_plain]
    exact blk_cell (blk_new W _) j
  match j, hj with
  | 0, hj =>
    simp only [List.getElem?_cons_zero, Option.some.injEq] at hj
    subst hj
    refine ⟨[.slice A0 x.length c0], rfl, ⟨A0, c0, rfl, l0, Kd.C_below h0 hb⟩, fun i u hi => ?_⟩
    have hi0 : i = 0 := by
      have := (List.getElem?_eq_some_iff.1 hi).1
      simp at this
      omega
    subst hi0
    rw [hc]
    exact hi
  | 1, hj =>
    simp only [List.getElem?_cons_succ, List.getElem?_cons_zero, Option.some.injEq] at hj
    subst hj
    refine ⟨[.slice A1 y.length c1], rfl, ⟨A1, c1, rfl, l1, Kd.C_below h1 hb⟩, fun i u hi => ?_⟩
    have hi0 : i = 0 := by
      have := (List.getElem?_eq_some_iff.1 hi).1
      simp at this
      omega
    subst hi0
    rw [hc]
    exact hi
  | j + 2, hj => simp at hj

theorem concat_two (A : Option Addr) (c : Nat) (x y : List Bool) (w : World) (hr : Kd.C (Kd.slice 4 Kd.bool) w A 2 [x, y]) (hxy : x.length + y.length ≤ 1000) (zs : List Bool) (hz : zs = x ++ y) :
    Calls Try.prog 35 #[.slice A 2 c] w fun e w' => ∃ A' c', e = .returned (.slice A' zs.length c') ∧ zs.length ≤ c' ∧ Kd.R Kd.bool 4 w' w.heap.size (fun _ => True) (.slice A' zs.length c') zs ∧ Below w.heap.size w w' := by
  subst hz
  refine (concat_any A c [x, y] w hr (by simp) (by simp [sumTo]; omega)).mono ?_
  rintro e w1 ⟨v, rfl, hR, hB⟩
  have hfl : [x, y].flatten = x ++ y := by simp
  rw [hfl] at hR
  obtain ⟨A', c', rfl, hle, _⟩ := Kd.R_reads hR
  exact ⟨A', c', rfl, hle, hR, hB⟩

set_option maxRecDepth 100000 in
set_option maxHeartbeats 2000000 in
theorem bits1_in (n : Nat) (hn : 1 ≤ n) (l Bm gb : Nat) (x y zs : List Bool) (hz : zs = x ++ y) (A0 A1 : Option Addr) (c0 c1 : Nat) (hxy : x.length + y.length ≤ 1000) (J Jx : List (Fin zs.length) → World → Prop) (W : World)
    (hJ : AbidesFrom W.heap.size J)
    (hY : ∀ pre (p : Fin zs.length) W1, J pre W1 → pre.length < zs.length → YieldAt Fence.wide (n - 1) Try.prog l (encB zs p) W1 fun e W' =>
      (e = .returned (.bool true) ∧ J (pre ++ [p]) W' ∧ CellsBut gb W1 W') ∨ (e = .returned (.bool false) ∧ Jx (pre ++ [p]) W'))
    (hB0 : W.cell? ⟨Bm, 0, none⟩ = some (.slice A0 x.length c0)) (hB1 : W.cell? ⟨Bm, 1, none⟩ = some (.slice A1 y.length c1)) (l0 : x.length ≤ c0) (l1 : y.length ≤ c1) (h0 : Kd.bool.C W A0 x.length x) (h1 : Kd.bool.C W A1 y.length y)
    (hgb : gb < W.heap.size) (hJ0 : J [] W) :
    CallsIn Fence.wide n Try.prog 34 #[.func (.yield l) #[] #[], .pointer (some ⟨Bm, 0, none⟩)] W fun e W' => (∃ v, e = .returned v) ∧
      ((∃ ys, ys = uptoF zs.length zs.length ∧ J ys W') ∨ (∃ pre, True ∧ Jx pre W')) := by
  refine callsIn_of_wp Try.func34 rfl trivial ?_ rfl
  simp only [Try.ntmps34, List.size_toArray, List.length_cons, List.length_nil, Nat.reduceAdd, Nat.reduceSub, Array.replicate_succ, Array.replicate_zero, List.push_toArray, List.append_toArray, List.nil_append, List.cons_append]
  have hzl : zs.length ≤ 1000 := by rw [hz, List.length_append]; omega
  have HZ := Aside0.mk hz
  clear hz
  have H2 := Aside0.mk (reads_two l0 l1 h0 h1)
  have HJ := Aside0.mk hJ
  clear hJ
  gi_wp2_with (refine ⟨trivial, ?_⟩; gi_at_call 35; refine (callsIn_wide.2 (concat_two _ _ x y _ H2.out hxy zs HZ.out)).mono ?_; rintro e w1 ⟨A, c, rfl, hle, hR, hB⟩)
  have hBW : Below W.heap.size W w1 := ((Below.refl _ W).alloc (Nat.le_refl _) _).trans (hB.mono (by simp))
  have hR1 : Kd.bool.R 4 w1 W.heap.size (fun _ => True) (.slice A zs.length c) zs := Kd.R_lower hR (by simp)
  have hJ1 : J [] w1 := HJ.out _ _ _ none hJ0 (grown_of_below hBW none) (fun r e => by cases e)
  clear hR hB hJ0 h0 h1 l0 l1 hB0 hB1 H2 HJ
  clear hle
  gi_loopw [12] (fun i wr => ∃ k : Nat, k ≤ zs.length ∧ i = .int .i64 k ∧ J (uptoF zs.length k) wr ∧ CellsBut gb w1 wr)
    (fun i _ => zs.length - (intOf i).toNat)
  case atStart => exact ⟨0, Nat.zero_le _, rfl, by rw [uptoF_zero]; exact hJ1, CellsBut.refl _ _⟩
  case round =>
    obtain ⟨k, hk, rfl, hJs, hnx⟩ := hrel
    by_cases hlt : k < zs.length
    · obtain ⟨_, _, hse, _, hC⟩ := Kd.R_reads (R_cellsBut hR1 hnx hgb)
      injection hse with hA hn2 hc2
      rw [← hA] at hC
      obtain ⟨ad, rfl, hcell⟩ := at_bool hC k hlt
      clear hA hn2 hc2 hC
      obtain ⟨fn, tmps, assign, body, hy, hRd⟩ := hY _ ⟨k, hlt⟩ wr hJs (by rw [uptoF_length _ _ hk]; exact hlt)
      have HU := Aside0.mk (uptoF_succ zs.length k hlt)
      unfold encB at hy
      dsimp only at hy
      generalize bitAt zs k = b at hcell hy
      gi_wp2
      refine hRd.mono ?_
      rintro e W3 (⟨rfl, hJ3, hk3⟩ | ⟨rfl, hJx3⟩)
      · gi_wp2
        go_roundw
        case rel => exact ⟨k + 1, by omega, by simp, by rw [HU.out]; exact hJ3, hnx.trans hk3⟩
        case measure => simp [intOf]; omega
      · gi_wp2
        refine bodyPost_ret (results_none rfl _ _ _) rfl ?_
        exact ⟨⟨_, rfl⟩, .inr ⟨_, trivial, hJx3⟩⟩
    · obtain rfl : k = zs.length := by omega
      gi_wp2
      go_end0
      exact ⟨⟨_, rfl⟩, .inl ⟨_, rfl, hJs⟩⟩

/-- the iterator that bits hands back -/
theorem bits_stops (n : Nat) (hn : 1 ≤ n) (Bm gb : Nat) (x y zs : List Bool) (hz : zs = x ++ y) (A0 A1 : Option Addr) (c0 c1 : Nat) (hxy : x.length + y.length ≤ 1000) (w : World) (hBm : Bm < w.heap.size) (hgb : gb < w.heap.size)
    (hB0 : w.cell? ⟨Bm, 0, none⟩ = some (.slice A0 x.length c0)) (hB1 : w.cell? ⟨Bm, 1, none⟩ = some (.slice A1 y.length c1)) (l0 : x.length ≤ c0) (l1 : y.length ≤ c1) (h0 : Kd.bool.C w A0 x.length x) (h1 : Kd.bool.C w A1 y.length y) :
    SeqStopsK Fence.wide n Try.prog 34 #[.pointer (some ⟨Bm, 0, none⟩)] (encB zs) (CellsBut gb) (fun ys => ys = uptoF zs.length zs.length) (fun _ => True) zs.length w := fun l J Jx W hW hJ hJx hY hJ0 =>
  bits1_in n hn l Bm gb x y zs hz A0 A1 c0 c1 hxy J Jx W hJ hY ((hW.cell (p := ⟨Bm, 0, none⟩) hBm).trans hB0) ((hW.cell (p := ⟨Bm, 1, none⟩) hBm).trans hB1) l0 l1 (Kd.C_below h0 hW) (Kd.C_below h1 hW) (Nat.lt_of_lt_of_le hgb hW.size) hJ0

set_option maxHeartbeats 1000000 in
theorem bits_calls (v0 v1 : Value) (w : World) :
    Calls Try.prog 24 #[.agg #[v0, v1]] w fun e w' => e = .returned (.func (.func 34) #[] #[.pointer (some ⟨w.heap.size, 0, none⟩)]) ∧ w' = w.alloc (.cells #[v0, v1] 38) := by
  go_enter Try.func24, Try.ntmps24
  go_wp2
  go_ret
  exact ⟨rfl, rfl⟩

end Go.Proofs.Ytnbjhfleoodncaa.X
