/- code.lands: whether each jump leads to an instruction's place, and whether the last op is final. Conditions: the instructions are read. -/
import Derived.Test.YtnbjhfleoodncaaXMap
import Derived.Test.YtnbjhfleoodncaaXReadAll
namespace Go.Proofs.Ytnbjhfleoodncaa.X
open Go.RowKit Go.Shelf Go.Proofs.YtnbjhfleoodncaaW.PrintWords Go.Proofs.YtnbjhfleoodncaaW.PrintLast Go.Proofs.YtnbjhfleoodncaaW.PrintMore
set_option linter.unusedVariables false
set_option linter.unusedSimpArgs false

/-- the map of the places -/
def starts (l : List S57) : IM := l.foldl (fun m x => mset m x.f0 (.int .i64 1)) []
theorem starts_snoc (l : List S57) (x : S57) : starts (l ++ [x]) = mset (starts l) x.f0 (.int .i64 1) := by simp [starts]
theorem mget_starts (t : Int) : ∀ (l : List S57) (m : IM), mget (l.foldl (fun m x => mset m x.f0 (.int .i64 1)) m) t = if (l.any fun x => x.f0 == t) = true then some (.int .i64 1) else mget m t
  | [], m => by simp
  | x :: l, m => by
    rw [List.foldl_cons, mget_starts t l, mget_mset, List.any_cons]
    by_cases h1 : (l.any fun x => x.f0 == t) = true
    · simp [h1]
    · rw [if_neg h1]
      by_cases h2 : t = x.f0
      · simp [h2]
      · rw [if_neg h2, if_neg]
        simp only [Bool.or_eq_true, not_or]
        exact ⟨by simpa using fun h => h2 h.symm, h1⟩
def isStart (l : List S57) (t : Int) : Bool := l.any fun x => x.f0 == t
theorem starts_get (l : List S57) (t : Int) : (mget (starts l) t).getD (.int .i64 0) = .int .i64 (if isStart l t = true then 1 else 0) := by
  unfold starts isStart
  rw [mget_starts]
  split <;> simp [mget]
/-- the captured variable holds the map of the places -/
structure Seen (w : World) (l : List S57) (M b : Nat) : Prop where
  box : w.heap[M]? = some (.cells #[.map (some b)] 91 (0, 0))
  map : MapAt w b (starts l)
theorem Seen.drewN {w : World} {l : List S57} {M b : Nat} (h : Seen w l M b) (n : Nat) : Seen (w.drewN n) l M b := ⟨h.box, h.map.of_heap rfl⟩
theorem Seen.below {w w' : World} {l : List S57} {M b : Nat} (h : Seen w l M b) (hb : Below w.heap.size w w') : Seen w' l M b := ⟨blk_below h.box hb, h.map.of_heap (hb.block _ h.map.lt)⟩
theorem zero3_run (w : World) : (zeroValue 3).run Try.prog w = .ok (.int .i64 0) w := by kernel_rfl

set_option maxRecDepth 100000 in
set_option maxHeartbeats 4000000 in
theorem bad_calls (l : List S57) (M b : Nat) (t : Int) (w : World) (hS : Seen w l M b) :
    Calls Try.prog 39 #[.int .i64 t, .pointer (some ⟨M, 0, none⟩)] w fun e w' => e = .returned (.bool (!isStart l t)) ∧ w = w' := by
  have hc := blk_cell hS.box 0
  have hl : ∀ n, (Instr.lookup 91 (.map (some b)) (.int .i64 t) false).run Try.prog (w.drewN n) = .ok (.int .i64 (if isStart l t = true then 1 else 0)) (w.drewN n) := fun n => by
    rw [(hS.drewN n).map.run_lookup Try.underlying91 Try.underlying3 (zero3_run _), starts_get]
  have hl0 := hl 0
  change (Instr.lookup 91 (.map (some b)) (.int .i64 t) false).run Try.prog w = .ok (.int .i64 (if isStart l t = true then 1 else 0)) w at hl0
  clear hS hl
  simp only [List.getElem?_toArray, List.getElem?_cons_zero] at hc
  cases hi : isStart l t with
  | true =>
    rw [hi] at hl0
    simp only [if_true] at hl0
    clear hi
    go_enter Try.func39, Try.ntmps39
    go_wp2
    go_ret
    exact ⟨rfl, rfl⟩
  | false =>
    rw [hi] at hl0
    simp only [Bool.false_eq_true, if_false] at hl0
    clear hi
    go_enter Try.func39, Try.ntmps39
    go_wp2
    go_ret
    exact ⟨rfl, rfl⟩

theorem ret_int_ {k : IntKind} {a b : Int} (h : a = b) : Ending.returned (.int k a) = .returned (.int k b) := by rw [h]
/-- the first jump that leads nowhere -/
def firstBad (l : List S57) (ts : List Int) : Int := match ts.findIdx? (fun t => !isStart l t) with
  | some i => (i : Int)
  | none => -1
set_option maxRecDepth 100000 in
set_option maxHeartbeats 4000000 in
theorem index_calls (l : List S57) (M b : Nat) (ts : List Int) (A : Option Addr) (c : Nat) (w : World) (hts : Kd.C (Kd.int .i64) w A ts.length ts) (hlen : ts.length ≤ 1000000) (hS : Seen w l M b) :
    Calls Try.prog 42 #[.slice A ts.length c, .func (.func 39) #[] #[.pointer (some ⟨M, 0, none⟩)]] w fun e w' => e = .returned (.int .i64 (firstBad l ts)) ∧ w = w' := by
  have HTS := Aside0.mk hts
  have HS := Aside0.mk hS
  clear hts hS
  go_enter Try.func42, Try.ntmps42
  go_wp2
  go_loopg [8] (ts.length + 1) (fun kq v8 w' => ∃ k : Nat, v8 = .int .i64 (k : Int) ∧ w = w' ∧ Aside0 (k + kq = ts.length + 1) ∧ Aside0 (k ≤ ts.length ∧ ∀ j (hj : j < ts.length), j < k → isStart l ts[j] = true))
  case atStart => exact ⟨0, rfl, rfl, ⟨by omega⟩, ⟨by omega, fun j hj h => by omega⟩⟩
  case round =>
    obtain ⟨k, rfl, rfl, HK, HI⟩ := hrel
    by_cases hk : k < ts.length
    · have hi1 : decide ((k : Int) < (ts.length : Int)) = true := decide_eq_true (by omega)
      have hk0 : decide (k < ts.length) = true := decide_eq_true hk
      obtain ⟨ad, rfl, hcell⟩ := Kd.at_int HTS.out (k : Int) (by omega) (by omega)
      have hrd : rd ts (k : Int) = ts[k] := by unfold rd; rw [Int.toNat_natCast, List.getD_eq_getElem?_getD, List.getElem?_eq_getElem hk]; rfl
      rw [hrd, Int.toNat_natCast] at hcell
      have hww : IntKind.i64.wrap ((k : Int) + 1) = ((k + 1 : Nat) : Int) := by rw [IntWalk.i64_in _ (by omega)]; simp
      have hi2 : (0 : Int) ≤ (k : Int) := by omega
      have hi3 : (k : Int) < (ts.length : Int) := by omega
      have HKK := Aside0.mk hk
      clear hrd
      generalize hx : ts[k] = x at hcell
      have HX := Aside0.mk hx
      clear hx
      go_wp2_with (go_at_call 39; fail)
      refine (bad_calls l M b x _ HS.out).mono ?_
      rintro e w1 ⟨rfl, rfl⟩
      cases hst : isStart l x with
      | true =>
        have HST := Aside0.mk hst
        clear hst
        simp only [Bool.not_true]
        go_wp2
        go_roundg (gk - 1)
        case measure => have := HK.out; omega
        case rel =>
          refine ⟨k + 1, by simp, rfl, ⟨by have := HK.out; omega⟩, ⟨by have := HKK.out; omega, fun j hj h => ?_⟩⟩
          rcases Nat.lt_or_ge j k with h1 | h1
          · exact HI.out.2 j hj h1
          · obtain rfl : j = k := by omega
            rw [HX.out]
            exact HST.out
      | false =>
        have HST := Aside0.mk hst
        clear hst
        simp only [Bool.not_false]
        go_wp2
        go_ret
        refine ⟨ret_int_ ?_, rfl⟩
        have hf : ts.findIdx? (fun t => !isStart l t) = some k := by
          rw [List.findIdx?_eq_some_iff_getElem]
          refine ⟨HKK.out, by rw [HX.out, HST.out]; rfl, fun j hj => ?_⟩
          rw [HI.out.2 j (by have := HKK.out; omega) hj]
          simp
        unfold firstBad
        rw [hf]
    · obtain rfl : k = ts.length := by have := HI.out.1; omega
      have hi1 : decide (((ts.length : Nat) : Int) < (ts.length : Int)) = false := decide_eq_false (by omega)
      go_wp2
      go_ret
      refine ⟨ret_int_ ?_, rfl⟩
      have hf : ts.findIdx? (fun t => !isStart l t) = none := by
        rw [List.findIdx?_eq_none_iff]
        intro x hx
        obtain ⟨j, hj, rfl⟩ := List.mem_iff_getElem.1 hx
        rw [HI.out.2 j hj hj]
        rfl
      unfold firstBad
      rw [hf]

theorem firstBad_any (l : List S57) (ts : List Int) : decide ((0 : Int) ≤ firstBad l ts) = ts.any fun t => !isStart l t := by
  unfold firstBad
  cases hf : ts.findIdx? (fun t => !isStart l t) with
  | none =>
    rw [List.findIdx?_eq_none_iff] at hf
    have : (ts.any fun t => !isStart l t) = false := by
      rw [List.any_eq_false]
      intro x hx
      rw [hf x hx]
      simp
    rw [this]
    rfl
  | some i =>
    rw [List.findIdx?_eq_some_iff_getElem] at hf
    obtain ⟨hi, hp, _⟩ := hf
    have : (ts.any fun t => !isStart l t) = true := by
      rw [List.any_eq_true]
      exact ⟨_, List.getElem_mem hi, hp⟩
    rw [this]
    simp
set_option maxRecDepth 100000 in
set_option maxHeartbeats 4000000 in
theorem contains_calls (l : List S57) (M b : Nat) (ts : List Int) (A : Option Addr) (c : Nat) (w : World) (hts : Kd.C (Kd.int .i64) w A ts.length ts) (hlen : ts.length ≤ 1000000) (hS : Seen w l M b) :
    Calls Try.prog 38 #[.slice A ts.length c, .func (.func 39) #[] #[.pointer (some ⟨M, 0, none⟩)]] w fun e w' => e = .returned (.bool (ts.any fun t => !isStart l t)) ∧ w = w' := by
  have HTS := Aside0.mk hts
  have HS := Aside0.mk hS
  clear hts hS
  go_enter Try.func38, Try.ntmps38
  go_wp2_with (go_at_call 42; fail)
  refine (index_calls l M b ts A c _ HTS.out hlen HS.out).mono ?_
  rintro e w1 ⟨rfl, rfl⟩
  have hfa := firstBad_any l ts
  generalize hr : (ts.any fun t => !isStart l t) = r at hfa
  have HR := Aside0.mk hr
  clear hr
  generalize firstBad l ts = n at hfa ⊢
  go_wp2
  go_ret
  exact ⟨by rw [HR.out]; rfl, rfl⟩

/-- what lands answers -/
def landsOf (l : List S57) : Int :=
  if (l.any fun x => x.f4.any fun t => !isStart l t) = true then 12 else if code_Ends.f (l.getLastD z57).f1 = some true then 0 else 13
set_option maxRecDepth 100000 in
set_option maxHeartbeats 4000000 in
theorem lands_calls (l : List S57) (A : Option Addr) (c : Nat) (w : World) (hl : Kd.C k57 w A l.length l) (hlen : l.length ≤ 4096) (hne : 0 < l.length) (hto : ∀ x ∈ l, x.f4.length ≤ 1000000) :
    Calls Try.prog 30 #[.slice A l.length c] w fun e w' => e = .returned (.int .i64 (landsOf l)) ∧ Below w.heap.size w w' := by
  have HL := Aside0.mk hl
  have HTO := Aside0.mk hto
  clear hl hto
  have hmm := @run_makeMap Try.prog
  go_enter Try.func30, Try.ntmps30
  go_wp2
  go_loopg [11] (l.length + 1) (fun kq v11 w' => ∃ k : Nat, v11 = .int .i64 (k : Int) ∧ Aside0 (k + kq = l.length + 1) ∧ Aside0 (k ≤ l.length) ∧ Aside0 (w'.heap[w.heap.size + 1]? = some (.cells #[.map (some w.heap.size)] 91 (0, 0)) ∧ MapAt w' w.heap.size (starts (l.take k)) ∧ Below w.heap.size w w'))
  case atStart =>
    refine ⟨0, rfl, ⟨by omega⟩, ⟨by omega⟩, ⟨?_, ?_, ?_⟩⟩
    · have h := blk_new (w.alloc (.map #[] 0)) (.cells #[.map (some w.heap.size)] 91)
      rw [World.size_alloc] at h
      exact h
    · exact (MapAt.made w).of_heap (Below.heap_alloc _ _ _ (by simp))
    · exact below_alloc (below_alloc (Below.refl _ _) _) _
  case round =>
    obtain ⟨k, rfl, HK, HI, HW⟩ := hrel
    by_cases hk : k < l.length
    · have hi1 : decide ((k : Int) < (l.length : Int)) = true := decide_eq_true (by omega)
      have hi2 : (0 : Int) ≤ (k : Int) := by omega
      have hi3 : (k : Int) < (l.length : Int) := by omega
      have hww : IntKind.i64.wrap ((k : Int) + 1) = ((k + 1 : Nat) : Int) := by rw [IntWalk.i64_in _ (by omega)]; simp
      obtain ⟨hbox, hmap, hbel⟩ := HW.out
      obtain ⟨ad, A3, c3, A4, c4, e, hx0, hx1, hx2, hx3, hx4, hl3, hi3', hl4, hi4'⟩ := at_T57 (Kd.C_below HL.out hbel) (k : Int) hi2 hi3
      cases e
      have hrd : rd_T57 l (k : Int) = l[k] := by unfold rd_T57; rw [Int.toNat_natCast, List.getD_eq_getElem?_getD, List.getElem?_eq_getElem hk]; rfl
      have htk : l.take (k + 1) = l.take k ++ [l[k]] := by rw [List.take_add_one, List.getElem?_eq_getElem hk]; rfl
      have hst := starts_snoc (l.take k) l[k]
      rw [← htk] at hst
      rw [hrd, Int.toNat_natCast] at hx0 hx1 hx2 hx3 hx4
      clear hl3 hi3' hl4 hi4' hrd htk
      generalize l[k] = x at *
      have HST := Aside0.mk hst
      have HKK := Aside0.mk hk
      have hcb : wr.cell? ⟨w.heap.size + 1, 0, none⟩ = some (.map (some w.heap.size)) := blk_cell hbox 0
      have hm2 : MapAt (wr.alloc (.cells #[.int .i64 x.f0, .int .i64 x.f1, .int .i64 x.f2, .slice A3 x.f3.length c3, .slice A4 x.f4.length c4] 57)) w.heap.size (starts (l.take k)) := hmap.of_heap (Below.heap_alloc _ _ _ hmap.lt)
      obtain ⟨W2, hrun, hmap2, hgrow2, hsz2⟩ := hm2.run_update Try.underlying91 Try.underlying3 x.f0 (.int .i64 1)
      have HRES : Aside0 (W2.heap[w.heap.size + 1]? = some (.cells #[.map (some w.heap.size)] 91 (0, 0)) ∧ MapAt W2 w.heap.size (starts (l.take (k + 1))) ∧ Below w.heap.size w W2) := ⟨blk_grown (blk_alloc hbox _) hgrow2 (by simp), by rw [HST.out]; exact hmap2, (below_alloc hbel _).grown hgrow2 (below_alloc hbel _).size (fun j hj => by cases hj; exact Nat.le_refl _)⟩
      have hlb := hmap.lt
      have hlM := blk_lt hbox
      clear hst hk hbox hmap hbel hm2 hmap2 hgrow2 hsz2
      go_wp2
      go_roundg (gk - 1)
      case measure => have := HK.out; have := HKK.out; omega
      case rel => exact ⟨k + 1, by simp, ⟨by have := HK.out; have := HKK.out; omega⟩, ⟨HKK.out⟩, HRES⟩
    · obtain rfl : k = l.length := by have := HI.out; omega
      have hi1 : decide (((l.length : Nat) : Int) < (l.length : Int)) = false := decide_eq_false (by omega)
      obtain ⟨hbox, hmap, hbel⟩ := HW.out
      rw [List.take_length] at hmap
      have HSN : Aside0 (Seen wr l (w.heap.size + 1) w.heap.size ∧ Below w.heap.size w wr) := ⟨⟨hbox, hmap⟩, hbel⟩
      clear hbox hmap hbel HW HI HK
      go_wp2
      go_loopg [21] (l.length + 1) (fun kq v21 w' => ∃ k : Nat, v21 = .int .i64 (k : Int) ∧ Aside0 (k + kq = l.length + 1) ∧ Aside0 (k ≤ l.length ∧ ∀ j (hj : j < l.length), j < k → (l[j].f4.any fun t => !isStart l t) = false) ∧ Aside0 (Seen w' l (w.heap.size + 1) w.heap.size ∧ Below w.heap.size w w'))
      case atStart => exact ⟨0, rfl, ⟨by omega⟩, ⟨by omega, fun j hj h => by omega⟩, HSN⟩
      case round =>
        clear HSN
        obtain ⟨k, rfl, HK, HI, HW⟩ := hrel
        by_cases hk : k < l.length
        · have hi1 : decide ((k : Int) < (l.length : Int)) = true := decide_eq_true (by omega)
          have hi2 : (0 : Int) ≤ (k : Int) := by omega
          have hi3 : (k : Int) < (l.length : Int) := by omega
          have hww : IntKind.i64.wrap ((k : Int) + 1) = ((k + 1 : Nat) : Int) := by rw [IntWalk.i64_in _ (by omega)]; simp
          obtain ⟨hseen, hbel⟩ := HW.out
          obtain ⟨ad, A3, c3, A4, c4, e, hx0, hx1, hx2, hx3, hx4, hl3, hi3', hl4, hi4'⟩ := at_T57 (Kd.C_below HL.out hbel) (k : Int) hi2 hi3
          cases e
          have hrd : rd_T57 l (k : Int) = l[k] := by unfold rd_T57; rw [Int.toNat_natCast, List.getD_eq_getElem?_getD, List.getElem?_eq_getElem hk]; rfl
          rw [hrd, Int.toNat_natCast] at hx0 hx1 hx2 hx3 hx4
          rw [hrd] at hi4'
          have htol := HTO.out l[k] (List.getElem_mem hk)
          clear hl3 hi3' hl4 hrd
          have hx := List.getElem?_eq_getElem hk
          generalize l[k] = x at *
          have HX := Aside0.mk hx
          have HKK := Aside0.mk hk
          have HS2 := Aside0.mk (hseen.below (below_alloc (Below.refl _ _) (.cells #[.int .i64 x.f0, .int .i64 x.f1, .int .i64 x.f2, .slice A3 x.f3.length c3, .slice A4 x.f4.length c4] 57)))
          have HC4 := Aside0.mk (Kd.C_alloc hi4' (.cells #[.int .i64 x.f0, .int .i64 x.f1, .int .i64 x.f2, .slice A3 x.f3.length c3, .slice A4 x.f4.length c4] 57))
          have HB2 := Aside0.mk (below_alloc hbel (.cells #[.int .i64 x.f0, .int .i64 x.f1, .int .i64 x.f2, .slice A3 x.f3.length c3, .slice A4 x.f4.length c4] 57))
          clear hx hk hi4' hseen hbel HW
          go_wp2_with (go_at_call 38; fail)
          refine (contains_calls l (w.heap.size + 1) w.heap.size x.f4 A4 c4 _ HC4.out htol HS2.out).mono ?_
          rintro e w1 ⟨rfl, rfl⟩
          cases hst : (x.f4.any fun t => !isStart l t) with
          | false =>
            have HST := Aside0.mk hst
            clear hst
            go_wp2
            go_roundg (gk - 1)
            case measure => have := HK.out; have := HKK.out; omega
            case rel =>
              refine ⟨k + 1, by simp, ⟨by have := HK.out; have := HKK.out; omega⟩, ⟨HKK.out, fun j hj h => ?_⟩, ⟨HS2.out, HB2.out⟩⟩
              rcases Nat.lt_or_ge j k with h1 | h1
              · exact HI.out.2 j hj h1
              · obtain rfl : j = k := by omega
                rw [(List.getElem?_eq_some_iff.1 HX.out).2]
                exact HST.out
          | true =>
            have HST := Aside0.mk hst
            clear hst
            go_wp2
            go_ret
            refine ⟨ret_int_ ?_, HB2.out⟩
            unfold landsOf
            rw [if_pos]
            rw [List.any_eq_true]
            exact ⟨l[k]'HKK.out, List.getElem_mem _, by rw [(List.getElem?_eq_some_iff.1 HX.out).2]; exact HST.out⟩
        · obtain rfl : k = l.length := by have := HI.out.1; omega
          have hi1 : decide (((l.length : Nat) : Int) < (l.length : Int)) = false := decide_eq_false (by omega)
          obtain ⟨hseen, hbel⟩ := HW.out
          have hww : IntKind.i64.wrap ((l.length : Int) - 1) = ((l.length - 1 : Nat) : Int) := by rw [IntWalk.i64_in _ (by omega)]; omega
          have hi2 : (0 : Int) ≤ ((l.length - 1 : Nat) : Int) := by omega
          have hi3 : ((l.length - 1 : Nat) : Int) < (l.length : Int) := by omega
          obtain ⟨ad, A3, c3, A4, c4, e, hx0, hx1, hx2, hx3, hx4, hl3, hi3', hl4, hi4'⟩ := at_T57 (Kd.C_below HL.out hbel) ((l.length - 1 : Nat) : Int) hi2 hi3
          cases e
          have hrd : rd_T57 l ((l.length - 1 : Nat) : Int) = l.getLastD z57 := by
            unfold rd_T57
            rw [Int.toNat_natCast, List.getD_eq_getElem?_getD, List.getLastD_eq_getLast?, List.getLast?_eq_getElem?]
          rw [hrd, Int.toNat_natCast] at hx1
          have hfin : landsOf l = if code_Ends.f (l.getLastD z57).f1 = some true then 0 else 13 := by
            unfold landsOf
            rw [if_neg]
            rw [Bool.not_eq_true, List.any_eq_false]
            intro x hx
            obtain ⟨j, hj, rfl⟩ := List.mem_iff_getElem.1 hx
            rw [HI.out.2 j hj hj]
            simp
          have HFIN := Aside0.mk hfin
          have HB2 := Aside0.mk hbel
          clear hl3 hi3' hl4 hi4' hrd hx0 hx2 hx3 hx4 hseen hbel HW HI HK hfin
          generalize (l.getLastD z57).f1 = op at HFIN hx1
          generalize hn1 : l.length - 1 = n1 at *
          have HN1 := Aside0.mk hn1
          clear hn1
          obtain ⟨r, hr⟩ : ∃ r, code_Ends.f op = some r := by
            unfold code_Ends.f
            repeat (first | exact ⟨_, rfl⟩ | split)
          go_wp2_with (go_at_call 18; fail)
          refine (code_Ends.calls op r _ hr).mono ?_
          rintro e w1 ⟨rfl, nd, rfl⟩
          have HR := Aside0.mk hr
          clear hr hx1
          cases r with
          | true =>
            go_wp2
            go_ret
            exact ⟨ret_int_ (by rw [HFIN.out, if_pos HR.out]), pw_below_drewN HB2.out _⟩
          | false =>
            go_wp2
            go_ret
            exact ⟨ret_int_ (by rw [HFIN.out, if_neg (by rw [HR.out]; simp)]), pw_below_drewN HB2.out _⟩
end Go.Proofs.Ytnbjhfleoodncaa.X
