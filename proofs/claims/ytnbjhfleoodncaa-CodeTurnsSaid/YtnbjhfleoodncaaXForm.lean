/- code.rows: the table of ops; code.Form, code.Name, code.Op: what they read from it. Conditions: none. -/
import Derived.Test.YtnbjhfleoodncaaXc5
import Derived.Shelf.RegionOpen
import Derived.StillTailTactics
import Derived.Deep.DeepMust
import Derived.Deep.CutBlock
import Derived.Deep.WholeRow
namespace Go.Proofs.Ytnbjhfleoodncaa.X
open Go.RowKit Go.Shelf Go.Proofs.YtnbjhfleoodncaaW.PrintWords Go.Proofs.YtnbjhfleoodncaaW.PrintLast Go.Proofs.YtnbjhfleoodncaaW.PrintMore
set_option linter.unusedVariables false
set_option linter.unusedSimpArgs false

/-- the ops' names and forms -/
def opNames : List (List UInt8) := [[110, 111, 112], [105, 110, 116], [116, 101, 120, 116], [110, 117, 108, 108], [108, 111, 97, 100], [115, 116, 111, 114, 101], [112, 111, 112], [100, 117, 112], [115, 119, 97, 112], [97, 100, 100], [115, 117, 98], [109, 117, 108], [100, 105, 118], [114, 101, 109], [110, 101, 103], [97, 110, 100], [111, 114], [120, 111, 114], [115, 104, 108], [115, 104, 114], [103, 111, 116, 111], [105, 102, 101, 113], [105, 102, 110, 101], [105, 102, 108, 116], [105, 102, 103, 101], [99, 109, 112, 101, 113], [99, 109, 112, 108, 116], [105, 102, 110, 117, 108, 108], [105, 102, 115, 111, 109, 101], [115, 97, 109, 101], [115, 119, 105, 116, 99, 104], [110, 101, 119], [97, 114, 114, 97, 121], [108, 101, 110], [97, 103, 101, 116], [97, 112, 117, 116], [103, 101, 116], [112, 117, 116], [115, 103, 101, 116], [115, 112, 117, 116], [118, 105, 114, 116], [105, 102, 97, 99, 101], [115, 116, 97, 116], [115, 112, 101, 99], [114, 101, 116], [118, 114, 101, 116], [116, 104, 114, 111, 119], [99, 97, 115, 116], [105, 115], [101, 110, 116, 101, 114], [101, 120, 105, 116], [115, 112, 97, 119, 110], [106, 111, 105, 110], [121, 105, 101, 108, 100], [112, 114, 105, 110, 116], [112, 114, 105, 110, 116, 115], [119, 101, 97, 107], [100, 101, 114, 101, 102], [115, 108, 101, 110], [115, 99, 104, 97, 114], [115, 99, 97, 116], [105, 110, 116, 101, 114, 110], [108, 111, 97, 100, 101, 114], [109, 97, 107, 101]]
def opForms : List Int := [45, 110, 110, 45, 98, 98, 45, 45, 45, 45, 45, 45, 45, 45, 45, 45, 45, 45, 45, 45, 106, 106, 106, 106, 106, 106, 106, 106, 106, 106, 115, 110, 110, 45, 45, 45, 110, 110, 110, 110, 110, 110, 110, 110, 45, 45, 45, 110, 110, 45, 45, 110, 45, 45, 45, 45, 45, 45, 45, 45, 45, 45, 45, 45]
/-- the table, cell by cell -/
def rowCells : Array Value := ((opNames.zip opForms).flatMap fun x => [Value.string ⟨x.1.toArray⟩, Value.int .u8 x.2]).toArray
def zeroCells : Array Value := ((List.replicate 64 ()).flatMap fun _ => [Value.string ⟨#[]⟩, Value.int .u8 0]).toArray
theorem zero83 : (Try.prog.info? 83).map (fun i => (i.zero, i.size)) = some (some (.agg zeroCells), 128) := by kernel_rfl

/-- operations that only yield: run in the text's order -/
def runAll (P : Program) : List Oper → Act → World → Option (Act × World)
  | [], a, w => some (a, w)
  | o :: os, a, w => match o.guard, (execOp a.eval o).run P w with
    | none, .ok (.value v) w' => runAll P os (a.put o.dst v) w'
    | _, _ => none
theorem wpList_run {P : Program} {ops : Array Oper} {Q : Exit → Act → World → Prop} {rest : List Oper} {a' : Act} {w' : World} : ∀ (l : List Oper) (a : Act) (w : World), runAll P l a w = some (a', w') → wpList P ops Q rest a' w' → wpList P ops Q (l ++ rest) a w
  | [], a, w, hr, h => by
    cases hr
    exact h
  | o :: l, a, w, hr, h => by
    unfold runAll at hr
    cases hg : o.guard with
    | some g => rw [hg] at hr; simp at hr
    | none =>
      rw [hg] at hr
      refine wpList_plain hg fun K hK => ?_
      unfold Oper.wp
      cases hx : (execOp a.eval o).run P w with
      | halt h w2 => rw [hx] at hr; simp at hr
      | ok n w2 =>
        cases n with
        | value v =>
          rw [hx] at hr
          exact hK _ _ (wpList_run l _ _ hr h)
        | _ => rw [hx] at hr; simp at hr
noncomputable def rowOps : List Oper := (opsOf Try.f31 1).toList
theorem rowOps_run (p : Value) (w : World) : (runAll Try.prog (rowOps.take 65) ⟨#[p] ++ Array.replicate 65 undef, []⟩ w).map (fun r => (r.1.eval (.tmp 65), r.1.tmps.getD 0 undef, r.1.defers, r.2)) = some (.agg rowCells, p, [], w) := by kernel_rfl
theorem rowOps_last : rowOps.drop 65 = [rowOps.getD 65 default] := by kernel_rfl
theorem rowOps_guard : (rowOps.getD 65 default).guard = none := by kernel_rfl
theorem rowOps_op : (rowOps.getD 65 default).op = .store 83 (.tmp 0) (.tmp 65) := by kernel_rfl
theorem rowOps_dst : (rowOps.getD 65 default).dst = none := by kernel_rfl
theorem rowCells_one : rowCells.all (·.oneCell') = true := by decide +kernel
theorem rows_size : (Try.prog.info? 83).map (·.size) = some rowCells.size := by kernel_rfl

set_option maxRecDepth 100000 in
theorem rows_region (w : World) (Q : Exit → Act → World → Prop) (hQ : ∀ a' : Act, a'.tmps.getD 0 undef = .pointer (some ⟨w.heap.size, 0, none⟩) → a'.defers = [] → Q .normal a' (w.alloc (.cells rowCells 83))) :
    (Code.region 1 (opsOf Try.f31 1) false).wp Try.prog Q ⟨#[.pointer (some ⟨w.heap.size, 0, none⟩)] ++ Array.replicate 65 undef, []⟩ (w.alloc (.cells zeroCells 83)) := by
  refine wp_region_list ?_
  have hs : rowOps.take 65 ++ rowOps.drop 65 = (opsOf Try.f31 1).toList := List.take_append_drop 65 rowOps
  rw [← hs]
  obtain ⟨r, hr, hr2⟩ := Option.map_eq_some_iff.1 (rowOps_run (.pointer (some ⟨w.heap.size, 0, none⟩)) (w.alloc (.cells zeroCells 83)))
  obtain ⟨a', w'⟩ := r
  simp only [Prod.mk.injEq] at hr2
  obtain ⟨h65, h0, hd, rfl⟩ := hr2
  refine wpList_run _ _ _ hr ?_
  rw [rowOps_last]
  refine wpList_plain rowOps_guard fun K hK => ?_
  have hp : a'.eval (.tmp 0) = .pointer (some ⟨w.heap.size, 0, none⟩) := h0
  unfold Oper.wp execOp
  simp only [rowOps_op, hp, h65, Sem.run_bind, Result.andThen, run_storeAt_new w 83 zeroCells rowCells rows_size (by decide +kernel) rowCells_one]
  refine hK _ _ ?_
  rw [rowOps_dst]
  exact wpList_nil (hQ _ h0 hd)

theorem rows_body : Try.f31.body = some (Code.seq (Code.region 0 (opsOf Try.f31 0) false) (Code.seq (Code.region 1 (opsOf Try.f31 1) false) Code.ret)) := by kernel_rfl
theorem rows_first : (opsOf Try.f31 0).toList = [(opsOf Try.f31 0).getD 0 default] := by kernel_rfl
theorem rows_first_op : ((opsOf Try.f31 0).getD 0 default).op = .alloc 83 := by kernel_rfl
theorem rows_first_guard : ((opsOf Try.f31 0).getD 0 default).guard = none := by kernel_rfl
theorem rows_first_dst : ((opsOf Try.f31 0).getD 0 default).dst = some 0 := by kernel_rfl
theorem rows_start : (#[] ++ Array.replicate (Try.f31.ntmps - (#[] : Array Value).size) undef : Array Value) = Array.replicate 66 undef := by kernel_rfl
theorem rows_put (p : Value) : (({ tmps := Array.replicate 66 undef, defers := [] } : Act).put (some 0) p) = ⟨#[p] ++ Array.replicate 65 undef, []⟩ := by kernel_rfl
theorem rows_results : Try.f31.results = #[.cell 0 83] := by kernel_rfl
theorem rows_calls (w : World) : Calls Try.prog 31 #[] w fun e w' => e = .returned (.agg rowCells) ∧ Below w.heap.size w w' := by
  obtain ⟨hz, hs⟩ := zero_of_info zero83
  refine calls_of_wp Try.func31 rows_body ?_
  rw [rows_start]
  refine wp_seq ?_
  refine wp_region_list ?_
  rw [rows_first]
  refine wpList_plain rows_first_guard (fun K1 hK1 => ?_)
  unfold Oper.wp execOp
  simp only [rows_first_op]
  have hall : (Instr.alloc 83 true (.tuple #[])).run Try.prog w = .ok (.pointer (some ⟨w.heap.size, 0, none⟩)) (w.alloc (.cells zeroCells 83)) := by
    go_simp
  simp only [Sem.run_bind, hall, Result.andThen, Sem.run_pure]
  refine hK1 _ _ ?_
  rw [rows_first_dst, rows_put]
  refine wpList_nil ?_
  refine wp_seq ?_
  refine rows_region w _ (fun a' h0 hd => ?_)
  refine wp_ret ?_
  have hld := run_loadVar_new (P := Try.prog) w 83 rowCells 64 82 Try.underlying83 rows_size
  refine ⟨hd, .agg rowCells, ?_, rfl, below_alloc (Below.refl _ _) _⟩
  have h0' : a'.tmps[0]?.getD undef = .pointer (some ⟨w.heap.size, 0, none⟩) := by simpa using h0
  simp only [results, rows_results]
  simp [Sem.run_bind, Result.andThen, h0', asAddr, hld]

/-- a row of the table -/
def formOf (n : Nat) : Int := opForms.getD n 0
def nameOf (n : Nat) : ByteArray := ⟨(opNames.getD n []).toArray⟩
theorem index_rows (w : World) : ∀ n : Nat, n < 64 → (Instr.index 83 (.agg rowCells) (.int .i64 (n : Int))).run Try.prog w = .ok (.agg #[.string (nameOf n), .int .u8 (formOf n)]) w
  | 0, _ => by kernel_rfl
  | 1, _ => by kernel_rfl
  | 2, _ => by kernel_rfl
  | 3, _ => by kernel_rfl
  | 4, _ => by kernel_rfl
  | 5, _ => by kernel_rfl
  | 6, _ => by kernel_rfl
  | 7, _ => by kernel_rfl
  | 8, _ => by kernel_rfl
  | 9, _ => by kernel_rfl
  | 10, _ => by kernel_rfl
  | 11, _ => by kernel_rfl
  | 12, _ => by kernel_rfl
  | 13, _ => by kernel_rfl
  | 14, _ => by kernel_rfl
  | 15, _ => by kernel_rfl
  | 16, _ => by kernel_rfl
  | 17, _ => by kernel_rfl
  | 18, _ => by kernel_rfl
  | 19, _ => by kernel_rfl
  | 20, _ => by kernel_rfl
  | 21, _ => by kernel_rfl
  | 22, _ => by kernel_rfl
  | 23, _ => by kernel_rfl
  | 24, _ => by kernel_rfl
  | 25, _ => by kernel_rfl
  | 26, _ => by kernel_rfl
  | 27, _ => by kernel_rfl
  | 28, _ => by kernel_rfl
  | 29, _ => by kernel_rfl
  | 30, _ => by kernel_rfl
  | 31, _ => by kernel_rfl
  | 32, _ => by kernel_rfl
  | 33, _ => by kernel_rfl
  | 34, _ => by kernel_rfl
  | 35, _ => by kernel_rfl
  | 36, _ => by kernel_rfl
  | 37, _ => by kernel_rfl
  | 38, _ => by kernel_rfl
  | 39, _ => by kernel_rfl
  | 40, _ => by kernel_rfl
  | 41, _ => by kernel_rfl
  | 42, _ => by kernel_rfl
  | 43, _ => by kernel_rfl
  | 44, _ => by kernel_rfl
  | 45, _ => by kernel_rfl
  | 46, _ => by kernel_rfl
  | 47, _ => by kernel_rfl
  | 48, _ => by kernel_rfl
  | 49, _ => by kernel_rfl
  | 50, _ => by kernel_rfl
  | 51, _ => by kernel_rfl
  | 52, _ => by kernel_rfl
  | 53, _ => by kernel_rfl
  | 54, _ => by kernel_rfl
  | 55, _ => by kernel_rfl
  | 56, _ => by kernel_rfl
  | 57, _ => by kernel_rfl
  | 58, _ => by kernel_rfl
  | 59, _ => by kernel_rfl
  | 60, _ => by kernel_rfl
  | 61, _ => by kernel_rfl
  | 62, _ => by kernel_rfl
  | 63, _ => by kernel_rfl
  | n + 64, h => absurd h (by omega)

theorem field82_1 (W : World) (s f : Value) : (Instr.field 82 (.agg #[s, f]) 1).run Try.prog W = .ok f W := by kernel_rfl
theorem field82_0 (W : World) (s f : Value) : (Instr.field 82 (.agg #[s, f]) 0).run Try.prog W = .ok s W := by kernel_rfl
def code_Form.f (a0 : Int) : Option Int := some (if 0 ≤ a0 ∧ a0 ≤ 63 then formOf a0.toNat else 0)
set_option maxRecDepth 100000 in
set_option maxHeartbeats 4000000 in
theorem code_Form.calls (a0 r : Int) (w : World) (h : code_Form.f a0 = some r) : Calls Try.prog 17 #[.int .i64 a0] w fun e w' => e = .returned (.int .u8 r) ∧ Below w.heap.size w w' := by
  have h' := Option.some.inj h
  clear h
  by_cases hn : a0 < 0
  · rw [if_neg (by omega)] at h'
    subst h'
    have hn1 : decide (a0 < 0) = true := decide_eq_true hn
    go_enter Try.func17, Try.ntmps17
    go_wp2
    go_ret
    exact ⟨rfl, Below.refl _ _⟩
  · have hn1 : decide (a0 < 0) = false := decide_eq_false hn
    by_cases hp : 63 < a0
    · rw [if_neg (by omega)] at h'
      subst h'
      have hp1 : decide (63 < a0) = true := decide_eq_true hp
      go_enter Try.func17, Try.ntmps17
      go_wp2
      go_ret
      exact ⟨rfl, Below.refl _ _⟩
    · rw [if_pos (by omega)] at h'
      have hp1 : decide (63 < a0) = false := decide_eq_false hp
      obtain ⟨n, rfl⟩ := Int.eq_ofNat_of_zero_le (show 0 ≤ a0 by omega)
      rw [Int.toNat_natCast] at h'
      subst h'
      have hix := fun W => index_rows W n (by omega)
      have hfd := field82_1
      go_enter Try.func17, Try.ntmps17
      go_wp2_with (go_at_call 31; refine (rows_calls _).mono ?_; rintro e w1 ⟨rfl, hb⟩; have HB := Aside0.mk hb; clear hb)
      go_ret
      exact ⟨rfl, HB.out⟩

def code_Name.f (a0 : Int) : Option (ByteArray × Bool) := some (if 0 ≤ a0 ∧ a0 ≤ 63 then (nameOf a0.toNat, true) else (⟨#[]⟩, false))
set_option maxRecDepth 100000 in
set_option maxHeartbeats 4000000 in
theorem name_calls (n : Nat) (hn : n < 64) (w : World) : Calls Try.prog 27 #[.int .i64 (n : Int)] w fun e w' => e = .returned (.tuple #[.string (nameOf n), .bool true]) ∧ Below w.heap.size w w' := by
  have hn1 : decide ((n : Int) < 0) = false := decide_eq_false (by omega)
  have hp1 : decide (63 < (n : Int)) = false := decide_eq_false (by omega)
  have hix := fun W => index_rows W n hn
  have hfd := field82_0
  go_enter Try.func27, Try.ntmps27
  go_wp2_with (go_at_call 31; refine (rows_calls _).mono ?_; rintro e w1 ⟨rfl, hb⟩; have HB := Aside0.mk hb; clear hb)
  go_ret2
  exact ⟨rfl, HB.out⟩

theorem name_list (i : Nat) : (nameOf i).toList = opNames.getD i [] := by rw [ByteArray.toList_eq]; rfl
theorem before_same0 : ∀ i : Nat, i < 29 → ((opNames.getD i [] == ([115, 97, 109, 101] : List UInt8)) = false) := by decide +kernel
theorem before_same (i : Nat) (h : i < 29) : ((nameOf i).toList == ([115, 97, 109, 101] : List UInt8)) = false := by rw [name_list]; exact before_same0 i h
theorem at_same : ((nameOf 29).toList == ([115, 97, 109, 101] : List UInt8)) = true := by rw [name_list]; decide +kernel
set_option maxRecDepth 100000 in
set_option maxHeartbeats 4000000 in
theorem op_same (w : World) : Calls Try.prog 28 #[.string ⟨#[115, 97, 109, 101]⟩] w fun e w' => e = .returned (.tuple #[.int .i64 29, .bool true]) ∧ Below w.heap.size w w' := by
  go_enter Try.func28, Try.ntmps28
  go_wp2_with (go_at_call 31; refine (rows_calls _).mono ?_; rintro e w1 ⟨rfl, hb⟩; have HB := Aside0.mk hb; clear hb)
  go_loopg [7] 30 (fun kq v7 w' => ∃ i : Nat, v7 = .int .i64 (i : Int) ∧ Aside0 (i + kq = 30) ∧ Aside0 (i ≤ 29) ∧ Aside0 (Below w.heap.size w w'))
  case atStart => exact ⟨0, rfl, ⟨rfl⟩, ⟨Nat.zero_le _⟩, HB⟩
  case round =>
    obtain ⟨i, rfl, HK, HI, HB⟩ := hrel
    have hlt : decide ((i : Int) < 64) = true := decide_eq_true (by have := HI.out; omega)
    have hix := fun W => index_rows W i (by have := HI.out; omega)
    have hu82 := Try.underlying82
    by_cases h29 : i = 29
    · have he := at_same
      rw [← h29] at he
      have H29 := Aside0.mk h29
      clear h29
      go_wp2
      go_ret2
      have h29 := H29.out
      subst h29
      exact ⟨rfl, below_alloc HB.out _⟩
    · have he := before_same i (by have := HI.out; omega)
      have hw : IntKind.i64.wrap ((i : Int) + 1) = ((i + 1 : Nat) : Int) := by rw [IntWalk.i64_in _ (by have := HI.out; omega)]; simp
      have H29 := Aside0.mk h29
      clear h29
      go_wp2
      go_roundg (gk - 1)
      case measure => have := HK.out; have := HI.out; have := H29.out; omega
      case rel => exact ⟨i + 1, by simp, ⟨by have := HK.out; have := HI.out; have := H29.out; omega⟩, ⟨by have := HI.out; have := H29.out; omega⟩, ⟨below_alloc HB.out _⟩⟩
end Go.Proofs.Ytnbjhfleoodncaa.X
