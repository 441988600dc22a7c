/- A map from ints, as a list of pairs: what it holds, read, written, deleted. Conditions: the map's type is map[int]V. -/
import Derived.MapKept
import Derived.Carry
import Derived.Maps.Own
namespace Go.Proofs.Ytnbjhfleoodncaa.X
open MapKept
set_option linter.unusedVariables false

abbrev IM := List (Int × Value)
def mfind : IM → Int → Nat → Option (Nat × Value)
  | [], _, _ => none
  | p :: m, k, i => if k = p.1 then some (i, p.2) else mfind m k (i + 1)
def mget : IM → Int → Option Value
  | [], _ => none
  | p :: m, k => if k = p.1 then some p.2 else mget m k
def mset : IM → Int → Value → IM
  | [], k, v => [(k, v)]
  | p :: m, k, v => if k = p.1 then (k, v) :: m else p :: mset m k v
def mdel : IM → Int → IM
  | [], _ => []
  | p :: m, k => if k = p.1 then m else p :: mdel m k
def mkeys (m : IM) : List Int := m.map Prod.fst

theorem mget_none {m : IM} {k : Int} : mget m k = none ↔ k ∉ mkeys m := by
  induction m with
  | nil => simp [mget, mkeys]
  | cons p m ih =>
    unfold mget
    by_cases e : k = p.1
    · simp [e, mkeys]
    · rw [if_neg e, ih]
      simp [mkeys, e]
theorem mget_mset (m : IM) (k k' : Int) (v : Value) : mget (mset m k v) k' = if k' = k then some v else mget m k' := by
  induction m with
  | nil => simp [mget, mset]
  | cons p m ih =>
    unfold mset
    by_cases e : k = p.1
    · rw [if_pos e]
      unfold mget
      dsimp only
      subst e
      by_cases e' : k' = p.1
      · simp [e']
      · simp [e']
    · rw [if_neg e]
      unfold mget
      rw [ih]
      by_cases e' : k' = p.1
      · rw [if_pos e', if_pos e', if_neg (fun h => e (h.symm.trans e'))]
      · rw [if_neg e', if_neg e']
theorem mkeys_mset (m : IM) (k : Int) (v : Value) : mkeys (mset m k v) = if k ∈ mkeys m then mkeys m else mkeys m ++ [k] := by
  induction m with
  | nil => simp [mset, mkeys]
  | cons p m ih =>
    unfold mset
    by_cases e : k = p.1
    · rw [if_pos e]
      simp [mkeys, e]
    · rw [if_neg e]
      show p.1 :: mkeys (mset m k v) = if k ∈ p.1 :: mkeys m then p.1 :: mkeys m else p.1 :: mkeys m ++ [k]
      rw [ih]
      by_cases h : k ∈ mkeys m
      · rw [if_pos h, if_pos (List.mem_cons_of_mem _ h)]
      · rw [if_neg h, if_neg (by simp [e, h])]
        rfl
theorem nodup_mset {m : IM} (h : (mkeys m).Nodup) (k : Int) (v : Value) : (mkeys (mset m k v)).Nodup := by
  rw [mkeys_mset]
  split
  · exact h
  · rename_i hk
    rw [List.nodup_append]
    refine ⟨h, by simp, fun a ha b hb => ?_⟩
    simp only [List.mem_singleton] at hb
    rintro rfl
    exact hk (hb ▸ ha)
theorem mkeys_mdel (m : IM) (k : Int) : mkeys (mdel m k) = (mkeys m).erase k := by
  induction m with
  | nil => simp [mdel, mkeys]
  | cons p m ih =>
    unfold mdel
    by_cases e : k = p.1
    · rw [if_pos e]
      simp [mkeys, e]
    · rw [if_neg e]
      simp only [mkeys, List.map_cons] at ih ⊢
      rw [ih, List.erase_cons_tail (by simpa using fun h => e h.symm)]
theorem nodup_mdel {m : IM} (h : (mkeys m).Nodup) (k : Int) : (mkeys (mdel m k)).Nodup := by
  rw [mkeys_mdel]
  exact h.erase k
theorem mget_mdel {m : IM} (h : (mkeys m).Nodup) (k k' : Int) : mget (mdel m k) k' = if k' = k then none else mget m k' := by
  induction m with
  | nil => simp [mget, mdel]
  | cons p m ih =>
    simp only [mkeys, List.map_cons, List.nodup_cons] at h
    unfold mdel
    by_cases e : k = p.1
    · rw [if_pos e]
      subst e
      by_cases e' : k' = p.1
      · rw [if_pos e', mget_none, e']
        exact h.1
      · rw [if_neg e']
        conv => rhs; unfold mget
        rw [if_neg e']
    · rw [if_neg e]
      unfold mget
      rw [ih h.2]
      by_cases e' : k' = p.1
      · rw [if_pos e', if_pos e', if_neg (fun h => e (h.symm.trans e'))]
      · rw [if_neg e', if_neg e']
theorem length_mset (m : IM) (k : Int) (v : Value) : (mset m k v).length = m.length + if k ∈ mkeys m then 0 else 1 := by
  have h := congrArg List.length (mkeys_mset m k v)
  have h1 : (mkeys (mset m k v)).length = (mset m k v).length := by simp [mkeys]
  have h2 : (mkeys m).length = m.length := by simp [mkeys]
  rw [h1] at h
  rw [h]
  split
  · omega
  · rw [List.length_append, h2]
    rfl
theorem mget_mem {m : IM} {k : Int} {v : Value} (h : mget m k = some v) : (k, v) ∈ m := by
  induction m with
  | nil => cases h
  | cons p m ih =>
    unfold mget at h
    split at h
    · rename_i e
      simp only [Option.some.injEq] at h
      subst h
      subst e
      exact List.mem_cons_self
    · exact List.mem_cons_of_mem _ (ih h)
theorem mget_of_mem {m : IM} (hn : (mkeys m).Nodup) {k : Int} {v : Value} (h : (k, v) ∈ m) : mget m k = some v := by
  induction m with
  | nil => cases h
  | cons p m ih =>
    simp only [mkeys, List.map_cons, List.nodup_cons] at hn
    unfold mget
    rcases List.mem_cons.1 h with h | h
    · subst h
      simp
    · rw [if_neg, ih hn.2 h]
      rintro rfl
      exact hn.1 (List.mem_map.2 ⟨_, h, rfl⟩)

def encE (p : Int × Value) : Value × Value := (.int .i64 p.1, p.2)
/-- block b is a map that holds m -/
def MapAt (w : World) (b : Nat) (m : IM) : Prop := ∃ es clock, w.heap[b]? = some (.map es clock) ∧ es.toList.map (fun e => (e.key, e.val)) = m.map encE ∧ Stamped es clock

theorem MapAt.of_heap {w w' : World} {b : Nat} {m : IM} (h : MapAt w b m) (hb : w'.heap[b]? = w.heap[b]?) : MapAt w' b m := by
  obtain ⟨es, c, h1, h2⟩ := h
  exact ⟨es, c, hb.trans h1, h2⟩
theorem MapAt.lt {w : World} {b : Nat} {m : IM} (h : MapAt w b m) : b < w.heap.size := by
  obtain ⟨es, c, h1, _⟩ := h
  exact (Array.getElem?_eq_some_iff.1 h1).1
theorem MapAt.made (w : World) : MapAt (w.alloc (.map #[] 0)) w.heap.size [] := ⟨#[], 0, heap_alloc_new w _, rfl, stamped_empty 0⟩
theorem encE_keys (m : IM) (es : List MapEntry) (h : es.map (fun e => (e.key, e.val)) = m.map encE) : es.map (·.key) = m.map (fun p => Value.int .i64 p.1) := by
  have := congrArg (List.map Prod.fst) h
  simpa [List.map_map, Function.comp_def, encE] using this
theorem MapAt.nodup {w : World} {b : Nat} {m : IM} (h : MapAt w b m) : (mkeys m).Nodup := by
  obtain ⟨es, c, _, h2, _, _, h3⟩ := h
  rw [encE_keys _ _ h2] at h3
  have : (m.map (fun p => Value.int .i64 p.1)) = (mkeys m).map (Value.int .i64) := by simp [mkeys]
  rw [this] at h3
  unfold List.Nodup at h3 ⊢
  rw [List.pairwise_map] at h3
  exact h3.imp (fun hne e => hne (by rw [e]))
theorem MapAt.cells_ne {w : World} {b g : Nat} {m : IM} {cs : Array Value} {t : TypeId} {fr : Nat × Nat} (h : MapAt w b m) (hg : w.heap[g]? = some (.cells cs t fr)) : b ≠ g := by
  rintro rfl
  obtain ⟨es, c, h1, _⟩ := h
  rw [h1] at hg
  cases hg

section
variable {P : Program} {q : IntKind}
theorem findNow_m (k : Int) : ∀ (es : List MapEntry) (m : IM) (i : Nat), es.map (fun e => (e.key, e.val)) = m.map encE → Instr.findNow (.int .i64) (.int .i64 k) es i = some (mfind m k i)
  | [], [], _, _ => rfl
  | [], _ :: _, _, h => by simp at h
  | _ :: _, [], _, h => by simp at h
  | e :: es, p :: m, i, h => by
    simp only [List.map_cons, List.cons.injEq, encE, Prod.mk.injEq] at h
    obtain ⟨⟨h1, h2⟩, h3⟩ := h
    unfold Instr.findNow mfind
    rw [h1]
    simp only [Instr.sameNow, if_true]
    by_cases e' : k = p.1
    · simp [e', h2]
    · simp only [beq_eq_false_iff_ne.2 e', if_neg e']
      exact findNow_m k es m (i + 1) h3
theorem mfind_get (k : Int) : ∀ (m : IM) (i : Nat), (mfind m k i).map Prod.snd = mget m k
  | [], _ => rfl
  | p :: m, i => by
    unfold mfind mget
    split
    · rfl
    · exact mfind_get k m (i + 1)
theorem mfind_set (k : Int) (v : Value) : ∀ (m : IM) (i j : Nat) (u : Value), mfind m k i = some (j, u) → i ≤ j ∧ mset m k v = m.modify (j - i) (fun _ => (k, v)) ∧ mdel m k = m.eraseIdx (j - i) ∧ m[j - i]? = some (k, u)
  | [], _, _, _, h => by cases h
  | p :: m, i, j, u, h => by
    unfold mfind at h
    by_cases e : k = p.1
    · rw [if_pos e] at h
      cases h
      simp [mset, mdel, e]
    · rw [if_neg e] at h
      obtain ⟨h1, h2, h3, h4⟩ := mfind_set k v m (i + 1) j u h
      have hj : j - i = (j - (i + 1)) + 1 := by omega
      refine ⟨by omega, ?_, ?_, ?_⟩
      · unfold mset
        rw [if_neg e, h2, hj]
        rfl
      · unfold mdel
        rw [if_neg e, h3, hj]
        rfl
      · rw [hj]
        exact h4
theorem mfind_none (k : Int) (v : Value) : ∀ (m : IM) (i : Nat), mfind m k i = none → mset m k v = m ++ [(k, v)] ∧ mdel m k = m ∧ k ∉ mkeys m
  | [], _, _ => by simp [mset, mdel, mkeys]
  | p :: m, i, h => by
    unfold mfind at h
    by_cases e : k = p.1
    · rw [if_pos e] at h
      cases h
    · rw [if_neg e] at h
      obtain ⟨h1, h2, h3⟩ := mfind_none k v m (i + 1) h
      refine ⟨?_, ?_, ?_⟩
      · unfold mset
        rw [if_neg e, h1]
        rfl
      · unfold mdel
        rw [if_neg e, h2]
      · simp only [mkeys, List.map_cons, List.mem_cons, not_or]
        exact ⟨e, h3⟩

theorem MapAt.run_lookup {w : World} {b : Nat} {m : IM} (h : MapAt w b m) {t kt et : TypeId} (ht : P.underlying t = some (.map kt et)) (hk : P.underlying kt = some (.int .i64)) {z : Value} (hz : (zeroValue et).run P w = .ok z w) (k : Int) :
    (Instr.lookup t (.map (some b)) (.int .i64 k) false).run P w = .ok ((mget m k).getD z) w := by
  obtain ⟨es, c, hb, hm, hs⟩ := h
  have hf := MapKept.run_findKey (P := P) (w := w) hk (findNow_m k es.toList m 0 hm)
  have hc : (Instr.checkKey es.isEmpty 10000 kt (.int .i64 k)).run P w = .ok () w := MapKept.run_checkKey hk (show IsKey (.int .i64) (.int .i64 k) from rfl) _ 9999
  have hg := MapKept.run_getObj_map (P := P) hb
  have e := mfind_get k m 0
  cases hx : mfind m k 0 with
  | none =>
    rw [hx] at hf e
    simp [Instr.lookup, run_underlying ht, Result.andThen, hg, hc, hf, hz, ← e]
  | some r =>
    obtain ⟨i, v⟩ := r
    rw [hx] at hf e
    simp [Instr.lookup, run_underlying ht, Result.andThen, hg, hc, hf, ← e]
theorem MapAt.run_lookup_ok {w : World} {b : Nat} {m : IM} (h : MapAt w b m) {t kt et : TypeId} (ht : P.underlying t = some (.map kt et)) (hk : P.underlying kt = some (.int .i64)) {z : Value} (hz : (zeroValue et).run P w = .ok z w) (k : Int) :
    (Instr.lookup t (.map (some b)) (.int .i64 k) true).run P w = .ok (.tuple #[(mget m k).getD z, .bool (mget m k).isSome]) w := by
  obtain ⟨es, c, hb, hm, hs⟩ := h
  have hf := MapKept.run_findKey (P := P) (w := w) hk (findNow_m k es.toList m 0 hm)
  have hc : (Instr.checkKey es.isEmpty 10000 kt (.int .i64 k)).run P w = .ok () w := MapKept.run_checkKey hk (show IsKey (.int .i64) (.int .i64 k) from rfl) _ 9999
  have hg := MapKept.run_getObj_map (P := P) hb
  have e := mfind_get k m 0
  cases hx : mfind m k 0 with
  | none =>
    rw [hx] at hf e
    simp [Instr.lookup, run_underlying ht, Result.andThen, hg, hc, hf, hz, ← e]
  | some r =>
    obtain ⟨i, v⟩ := r
    rw [hx] at hf e
    simp [Instr.lookup, run_underlying ht, Result.andThen, hg, hc, hf, ← e]
theorem MapAt.run_len {w : World} {b : Nat} {m : IM} (h : MapAt w b m) {t kt et : TypeId} (ht : P.underlying t = some (.map kt et)) (ty : TypeId) :
    (Builtin.len_ #[t] ty #[.map (some b)]).run P w = .ok (.int .i64 (m.length : Int)) w := by
  obtain ⟨es, c, hb, hm, hs⟩ := h
  have hg := MapKept.run_getObj_map (P := P) hb
  have hl : es.size = m.length := by have := congrArg List.length hm; simpa using this
  simp [Builtin.len_, run_underlying ht, Result.andThen, hg, goInt, hl]

theorem key_eq (k : Int) (v : Value) {es : Array MapEntry} {m : IM} {j : Nat} {u : Value} (hm : es.toList.map (fun e => (e.key, e.val)) = m.map encE) (h4 : m[j]? = some (k, u)) : ∃ e, es[j]? = some e ∧ e.key = .int .i64 k ∧ e.val = u := by
  have h := congrArg (fun l => l[j]?) hm
  simp only [List.getElem?_map, h4, Array.getElem?_toList] at h
  cases he : es[j]? with
  | none => rw [he] at h; simp at h
  | some e =>
    rw [he] at h
    simp only [Option.map_some, Option.some.injEq, encE, Prod.mk.injEq] at h
    exact ⟨e, rfl, h.1, h.2⟩
/-- m[k] = v -/
theorem MapAt.run_update {w : World} {b : Nat} {m : IM} (h : MapAt w b m) {t kt et : TypeId} (ht : P.underlying t = some (.map kt et)) (hk : P.underlying kt = some (.int .i64)) (k : Int) (v : Value) :
    ∃ w', (Instr.mapUpdate t (.map (some b)) (.int .i64 k) v).run P w = .ok () w' ∧ MapAt w' b (mset m k v) ∧ w.grownBy w' (some b) ∧ w'.heap.size = w.heap.size := by
  obtain ⟨es, c, hb, hm, hs⟩ := h
  have hf := MapKept.run_findKey (P := P) (w := w) hk (findNow_m k es.toList m 0 hm)
  have hc : (Instr.checkKey false 10000 kt (.int .i64 k)).run P w = .ok () w := MapKept.run_checkKey hk (show IsKey (.int .i64) (.int .i64 k) from rfl) _ 9999
  have hg := MapKept.run_getObj_map (P := P) hb
  have hgrow : ∀ o, w.grownBy { w with heap := w.heap.setIfInBounds b o } (some b) := fun o =>
    ⟨rfl, rfl, rfl, by simp, fun i hi hne => (heap_set hb).2 i (fun e => hne (by rw [e]))⟩
  cases hx : mfind m k 0 with
  | none =>
    rw [hx] at hf
    obtain ⟨h1, h2, h3⟩ := mfind_none k v m 0 hx
    refine ⟨{ w with heap := w.heap.setIfInBounds b (.map (es.push { key := .int .i64 k, val := v, born := c }) (c + 1)) }, ?_, ⟨_, _, (heap_set hb).1, ?_, ?_⟩, hgrow _, by simp⟩
    · simp [Instr.mapUpdate, run_underlying ht, Result.andThen, hg, hc, hf, MapKept.run_setObj_map _ hb]
    · rw [h1, Array.toList_push, List.map_append, List.map_append, hm]
      rfl
    · refine stamped_push hs (fun x hxm he => h3 ?_)
      have hk1 : x.key ∈ es.toList.map (·.key) := List.mem_map.2 ⟨x, hxm, rfl⟩
      rw [encE_keys _ _ hm] at hk1
      obtain ⟨p, hp, e⟩ := List.mem_map.1 hk1
      rw [he] at e
      cases e
      exact List.mem_map.2 ⟨p, hp, rfl⟩
  | some r =>
    obtain ⟨i, u⟩ := r
    rw [hx] at hf
    obtain ⟨h1, h2, h3, h4⟩ := mfind_set k v m 0 i u hx
    rw [Nat.sub_zero] at h2 h4
    obtain ⟨e, he, hek, hev⟩ := key_eq k v hm h4
    have hks : (Instr.keyThatStays (((es[i]?).map (·.key)).getD (.int .i64 k)) (.int .i64 k)).run P w = .ok (.int .i64 k) w := by
      rw [he]
      simp [Instr.keyThatStays, hek, Instr.sameBits]
    refine ⟨{ w with heap := w.heap.setIfInBounds b (.map (es.modify i fun e => { e with key := .int .i64 k, val := v }) c) }, ?_, ⟨_, _, (heap_set hb).1, ?_, ?_⟩, hgrow _, by simp⟩
    · simp [Instr.mapUpdate, run_underlying ht, Result.andThen, hg, hc, hf, hks, MapKept.run_setObj_map _ hb]
    · rw [h2]
      apply List.ext_getElem?
      intro j
      have hj := congrArg (fun l => l[j]?) hm
      simp only [List.getElem?_map, Array.getElem?_toList, Array.getElem?_modify, List.getElem?_modify] at hj ⊢
      by_cases hij : i = j
      · subst hij
        simp [he, h4, encE]
      · simp only [if_neg hij]
        simpa using hj
    · exact stamped_modify hs i _ (fun _ _ => rfl) (fun e' _ he' => by rw [he] at he'; cases he'; exact hek.symm)
/-- delete(m, k) -/
theorem MapAt.run_delete {w : World} {b : Nat} {m : IM} (h : MapAt w b m) {t t2 kt et : TypeId} (ht : P.underlying t = some (.map kt et)) (hk : P.underlying kt = some (.int .i64)) (k : Int) (ty : TypeId) :
    ∃ w', (Builtin.delete_ #[t, t2] ty #[.map (some b), .int .i64 k]).run P w = .ok (.tuple #[]) w' ∧ MapAt w' b (mdel m k) ∧ w.grownBy w' (some b) ∧ w'.heap.size = w.heap.size := by
  obtain ⟨es, c, hb, hm, hs⟩ := h
  have hf := MapKept.run_findKey (P := P) (w := w) hk (findNow_m k es.toList m 0 hm)
  have hc : (Instr.checkKey es.isEmpty 10000 kt (.int .i64 k)).run P w = .ok () w := MapKept.run_checkKey hk (show IsKey (.int .i64) (.int .i64 k) from rfl) _ 9999
  have hg := MapKept.run_getObj_map (P := P) hb
  have hgrow : ∀ o, w.grownBy { w with heap := w.heap.setIfInBounds b o } (some b) := fun o =>
    ⟨rfl, rfl, rfl, by simp, fun i hi hne => (heap_set hb).2 i (fun e => hne (by rw [e]))⟩
  cases hx : mfind m k 0 with
  | none =>
    rw [hx] at hf
    obtain ⟨h1, h2, h3⟩ := mfind_none k (.bool true) m 0 hx
    refine ⟨{ w with heap := w.heap.setIfInBounds b (.map es c) }, ?_, ⟨_, _, (heap_set hb).1, by rw [h2]; exact hm, hs⟩, hgrow _, by simp⟩
    simp [Builtin.delete_, run_underlying ht, Result.andThen, hg, hc, hf, MapKept.run_setObj_map _ hb]
  | some r =>
    obtain ⟨i, u⟩ := r
    rw [hx] at hf
    obtain ⟨h1, h2, h3, h4⟩ := mfind_set k (.bool true) m 0 i u hx
    rw [Nat.sub_zero] at h3 h4
    obtain ⟨e, he, hek, hev⟩ := key_eq k (.bool true) hm h4
    refine ⟨{ w with heap := w.heap.setIfInBounds b (.map (es.eraseIdxIfInBounds i) c) }, ?_, ⟨_, _, (heap_set hb).1, ?_, stamped_erase hs i⟩, hgrow _, by simp⟩
    · simp [Builtin.delete_, run_underlying ht, Result.andThen, hg, hc, hf, MapKept.run_setObj_map _ hb]
    · have hlt : i < es.size := (Array.getElem?_eq_some_iff.1 he).1
      have hd : (m.eraseIdx i).map encE = (m.map encE).eraseIdx i := by rw [List.eraseIdx_eq_take_drop_succ, List.eraseIdx_eq_take_drop_succ, List.map_append, List.map_take, List.map_drop]
      rw [h3, hd, ← hm]
      unfold Array.eraseIdxIfInBounds
      rw [dif_pos hlt, Array.toList_eraseIdx, List.eraseIdx_eq_take_drop_succ, List.eraseIdx_eq_take_drop_succ, List.map_append, List.map_take, List.map_drop]
end
end Go.Proofs.Ytnbjhfleoodncaa.X
