/- An argument's reading, opened with its weights: rows of rows, strings, structs, each with what it weighs. Conditions: none. -/
import Derived.Test.YtnbjhfleoodncaaXOpen
import Derived.SizedLaws
namespace Go.Proofs.Ytnbjhfleoodncaa.X
open Go.RowKit Go.ChangeShapes Go.Deep Go.Proofs.YtnbjhfleoodncaaW.PrintWords Go.Proofs.YtnbjhfleoodncaaW.PrintLast Go.Proofs.YtnbjhfleoodncaaW.PrintMore

/-- cells of type t, read in any way and weighing no more than fits, are a value of the kind d, and a good one -/
def OpensW {α : Type} (P : Program) (w : World) (t : TypeId) (d : Kd α) (good : α → Prop) : Prop :=
  ∀ (H : Type) (enc : TypeId × Value → H) (base : Nat) (spare : Nat → Bool) (held : Bool) (n : Nat) (cs : List Value) (x : DataW H × List MemPlace), DataW.trod enc P w base spare held n t cs = some x → (∀ m ∈ DataW.weights P t x.1, m ≤ reachBytes) → ∃ v, d.K w v cs ∧ cs.length = d.sz ∧ good v

theorem opensW_int {P : Program} {w : World} {t : TypeId} {k : IntKind} (ht : P.underlying t = some (.int k)) : OpensW P w t (Kd.int k) (fun n => (Lit.int k n).wf = true) := by
  intro H enc base spare held n cs x h _
  exact opens_int ht H enc base spare held n cs x h
theorem opensW_bool {P : Program} {w : World} {t : TypeId} (ht : P.underlying t = some .bool) : OpensW P w t Kd.bool (fun _ => True) := by
  intro H enc base spare held n cs x h _
  exact opens_bool ht H enc base spare held n cs x h
theorem opensW_string {P : Program} {w : World} {t : TypeId} (ht : P.underlying t = some .string) : OpensW P w t Kd.string (fun s => s.size ≤ reachBytes) := by
  intro H enc base spare held n cs x h hw
  obtain ⟨v, rfl, rfl, _⟩ := DataW.trod_string ht h
  refine ⟨v, rfl, rfl, ?_⟩
  exact hw v.data.size (by simp [DataW.weights])

theorem weightsAll_mem {H : Type} {P : Program} {e : TypeId} {m : Nat} : ∀ {l : List (DataW H)} {d : DataW H}, d ∈ l → m ∈ DataW.weights P e d → m ∈ DataW.weightsAll P e l
  | d :: l, d', h, hm => by
    unfold DataW.weightsAll
    rcases List.mem_cons.1 h with rfl | h
    · exact List.mem_append_left _ hm
    · exact List.mem_append_right _ (weightsAll_mem h hm)

theorem openW_row {α : Type} {P : Program} {w : World} {t e : TypeId} {d : Kd α} {good : α → Prop} (z : α) (ht : P.underlying t = some (.slice e)) (hc : P.cellsOf e = d.sz) (he : OpensW P w e d good)
    {H : Type} {enc : TypeId × Value → H} {base : Nat} {spare : Nat → Bool} {held : Bool} {n : Nat} {cs : List Value} {x : DataW H × List MemPlace} (h : DataW.trod enc P w base spare held n t cs = some x) (hw : ∀ m ∈ DataW.weights P t x.1, m ≤ reachBytes) :
    ∃ (A : Option Addr) (xs : List α) (c : Nat), cs = [.slice A xs.length c] ∧ xs.length ≤ c ∧ xs.length * P.bytesOf e ≤ reachBytes ∧ d.C w A xs.length xs ∧ ∀ y ∈ xs, good y := by
  rcases Deep.open_slice ht h with ⟨rfl, _⟩ | ⟨a, len, cap, m, n', D, Pl, rfl, _, hl, hm, hmm, rfl, hel⟩
  · exact ⟨none, [], 0, rfl, Nat.le_refl _, by simp, ⟨rfl, by simp, fun h => absurd h (by simp)⟩, fun y hy => by cases hy⟩
  have hlm : len ≤ m := by rw [hmm]; split <;> omega
  have hall : ∀ i, i < len → ∃ v : α, ∃ cs', w.cells? base (a.add (i * P.cellsOf e)) (P.cellsOf e) = some cs' ∧ d.K w v cs' ∧ cs'.length = d.sz ∧ good v := fun i hi => by
    obtain ⟨cs', h1, h2⟩ := hel i (by omega)
    obtain ⟨v, hk, hlen, hg⟩ := he H enc base spare held n' cs' _ h2 (fun q hq => hw q (by
      simp only [DataW.weights, ht]
      exact List.mem_cons_of_mem _ (List.mem_append_left _ (weightsAll_mem (List.mem_map.2 ⟨i, List.mem_range.2 hi, rfl⟩) hq))))
    exact ⟨v, cs', h1, hk, hlen, hg⟩
  obtain ⟨V, hV⟩ : ∃ V : Nat → α, ∀ i, i < len → ∃ cs', w.cells? base (a.add (i * P.cellsOf e)) (P.cellsOf e) = some cs' ∧ d.K w (V i) cs' ∧ cs'.length = d.sz ∧ good (V i) := by
    refine ⟨fun i => if hi : i < len then Classical.choose (hall i hi) else z, fun i hi => ?_⟩
    simp only [dif_pos hi]
    exact Classical.choose_spec (hall i hi)
  refine ⟨some a, (List.range len).map V, cap, by simp, by simpa using hl, ?_, ⟨rfl, ?_, fun _ => ⟨a, rfl, fun j p hj => ?_⟩⟩, fun y hy => ?_⟩
  · have h1 := hw ((((List.range len).map D).length + ((List.range (m - len)).map fun j => D (len + j)).length) * P.bytesOf e) (by simp only [DataW.weights, ht]; exact List.mem_cons_self)
    simp only [List.length_map, List.length_range] at h1 ⊢
    exact Nat.le_trans (Nat.mul_le_mul_right _ (by omega)) h1
  · have : maxLen ≤ 9223372036854775807 := by decide
    simp
    omega
  · have hjl : j < len := by
      have := (List.getElem?_eq_some_iff.1 hj).1
      simpa using this
    obtain ⟨cs', h1, hk, hlen, _⟩ := hV j hjl
    have hp : p = V j := by
      rw [List.getElem?_map, List.getElem?_range hjl] at hj
      simpa using hj.symm
    subst hp
    refine ⟨cs', hlen, hk, fun i u hi => ?_⟩
    obtain ⟨_, _, hcell⟩ := World.cells?_some h1
    have hil : i < P.cellsOf e := by
      rw [hc, ← hlen]
      exact (List.getElem?_eq_some_iff.1 hi).1
    have := hcell i hil
    rw [Deep.add_add, hc] at this
    rw [this]
    exact hi
  · obtain ⟨i, hi, rfl⟩ := List.mem_map.1 hy
    obtain ⟨_, _, _, _, hg⟩ := hV i (List.mem_range.1 hi)
    exact hg
theorem opensW_slice {α : Type} {P : Program} {w : World} {t e : TypeId} {d : Kd α} {good : α → Prop} (z : α) (ht : P.underlying t = some (.slice e)) (hc : P.cellsOf e = d.sz) (he : OpensW P w e d good) : OpensW P w t (Kd.slice e d) (fun xs => xs.length * P.bytesOf e ≤ reachBytes ∧ ∀ y ∈ xs, good y) := by
  intro H enc base spare held n cs x h hw
  obtain ⟨A, xs, c, rfl, h1, h2, h3, h4⟩ := openW_row z ht hc he h hw
  exact ⟨xs, ⟨A, c, rfl, h1, h3⟩, rfl, h2, h4⟩

/-! ### structs -/
def FieldsR {H : Type} (enc : TypeId × Value → H) (P : Program) (w : World) (base : Nat) (spare : Nat → Bool) (held : Bool) (n : Nat) : List TypeId → List Value → List (DataW H × List MemPlace) → Prop
  | [], cs, xs => cs = [] ∧ xs = []
  | t :: ts, cs, xs => ∃ x r, xs = x :: r ∧ DataW.trod enc P w base spare held n t (cs.take (P.cellsOf t)) = some x ∧ FieldsR enc P w base spare held n ts (cs.drop (P.cellsOf t)) r
def OpensF {α : Type} (P : Program) (w : World) (ts : List TypeId) (d : Kd α) (good : α → Prop) : Prop :=
  ∀ (H : Type) (enc : TypeId × Value → H) (base : Nat) (spare : Nat → Bool) (held : Bool) (n : Nat) (cs : List Value) (xs : List (DataW H × List MemPlace)), FieldsR enc P w base spare held n ts cs xs → (∀ m ∈ DataW.weightsEach P ts (xs.map (·.1)), m ≤ reachBytes) → ∃ v, d.K w v cs ∧ cs.length = d.sz ∧ good v
theorem opensF_one {α : Type} {P : Program} {w : World} {t : TypeId} {d : Kd α} {good : α → Prop} (h : OpensW P w t d good) : OpensF P w [t] d good := by
  rintro H enc base spare held n cs xs ⟨x, r, rfl, h1, h2, rfl⟩ hw
  have hcs : cs.take (P.cellsOf t) = cs := by
    have h3 : (cs.drop (P.cellsOf t)).length = 0 := by rw [h2]; rfl
    rw [List.length_drop] at h3
    exact List.take_of_length_le (by omega)
  rw [hcs] at h1
  exact h H enc base spare held n cs x h1 (fun m hm => hw m (by simp only [List.map_cons, DataW.weightsEach]; exact List.mem_append_left _ hm))
theorem opensF_cons {α β : Type} {P : Program} {w : World} {t : TypeId} {ts : List TypeId} {d : Kd α} {d' : Kd β} {good : α → Prop} {good' : β → Prop} (h : OpensW P w t d good) (h' : OpensF P w ts d' good') : OpensF P w (t :: ts) (Kd.pair d d') (fun v => good v.1 ∧ good' v.2) := by
  rintro H enc base spare held n cs xs ⟨x, r, rfl, h1, h2⟩ hw
  obtain ⟨v, hk, hl, hg⟩ := h H enc base spare held n _ x h1 (fun m hm => hw m (by simp only [List.map_cons, DataW.weightsEach]; exact List.mem_append_left _ hm))
  obtain ⟨v', hk', hl', hg'⟩ := h' H enc base spare held n _ r h2 (fun m hm => hw m (by simp only [List.map_cons, DataW.weightsEach]; exact List.mem_append_right _ hm))
  refine ⟨(v, v'), ⟨_, _, (List.take_append_drop (P.cellsOf t) cs).symm, hk, hk'⟩, ?_, hg, hg'⟩
  have := congrArg List.length (List.take_append_drop (P.cellsOf t) cs)
  rw [List.length_append, hl, hl'] at this
  exact this.symm
def offsB (P : Program) : Nat → List Field → Bool
  | _, [] => true
  | o, f :: fs => f.offset == o && offsB P (o + P.cellsOf f.type) fs
def sumC (P : Program) (fs : List Field) : Nat := (fs.map fun f => P.cellsOf f.type).sum
theorem fieldsR_of {H : Type} {enc : TypeId × Value → H} {P : Program} {w : World} {base : Nat} {spare : Nat → Bool} {held : Bool} {n : Nat} {cs : List Value} :
    ∀ (fs : List Field) (o : Nat) (xs : List (DataW H × List MemPlace)), offsB P o fs = true → xs.length = fs.length → cs.length = o + sumC P fs →
      (∀ (i : Nat) (f : Field), fs[i]? = some f → DataW.trod enc P w base spare held n f.type ((cs.drop f.offset).take (P.cellsOf f.type)) = xs[i]?) → FieldsR enc P w base spare held n (fs.map (·.type)) (cs.drop o) xs
  | [], o, xs, _, hl, hcs, _ => by
    simp only [sumC, List.map_nil, List.sum_nil, Nat.add_zero] at hcs
    exact ⟨List.drop_of_length_le (by omega), List.length_eq_zero_iff.1 hl⟩
  | f :: fs, o, [], _, hl, _, _ => by simp at hl
  | f :: fs, o, x :: r, hb, hl, hcs, hf => by
    simp only [offsB, Bool.and_eq_true, beq_iff_eq] at hb
    obtain ⟨hb1, hb2⟩ := hb
    have h0 := hf 0 f rfl
    rw [hb1] at h0
    refine ⟨x, r, rfl, h0, ?_⟩
    rw [List.drop_drop]
    refine fieldsR_of fs (o + P.cellsOf f.type) r hb2 (by simpa using hl) ?_ (fun i g hg => hf (i + 1) g hg)
    simp only [sumC, List.map_cons, List.sum_cons] at hcs ⊢
    omega
theorem opensW_struct {α : Type} {P : Program} {w : World} {t : TypeId} {fs : Array Field} {d : Kd α} {good : α → Prop} (ht : P.underlying t = some (.struct fs)) (hb : offsB P 0 fs.toList = true) (hs : P.cellsOf t = sumC P fs.toList) (h : OpensF P w (fs.toList.map (·.type)) d good) : OpensW P w t d good := by
  intro H enc base spare held n cs x hx hw
  obtain ⟨xs, n', rfl, rfl, hl, hlen, hf⟩ := DataW.trod_struct ht hx
  have hF := fieldsR_of (enc := enc) (P := P) (w := w) (base := base) (spare := spare) (held := held) (n := n') (cs := cs) fs.toList 0 xs hb (by simpa using hlen) (by rw [hl, hs, Nat.zero_add]) (fun i f hi => hf i f (by simpa using hi))
  rw [List.drop_zero] at hF
  refine h H enc base spare held n' cs xs hF (fun m hm => hw m ?_)
  simp only [DataW.weights, ht]
  exact hm
theorem opensW_iso {α β : Type} {P : Program} {w : World} {t : TypeId} {d : Kd α} {good : α → Prop} (f : β → α) (g : α → β) (hfg : ∀ a, f (g a) = a) (h : OpensW P w t d good) : OpensW P w t (Kd.iso d f) (fun b => good (f b)) := by
  intro H enc base spare held n cs x hx hw
  obtain ⟨v, hk, hl, hg⟩ := h H enc base spare held n cs x hx hw
  exact ⟨g v, by show d.K w (f (g v)) cs; rw [hfg]; exact hk, hl, by show good (f (g v)); rw [hfg]; exact hg⟩
theorem OpensW.mono {α : Type} {P : Program} {w : World} {t : TypeId} {d : Kd α} {good good' : α → Prop} (h : OpensW P w t d good) (hg : ∀ a, good a → good' a) : OpensW P w t d good' := by
  intro H enc base spare held n cs x hx hw
  obtain ⟨v, hk, hl, hv⟩ := h H enc base spare held n cs x hx hw
  exact ⟨v, hk, hl, hg v hv⟩
/-- the arguments' weights, one by one -/
theorem weight_of {H : Type} {P : Program} {ts : List TypeId} {ds : List (DataW H)} (h : (DataW.weightsEach P ts ds).all (· ≤ reachBytes) = true) {j : Nat} {t : TypeId} {d : DataW H} (ht : ts[j]? = some t) (hd : ds[j]? = some d) : ∀ m ∈ DataW.weights P t d, m ≤ reachBytes := by
  intro m hm
  have := List.all_eq_true.1 h m (DataW.weights_mem_each ht hd m hm)
  simpa using this
end Go.Proofs.Ytnbjhfleoodncaa.X
