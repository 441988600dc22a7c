/- An argument's reading, opened: rows of rows, structs. Conditions: none. -/
import Derived.Test.YtnbjhfleoodncaaXx0
import Derived.Deep.Slices
import Derived.Deep.Strs
import Derived.OpenShut
import Derived.ChangeArms
namespace Go.Proofs.Ytnbjhfleoodncaa.X
open Go.RowKit Go.ChangeShapes Go.Deep Go.Proofs.YtnbjhfleoodncaaW.PrintWords Go.Proofs.YtnbjhfleoodncaaW.PrintLast Go.Proofs.YtnbjhfleoodncaaW.PrintMore

/-- cells of type t, read in any way, are a value of the kind d, and a good one -/
def Opens {α : Type} (P : Program) (w : World) (t : TypeId) (d : Kd α) (good : α → Prop) : Prop :=
  ∀ (H : Type) (enc : TypeId × Value → H) (base : Nat) (spare : Nat → Bool) (held : Bool) (n : Nat) (cs : List Value) (x : DataW H × List MemPlace), DataW.trod enc P w base spare held n t cs = some x → ∃ v, d.K w v cs ∧ cs.length = d.sz ∧ good v

theorem opens_int {P : Program} {w : World} {t : TypeId} {k : IntKind} (ht : P.underlying t = some (.int k)) : Opens P w t (Kd.int k) (fun n => (Lit.int k n).wf = true) := by
  intro H enc base spare held n cs x h
  obtain ⟨v, rfl, _, hw⟩ := DataW.trod_int ht h
  exact ⟨v, rfl, rfl, hw⟩
theorem opens_bool {P : Program} {w : World} {t : TypeId} (ht : P.underlying t = some .bool) : Opens P w t Kd.bool (fun _ => True) := by
  intro H enc base spare held n cs x h
  obtain ⟨v, rfl, _⟩ := DataW.trod_bool ht h
  exact ⟨v, rfl, rfl, trivial⟩
theorem opens_string {P : Program} {w : World} {t : TypeId} (ht : P.underlying t = some .string) : Opens P w t Kd.string (fun s => s.size ≤ maxLen) := by
  intro H enc base spare held n cs x h
  obtain ⟨v, rfl, _, hw⟩ := DataW.trod_string ht h
  exact ⟨v, rfl, rfl, hw⟩

/-- a slice of what opens -/
theorem open_row {α : Type} {P : Program} {w : World} {t e : TypeId} {d : Kd α} {good : α → Prop} (z : α) (ht : P.underlying t = some (.slice e)) (hc : P.cellsOf e = d.sz) (he : Opens P w e d good)
    {H : Type} {enc : TypeId × Value → H} {base : Nat} {spare : Nat → Bool} {held : Bool} {n : Nat} {cs : List Value} {x : DataW H × List MemPlace} (h : DataW.trod enc P w base spare held n t cs = some x) :
    ∃ (A : Option Addr) (xs : List α) (c : Nat), cs = [.slice A xs.length c] ∧ xs.length ≤ c ∧ c ≤ maxLen ∧ d.C w A xs.length xs ∧ ∀ y ∈ xs, good y := by
  rcases Deep.open_slice ht h with ⟨rfl, _⟩ | ⟨a, len, cap, m, n', D, Pl, rfl, _, hl, hm, hmm, _, hel⟩
  · exact ⟨none, [], 0, rfl, Nat.le_refl _, Nat.zero_le _, ⟨rfl, by simp, fun h => absurd h (by simp)⟩, fun y hy => by cases hy⟩
  have hlm : len ≤ m := by rw [hmm]; split <;> omega
  have hall : ∀ i, i < len → ∃ v : α, ∃ cs', w.cells? base (a.add (i * P.cellsOf e)) (P.cellsOf e) = some cs' ∧ d.K w v cs' ∧ cs'.length = d.sz ∧ good v := fun i hi => by
    obtain ⟨cs', h1, h2⟩ := hel i (by omega)
    obtain ⟨v, hk, hlen, hg⟩ := he H enc base spare held n' cs' _ h2
    exact ⟨v, cs', h1, hk, hlen, hg⟩
  obtain ⟨V, hV⟩ : ∃ V : Nat → α, ∀ i, i < len → ∃ cs', w.cells? base (a.add (i * P.cellsOf e)) (P.cellsOf e) = some cs' ∧ d.K w (V i) cs' ∧ cs'.length = d.sz ∧ good (V i) := by
    refine ⟨fun i => if hi : i < len then Classical.choose (hall i hi) else z, fun i hi => ?_⟩
    simp only [dif_pos hi]
    exact Classical.choose_spec (hall i hi)
  refine ⟨some a, (List.range len).map V, cap, by simp, by simpa using hl, hm, ⟨rfl, ?_, fun _ => ⟨a, rfl, fun j p hj => ?_⟩⟩, fun y hy => ?_⟩
  · have : maxLen ≤ 9223372036854775807 := by decide
    simp
    omega
  · have hjl : j < len := by
      have := (List.getElem?_eq_some_iff.1 hj).1
      simpa using this
    obtain ⟨cs', h1, hk, hlen, _⟩ := hV j hjl
    have hp : p = V j := by
      rw [List.getElem?_map, List.getElem?_range hjl] at hj
      simpa using hj.symm
    subst hp
    refine ⟨cs', hlen, hk, fun i u hi => ?_⟩
    obtain ⟨_, _, hcell⟩ := World.cells?_some h1
    have hil : i < P.cellsOf e := by
      rw [hc, ← hlen]
      exact (List.getElem?_eq_some_iff.1 hi).1
    have := hcell i hil
    rw [Deep.add_add, hc] at this
    rw [this]
    exact hi
  · obtain ⟨i, hi, rfl⟩ := List.mem_map.1 hy
    obtain ⟨_, _, _, _, hg⟩ := hV i (List.mem_range.1 hi)
    exact hg
theorem opens_slice {α : Type} {P : Program} {w : World} {t e : TypeId} {d : Kd α} {good : α → Prop} (z : α) (ht : P.underlying t = some (.slice e)) (hc : P.cellsOf e = d.sz) (he : Opens P w e d good) : Opens P w t (Kd.slice e d) (fun xs => xs.length ≤ maxLen ∧ ∀ y ∈ xs, good y) := by
  intro H enc base spare held n cs x h
  obtain ⟨A, xs, c, rfl, h1, h2, h3, h4⟩ := open_row z ht hc he h
  exact ⟨xs, ⟨A, c, rfl, h1, h3⟩, rfl, Nat.le_trans h1 h2, h4⟩
end Go.Proofs.Ytnbjhfleoodncaa.X
