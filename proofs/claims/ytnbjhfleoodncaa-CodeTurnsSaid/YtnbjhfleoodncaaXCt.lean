/- What code.Decode reads, in plain words: a model of chapter 4's decoding, and that an op may be turned into another of its form. -/
import Init
namespace Ct

structure Ins where
  pc : Int
  op : Int
  n : Int
  keys : List Int
  to : List Int
  deriving DecidableEq, Repr

/-- the form of an op: 0 none, 1 '-', 2 'b', 3 'n', 4 'j', 5 's' -/
def form (op : Nat) : Nat :=
  if 63 < op then 0
  else if op = 30 then 5
  else if 20 ≤ op ∧ op ≤ 29 then 4
  else if op = 4 ∨ op = 5 then 2
  else if op = 1 ∨ op = 2 ∨ op = 31 ∨ op = 32 ∨ (36 ≤ op ∧ op ≤ 43) ∨ op = 47 ∨ op = 48 ∨ op = 51 then 3
  else 1

def ends (op : Nat) : Bool := op == 20 || op == 30 || op == 44 || op == 45 || op == 46

def two (a b : UInt8) : Int := 256 * (a.toNat : Int) + b.toNat

def far (pc n : Int) : Int := if 32768 ≤ n then pc + (n - 65536) else pc + n

/-- the pairs of a switch: m of them -/
def pairs (pc : Int) : Nat → List UInt8 → Option (List Int × List Int × List UInt8)
  | 0, s => some ([], [], s)
  | m + 1, a :: b :: c :: d :: s =>
    match pairs pc m s with
    | some (ks, ts, r) => some (two a b :: ks, far pc (two c d) :: ts, r)
    | none => none
  | _ + 1, _ => none

/-- an instruction: (error, instruction, what is left); errors: 0, 5 ErrShort, 11 ErrOp -/
def read (s : List UInt8) (pc : Int) : Except Int (Ins × List UInt8) :=
  match s with
  | [] => .error 5
  | o :: s =>
    match form o.toNat with
    | 0 => .error 11
    | 1 => .ok (⟨pc, o.toNat, 0, [], []⟩, s)
    | 2 => match s with
      | a :: s => .ok (⟨pc, o.toNat, a.toNat, [], []⟩, s)
      | _ => .error 5
    | 3 => match s with
      | a :: b :: s => .ok (⟨pc, o.toNat, two a b, [], []⟩, s)
      | _ => .error 5
    | 4 => match s with
      | a :: b :: s => .ok (⟨pc, o.toNat, 0, [], [far pc (two a b)]⟩, s)
      | _ => .error 5
    | _ => match s with
      | a :: b :: c :: d :: s =>
        match pairs pc (two c d).toNat s with
        | some (ks, ts, r) => .ok (⟨pc, o.toNat, 0, ks, far pc (two a b) :: ts⟩, r)
        | none => .error 5
      | _ => .error 5

/-- the instructions of the bytes that are left, the first of them at pc -/
def reads : Nat → List UInt8 → Int → Except Int (List Ins)
  | 0, _, _ => .ok []
  | fuel + 1, s, pc =>
    if s = [] then .ok [] else
    match read s pc with
    | .error e => .error e
    | .ok (x, r) =>
      match reads fuel r (pc + (s.length - r.length)) with
      | .error e => .error e
      | .ok l => .ok (x :: l)

def lands (l : List Ins) : Int :=
  if l.all (fun x => x.to.all fun t => l.any fun y => y.pc == t) then
    (match l.getLast? with
     | some x => if ends x.op.toNat then 0 else 13
     | none => 13)
  else 12

def decode (s : List UInt8) : Except Int (List Ins) :=
  if s = [] then .error 5
  else if 4096 < s.length then .error 2
  else match reads s.length s 0 with
    | .error e => .error e
    | .ok l => if lands l = 0 then .ok l else .error (lands l)

/-! what the statement wants -/

theorem pairs_app (pc : Int) : ∀ (m : Nat) (s : List UInt8) (ks ts : List Int) (r : List UInt8), pairs pc m s = some (ks, ts, r) →
    ∃ p, s = p ++ r ∧ ∀ q, pairs pc m (p ++ q) = some (ks, ts, q) := by
  intro m
  induction m with
  | zero =>
    intro s ks ts r h
    simp only [pairs, Option.some.injEq, Prod.mk.injEq] at h
    obtain ⟨rfl, rfl, rfl⟩ := h
    exact ⟨[], rfl, fun q => rfl⟩
  | succ m ih =>
    intro s ks ts r h
    match s, h with
    | a :: b :: c :: d :: s, h =>
      simp only [pairs] at h
      split at h
      · rename_i ks' ts' r' hp
        simp only [Option.some.injEq, Prod.mk.injEq] at h
        obtain ⟨rfl, rfl, rfl⟩ := h
        obtain ⟨p, rfl, hq⟩ := ih _ _ _ _ hp
        exact ⟨a :: b :: c :: d :: p, rfl, fun q => by simp [pairs, hq]⟩
      · cases h

/-- what is read hangs on the bytes that it takes, and on the op by its form alone -/
theorem read_app {s r : List UInt8} {pc : Int} {x : Ins} (h : read s pc = .ok (x, r)) :
    ∃ o p, s = o :: (p ++ r) ∧ x.op = o.toNat ∧ x.pc = pc ∧ ∀ (o' : UInt8) (q : List UInt8), form o'.toNat = form o.toNat → read (o' :: (p ++ q)) pc = .ok ({ x with op := o'.toNat }, q) := by
  match s, h with
  | o :: s, h =>
    unfold read at h
    dsimp only at h
    have hu : ∀ (o' : UInt8) (q : List UInt8), form o'.toNat = form o.toNat → ∀ t, read (o' :: t) pc = read (o' :: t) pc := fun _ _ _ _ => rfl
    split at h
    · cases h
    · rename_i hf
      simp only [Except.ok.injEq, Prod.mk.injEq] at h
      obtain ⟨rfl, rfl⟩ := h
      exact ⟨o, [], rfl, rfl, rfl, fun o' q hq => by simp [read, hq, hf]⟩
    · rename_i hf
      split at h
      · rename_i a s
        simp only [Except.ok.injEq, Prod.mk.injEq] at h
        obtain ⟨rfl, rfl⟩ := h
        exact ⟨o, [a], rfl, rfl, rfl, fun o' q hq => by simp [read, hq, hf]⟩
      · cases h
    · rename_i hf
      split at h
      · rename_i a b s
        simp only [Except.ok.injEq, Prod.mk.injEq] at h
        obtain ⟨rfl, rfl⟩ := h
        exact ⟨o, [a, b], rfl, rfl, rfl, fun o' q hq => by simp [read, hq, hf]⟩
      · cases h
    · rename_i hf
      split at h
      · rename_i a b s
        simp only [Except.ok.injEq, Prod.mk.injEq] at h
        obtain ⟨rfl, rfl⟩ := h
        exact ⟨o, [a, b], rfl, rfl, rfl, fun o' q hq => by simp [read, hq, hf]⟩
      · cases h
    · rename_i f h0 h1 h2 h3 h4
      split at h
      · rename_i a b c d s
        split at h
        · rename_i ks ts r' hp
          simp only [Except.ok.injEq, Prod.mk.injEq] at h
          obtain ⟨rfl, rfl⟩ := h
          obtain ⟨p, rfl, hq⟩ := pairs_app _ _ _ _ _ _ hp
          refine ⟨o, a :: b :: c :: d :: p, rfl, rfl, rfl, fun o' q ho => ?_⟩
          unfold read
          dsimp only
          split
          · rename_i hz; exact absurd (ho ▸ hz) (by simpa using h0)
          · rename_i hz; exact absurd (ho ▸ hz) (by simpa using h1)
          · rename_i hz; exact absurd (ho ▸ hz) (by simpa using h2)
          · rename_i hz; exact absurd (ho ▸ hz) (by simpa using h3)
          · rename_i hz; exact absurd (ho ▸ hz) (by simpa using h4)
          · simp [hq]
        · cases h
      · cases h

theorem reads_set : ∀ (fuel : Nat) (s : List UInt8) (pc : Int) (l : List Ins), reads fuel s pc = .ok l → s.length ≤ fuel →
    ∀ (k : Nat) (y : Ins), l[k]? = some y →
      pc ≤ y.pc ∧ (y.pc - pc).toNat < s.length ∧ (∃ o : UInt8, y.op = o.toNat) ∧
      ∀ x : UInt8, form x.toNat = form y.op.toNat → reads fuel (s.set (y.pc - pc).toNat x) pc = .ok (l.set k { y with op := x.toNat }) := by
  intro fuel
  induction fuel with
  | zero =>
    intro s pc l h _ k y hk
    simp only [reads, Except.ok.injEq] at h
    subst h
    simp at hk
  | succ fuel ih =>
    intro s pc l h hs k y hk
    unfold reads at h
    split at h
    · simp only [Except.ok.injEq] at h
      subst h
      simp at hk
    rename_i hne
    split at h
    · cases h
    rename_i x0 r hrd
    split at h
    · cases h
    rename_i l' hl'
    simp only [Except.ok.injEq] at h
    subst h
    obtain ⟨o, p, rfl, hop, hpc, hany⟩ := read_app hrd
    simp only [List.length_cons, List.length_append] at hs hl' ⊢
    have hlen : pc + (((p.length + r.length + 1 : Nat) : Int) - (r.length : Int)) = pc + (p.length + 1 : Nat) := by omega
    rw [hlen] at hl'
    cases k with
    | zero =>
      simp only [List.getElem?_cons_zero, Option.some.injEq] at hk
      subst hk
      have h0 : (x0.pc - pc).toNat = 0 := by rw [hpc]; omega
      refine ⟨by rw [hpc]; omega, by omega, ⟨o, hop⟩, fun x hx => ?_⟩
      have hox : form x.toNat = form o.toNat := by rw [hx, hop]; rfl
      rw [h0]
      simp only [List.set_cons_zero]
      unfold reads
      rw [if_neg (by simp), hany x r hox]
      simp only [List.length_cons, List.length_append]
      rw [hlen, hl']
    | succ k =>
      simp only [List.getElem?_cons_succ] at hk
      obtain ⟨h1, h2, h3, h4⟩ := ih r _ l' hl' (by omega) k y hk
      refine ⟨by omega, by omega, h3, fun x hx => ?_⟩
      have hi : (y.pc - pc).toNat = (p.length + (y.pc - (pc + (p.length + 1 : Nat))).toNat) + 1 := by omega
      rw [hi]
      simp only [List.set_cons_succ]
      rw [List.set_append_right _ _ (by omega)]
      unfold reads
      rw [if_neg (by simp), hany o _ rfl]
      simp only [List.length_cons, List.length_append, List.length_set]
      rw [hlen, Nat.add_sub_cancel_left, h4 x hx]
      have he : ({ x0 with op := (o.toNat : Int) } : Ins) = x0 := by rw [← hop]
      simp [he]

theorem lands_set {l : List Ins} {k : Nat} {y : Ins} (hk : l[k]? = some y) {x : Int} (he : ends x.toNat = ends y.op.toNat) : lands (l.set k { y with op := x }) = lands l := by
  have hkl : k < l.length := (List.getElem?_eq_some_iff.1 hk).1
  have hky : l[k] = y := (List.getElem?_eq_some_iff.1 hk).2
  have hany : ∀ t : Int, ((l.set k { y with op := x }).any fun z => z.pc == t) = l.any fun z => z.pc == t := by
    intro t
    rw [Bool.eq_iff_iff]
    simp only [List.any_eq_true, List.mem_iff_getElem?]
    constructor
    · rintro ⟨z, ⟨i, hi⟩, hz⟩
      rw [List.getElem?_set, if_pos hkl] at hi
      split at hi
      · simp only [Option.some.injEq] at hi
        subst hi
        exact ⟨y, ⟨k, hk⟩, hz⟩
      · exact ⟨z, ⟨i, hi⟩, hz⟩
    · rintro ⟨z, ⟨i, hi⟩, hz⟩
      by_cases e : k = i
      · subst e
        rw [hk] at hi
        simp only [Option.some.injEq] at hi
        subst hi
        exact ⟨{ y with op := x }, ⟨k, by simp [hkl]⟩, hz⟩
      · exact ⟨z, ⟨i, by rw [List.getElem?_set, if_neg e]; exact hi⟩, hz⟩
  have hall : ((l.set k { y with op := x }).all fun z => z.to.all fun t => (l.set k { y with op := x }).any fun u => u.pc == t) = l.all fun z => z.to.all fun t => l.any fun u => u.pc == t := by
    simp only [hany]
    rw [Bool.eq_iff_iff]
    simp only [List.all_eq_true (p := fun z : Ins => _), List.mem_iff_getElem?]
    constructor
    · rintro h z ⟨i, hi⟩
      by_cases e : k = i
      · subst e
        rw [hk] at hi
        simp only [Option.some.injEq] at hi
        subst hi
        exact h { y with op := x } ⟨k, by simp [hkl]⟩
      · exact h z ⟨i, by rw [List.getElem?_set, if_neg e]; exact hi⟩
    · rintro h z ⟨i, hi⟩
      rw [List.getElem?_set, if_pos hkl] at hi
      split at hi
      · simp only [Option.some.injEq] at hi
        subst hi
        exact h y ⟨k, hk⟩
      · exact h z ⟨i, hi⟩
  unfold lands
  rw [hall]
  have hlast : (match (l.set k { y with op := x }).getLast? with
     | some x => if ends x.op.toNat then (0 : Int) else 13
     | none => 13) = (match l.getLast? with
     | some x => if ends x.op.toNat then (0 : Int) else 13
     | none => 13) := by
    rw [List.getLast?_eq_getElem?, List.getLast?_eq_getElem?, List.getElem?_set, List.length_set, if_pos hkl]
    by_cases e : k = l.length - 1
    · rw [if_pos e, ← e, hk]
      simp [he]
    · rw [if_neg e]
  rw [hlast]

/-- AN OP THAT IS TURNED INTO ANOTHER ONE OF ITS FORM. -/
theorem decode_set {s : List UInt8} {l : List Ins} (h : decode s = .ok l) {k : Nat} {y : Ins} (hk : l[k]? = some y) {x : UInt8}
    (hf : form x.toNat = form y.op.toNat) (he : ends x.toNat = ends y.op.toNat) :
    0 ≤ y.pc ∧ y.pc.toNat < s.length ∧ decode (s.set y.pc.toNat x) = .ok (l.set k { y with op := x.toNat }) := by
  unfold decode at h
  split at h
  · cases h
  rename_i hne
  split at h
  · cases h
  rename_i hlen
  split at h
  · cases h
  rename_i l' hl'
  split at h
  · rename_i h0
    simp only [Except.ok.injEq] at h
    subst h
    obtain ⟨h1, h2, h3, h4⟩ := reads_set _ _ _ _ hl' (Nat.le_refl _) k y hk
    simp only [Int.sub_zero] at h2 h4
    refine ⟨h1, h2, ?_⟩
    unfold decode
    rw [if_neg (by rw [← List.length_eq_zero_iff, List.length_set, List.length_eq_zero_iff]; exact hne), List.length_set, if_neg hlen, h4 x hf]
    have hl := lands_set hk (x := (x.toNat : Int)) (by simpa using he)
    simp only [hl, h0, if_true]
  · cases h

theorem decode_ne {s : List UInt8} {l : List Ins} (h : decode s = .ok l) : l ≠ [] := by
  unfold decode at h
  split at h
  · cases h
  split at h
  · cases h
  split at h
  · cases h
  split at h
  · rename_i l' _ h0
    simp only [Except.ok.injEq] at h
    subst h
    rintro rfl
    simp [lands] at h0
  · cases h

end Ct
