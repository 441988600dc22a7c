/- code.Decode: what it answers, as the plain model decodes it; the instructions are new memory. Conditions: none but a text's greatest length. -/
import Derived.Test.YtnbjhfleoodncaaXLands
namespace Go.Proofs.Ytnbjhfleoodncaa.X
open Go.RowKit Go.Shelf Go.Proofs.YtnbjhfleoodncaaW.PrintWords Go.Proofs.YtnbjhfleoodncaaW.PrintLast Go.Proofs.YtnbjhfleoodncaaW.PrintMore
set_option linter.unusedVariables false
set_option linter.unusedSimpArgs false

def insS (x : Ct.Ins) : S57 := ⟨x.pc, x.op, x.n, x.keys, x.to⟩
theorem isStart_link (l : List Ct.Ins) (t : Int) : isStart (l.map insS) t = l.any fun y => y.pc == t := by
  unfold isStart
  rw [List.any_map]
  rfl
theorem ends_link (op : Nat) : code_Ends.f (op : Int) = some true ↔ Ct.ends op = true := by
  unfold code_Ends.f Ct.ends
  simp only [Bool.or_eq_true, beq_iff_eq]
  constructor
  · intro h
    by_cases h1 : op = 20
    · omega
    by_cases h2 : op = 30
    · omega
    by_cases h3 : op = 44
    · omega
    by_cases h4 : op = 45
    · omega
    by_cases h5 : op = 46
    · omega
    rw [if_neg (by omega), if_neg (by omega), if_neg (by omega), if_neg (by omega), if_neg (by omega)] at h
    cases h
  · intro h
    repeat' (split; rfl)
    omega
/-- what Decode answers -/
def DecPost (w w' : World) (e : Ending) : Except Int (List Ct.Ins) → Prop
  | .error er => e = .returned (.tuple #[.slice none 0 0, .int .i64 er]) ∧ Below w.heap.size w w'
  | .ok l => ∃ v, e = .returned (.tuple #[v, .int .i64 0]) ∧ Kd.R k57 57 w' w.heap.size (fun _ => True) v (l.map insS) ∧ Below w.heap.size w w'
def pre (xs : List Ct.Ins) : Except Int (List Ct.Ins) → Except Int (List Ct.Ins)
  | .ok l => .ok (xs ++ l)
  | .error e => .error e
theorem pre_pre (xs : List Ct.Ins) (x : Ct.Ins) (r : Except Int (List Ct.Ins)) : pre xs (pre [x] r) = pre (xs ++ [x]) r := by
  cases r <;> simp [pre]
theorem reads_step (f : Nat) (s : List UInt8) (pc : Int) (hs : s ≠ []) : Ct.reads (f + 1) s pc = match Ct.read s pc with
    | .error e => .error e
    | .ok (x, r) => pre [x] (Ct.reads f r (pc + ((s.length : Int) - r.length))) := by
  conv => lhs; unfold Ct.reads
  rw [if_neg hs]
  cases Ct.read s pc with
  | error e => rfl
  | ok p =>
    obtain ⟨x, r⟩ := p
    dsimp only
    cases Ct.reads f r (pc + ((s.length : Int) - r.length)) <;> rfl
theorem read_shorter {s r : List UInt8} {pc : Int} {x : Ct.Ins} (h : Ct.read s pc = .ok (x, r)) : r.length < s.length ∧ x.op = x.op.toNat := by
  obtain ⟨o, p, rfl, h2, _⟩ := Ct.read_app h
  refine ⟨by simp only [List.length_cons, List.length_append]; omega, ?_⟩
  rw [h2]
  simp

theorem two_range (a b : UInt8) : 0 ≤ Ct.two a b ∧ Ct.two a b ≤ 65535 := by
  unfold Ct.two
  have := a.toNat_lt
  have := b.toNat_lt
  omega
theorem pairs_length (pc : Int) : ∀ (m : Nat) (s : List UInt8) (ks ts : List Int) (r : List UInt8), Ct.pairs pc m s = some (ks, ts, r) → ts.length = m
  | 0, s, ks, ts, r, h => by
    simp only [Ct.pairs, Option.some.injEq, Prod.mk.injEq] at h
    rw [← h.2.1]
    rfl
  | m + 1, s, ks, ts, r, h => by
    match s, h with
    | a :: b :: c :: d :: s, h =>
      simp only [Ct.pairs] at h
      split at h
      · rename_i ks' ts' r' hp
        simp only [Option.some.injEq, Prod.mk.injEq] at h
        obtain ⟨rfl, rfl, rfl⟩ := h
        rw [List.length_cons, pairs_length pc m _ _ _ _ hp]
      · cases h
theorem read_to {s r : List UInt8} {pc : Int} {x : Ct.Ins} (h : Ct.read s pc = .ok (x, r)) : x.to.length ≤ 65536 := by
  unfold Ct.read at h
  repeat' split at h
  all_goals first | (cases h; done) | skip
  all_goals
    simp only [Except.ok.injEq, Prod.mk.injEq] at h
    obtain ⟨rfl, rfl⟩ := h
    first | (simp; done) | skip
  rename_i a b c d _ _ _ _ _ hp
  have := pairs_length _ _ _ _ _ _ hp
  have := two_range c d
  simp only [List.length_cons]
  omega
theorem lands_link (l : List Ct.Ins) (hop : ∀ x ∈ l, x.op = x.op.toNat) : landsOf (l.map insS) = Ct.lands l := by
  unfold landsOf Ct.lands
  have h1 : ((l.map insS).any fun x => x.f4.any fun t => !isStart (l.map insS) t) = !(l.all fun x => x.to.all fun t => l.any fun y => y.pc == t) := by
    rw [List.any_map, List.all_eq_not_any_not, Bool.not_not]
    congr 1
    funext x
    show (x.to.any fun t => !isStart (l.map insS) t) = !(x.to.all fun t => l.any fun y => y.pc == t)
    rw [List.all_eq_not_any_not, Bool.not_not]
    congr 1
    funext t
    rw [isStart_link]
  rw [h1]
  cases hall : (l.all fun x => x.to.all fun t => l.any fun y => y.pc == t) with
  | false => rfl
  | true =>
    simp only [Bool.not_true, Bool.false_eq_true, if_false, if_true]
    rw [List.getLastD_eq_getLast?, List.getLast?_map]
    cases hl : l.getLast? with
    | none => rfl
    | some x =>
      have hx := hop x (List.mem_of_getLast? hl)
      show (if code_Ends.f x.op = some true then 0 else 13) = if Ct.ends x.op.toNat = true then 0 else 13
      rw [hx]
      by_cases he : Ct.ends x.op.toNat = true
      · rw [if_pos ((ends_link _).2 he), Int.toNat_natCast, if_pos he]
      · rw [if_neg (fun h => he ((ends_link _).1 h)), Int.toNat_natCast, if_neg he]

theorem decode_of (s : ByteArray) (hs : 0 < s.size) (hmax : s.size ≤ 4096) : Ct.decode s.data.toList = match Ct.reads s.size s.data.toList 0 with
    | .error e => .error e
    | .ok l => if Ct.lands l = 0 then .ok l else .error (Ct.lands l) := by
  have hz := size_of s
  unfold Ct.decode
  rw [if_neg (by intro h; rw [h, List.length_nil] at hz; omega), if_neg (by omega), ← hz]
  cases Ct.reads s.size s.data.toList 0 <;> rfl
theorem read_err {s : List UInt8} {pc er : Int} (h : Ct.read s pc = .error er) : (er == 0) = false ∧ (er != 0) = true := by
  have h1 : er = 5 ∨ er = 11 := by
    unfold Ct.read at h
    repeat' split at h
    all_goals first | (cases h; done) | skip
    all_goals
      simp only [Except.error.injEq] at h
      omega
  rcases h1 with rfl | rfl <;> exact ⟨rfl, rfl⟩
def DecRel (w : World) (s : ByteArray) (kq : Nat) (r : ByteArray) (v : Value) (W : World) : Prop :=
  ∃ xs : List Ct.Ins, Kd.R k57 57 W w.heap.size (fun _ => True) v (xs.map insS) ∧ Below w.heap.size w W ∧ xs.length + r.size ≤ s.size ∧
    Ct.reads s.size s.data.toList 0 = pre xs (Ct.reads (s.size - xs.length) r.data.toList ((s.size : Int) - r.size)) ∧ (∀ x ∈ xs, x.op = x.op.toNat ∧ x.to.length ≤ 1000000) ∧ r.size < kq
theorem size57 : (Try.prog.info? 57).map (fun i => (i.zero, i.size, i.bytes)) = some (some (.agg #[.int .i64 0, .int .i64 0, .int .i64 0, .slice none 0 0, .slice none 0 0]), k57.sz, 72) := by kernel_rfl
set_option maxRecDepth 100000 in
set_option maxHeartbeats 4000000 in
theorem decode_loop (s : ByteArray) (w : World) (hs : 0 < s.size) (hmax : s.size ≤ 4096) :
    Calls Try.prog 15 #[.string s] w fun e w' => DecPost w w' e (Ct.decode s.data.toList) := by
  obtain ⟨q1, q2⟩ := toList_ne s hs
  have q3 : s.toList.isEmpty = false := by
    cases hl : s.toList with
    | nil => rw [hl] at q1; simp at q1
    | cons a l => rfl
  have hd : decide ((4096 : Int) < (s.size : Int)) = false := decide_eq_false (by omega)
  have HS := Aside0.mk hs
  clear hs
  go_enter Try.func15, Try.ntmps15
  go_wp2
  clear q1 q2 q3 hd
  go_loopg [4, 5] (s.size + 1) (fun kq v4 v5 w' => ∃ (r : ByteArray) (Al : Option Addr) (nl cl : Nat), v4 = .slice Al nl cl ∧ v5 = .string r ∧ Aside0 (DecRel w s kq r (.slice Al nl cl) w'))
  case atStart => exact ⟨s, none, 0, 0, rfl, rfl, ⟨[], Kd.R_nil _ _ _ _ _, Below.refl _ _, by simp, by rw [List.length_nil, Nat.sub_zero, Int.sub_self]; cases Ct.reads s.size s.data.toList 0 <;> rfl, by simp, by omega⟩⟩
  case round =>
    obtain ⟨r, Al, nl, cl, rfl, rfl, HREL⟩ := hrel
    obtain ⟨xs, hR, hB, hlen, hreads, hxs, hkq⟩ := HREL.out
    clear HREL
    by_cases hr : 0 < r.size
    · obtain ⟨q1, q2⟩ := toList_ne r hr
      have q3 : r.toList.isEmpty = false := by
        cases hl : r.toList with
        | nil => rw [hl] at q1; simp at q1
        | cons a l => rfl
      have hsub : IntKind.i64.wrap ((s.size : Int) - (r.size : Int)) = (s.size : Int) - (r.size : Int) := IntWalk.i64_in _ (by omega)
      have HR := Aside0.mk hR
      have HB := Aside0.mk hB
      have HLEN := Aside0.mk hlen
      have HREADS := Aside0.mk hreads
      have HXS := Aside0.mk hxs
      have HKQ := Aside0.mk hkq
      have HRS := Aside0.mk hr
      clear hR hB hlen hreads hxs hkq hr
      go_wp2_with (go_at_call 29; fail)
      refine (read_calls r ((s.size : Int) - (r.size : Int)) _ HRS.out (by have := HLEN.out; omega) (by have := HLEN.out; omega) (by omega)).mono ?_
      intro e w1 hres
      have hne : r.data.toList ≠ [] := by
        intro h
        have h1 := size_of r
        rw [h, List.length_nil] at h1
        have := HRS.out
        omega
      obtain ⟨f, hf⟩ : ∃ f, s.size - xs.length = f + 1 := ⟨s.size - xs.length - 1, by have := HLEN.out; have := HRS.out; omega⟩
      have hst := reads_step f r.data.toList ((s.size : Int) - r.size) hne
      have hreads := HREADS.out
      rw [hf, hst] at hreads
      cases hrd : Ct.read r.data.toList ((s.size : Int) - r.size) with
      | error er =>
        rw [hrd] at hres hreads
        have hdec : Ct.decode s.data.toList = .error er := by rw [decode_of s HS.out hmax, hreads]; rfl
        have HDEC := Aside0.mk hdec
        obtain ⟨a, b, c, A3, A4, n3, c3, n4, c4, rr, rfl, hbb⟩ := hres
        have her : (er == 0) = false ∧ (er != 0) = true := read_err hrd
        obtain ⟨her1, her2⟩ := her
        have HFB := Aside0.mk (below_alloc (below_step HB.out hbb) (.cells #[.int .i64 a, .int .i64 b, .int .i64 c, .slice A3 n3 c3, .slice A4 n4 c4] 57))
        clear hst hrd hdec hne hf hreads hbb
        go_wp2
        go_ret2
        rw [HDEC.out]
        exact ⟨rfl, HFB.out⟩
      | ok p =>
        obtain ⟨x, r1⟩ := p
        rw [hrd] at hres hreads
        obtain ⟨hsh, hop⟩ := read_shorter hrd
        have hto := read_to hrd
        obtain ⟨vk, vt, rfl, hk, ht, hbb⟩ := hres
        have hr1 : (bytes r1).size = r1.length := by rw [size_of]; rfl
        have hr1l : (bytes r1).data.toList = r1 := rfl
        have hrl : r.data.toList.length = r.size := (size_of r).symm
        rw [hrl] at hsh hreads
        obtain ⟨Ak, ck, rfl⟩ := Kd.R_slice hk
        obtain ⟨At, ct, rfl⟩ := Kd.R_slice ht
        have hlt := Kd.R_lt HR.out
        have hBs := HB.out.size
        -- the instruction, as an element
        have HMK : ∀ W1 : World, Below w1.heap.size w1 W1 → k57.M W1 w.heap.size (fun k => wr.heap.size ≤ k) (insS x) [.int .i64 x.pc, .int .i64 x.op, .int .i64 x.n, .slice Ak x.keys.length ck, .slice At x.to.length ct] := fun W1 hW =>
          k57_mkM _ _ _ (insS x) (Kd.R_below (Kd.R_lower (Kd.R_mono (Kd.R_bound hk) (fun k h => h.2.1)) hBs) hW) (Kd.R_below (Kd.R_lower (Kd.R_mono (Kd.R_bound ht) (fun k h => h.2.1)) hBs) hW)
        have hB1 := below_step HB.out hbb
        have HB2 := Aside0.mk (below_alloc hB1 (.cells #[.int .i64 x.pc, .int .i64 x.op, .int .i64 x.n, .slice Ak x.keys.length ck, .slice At x.to.length ct] 57))
        have HM2 := Aside0.mk (HMK _ (below_alloc (Below.refl _ _) (.cells #[.int .i64 x.pc, .int .i64 x.op, .int .i64 x.n, .slice Ak x.keys.length ck, .slice At x.to.length ct] 57)))
        have HR2 := Aside0.mk (Kd.R_alloc (Kd.R_below HR.out hbb) (.cells #[.int .i64 x.pc, .int .i64 x.op, .int .i64 x.n, .slice Ak x.keys.length ck, .slice At x.to.length ct] 57))
        have HLT := Aside0.mk hlt
        have HPOST : Aside0 ((xs ++ [x]).length + (bytes r1).size ≤ s.size ∧ Ct.reads s.size s.data.toList 0 = pre (xs ++ [x]) (Ct.reads (s.size - (xs ++ [x]).length) (bytes r1).data.toList ((s.size : Int) - (bytes r1).size)) ∧ (∀ y ∈ xs ++ [x], y.op = y.op.toNat ∧ y.to.length ≤ 1000000) ∧ (bytes r1).size < r.size) := by
          refine ⟨?_, ?_, ?_, ?_⟩
          · rw [List.length_append, List.length_singleton, hr1]
            have := HLEN.out
            omega
          · rw [hreads, pre_pre, List.length_append, List.length_singleton, hr1]
            have e1 : s.size - (xs.length + 1) = f := by omega
            have e2 : (s.size : Int) - (r.size : Int) + ((r.size : Int) - (r1.length : Int)) = (s.size : Int) - (r1.length : Int) := by omega
            rw [e1, e2]
            rfl
          · intro y hy
            rcases List.mem_append.1 hy with hy | hy
            · exact HXS.out y hy
            · rw [List.mem_singleton.1 hy]
              exact ⟨hop, by omega⟩
          · rw [hr1]
            omega
        have hlx : xs.length ≤ 4096 := by have := HLEN.out; omega
        clear hst hrd hne hf hreads hbb hsh hop hto hr1 hr1l hrl hlt hB1 hk ht HMK HR HB HLEN HREADS HXS
        have hszz : w.heap.size ≤ w1.heap.size + 1 := by have := HB2.out.size; rw [World.size_alloc] at this; exact this
        go_wp2_with (at_builtin; refine Kd.R_append k57 (w0 := w) w.heap.size rfl (.tmp 34) (.tmp 36) 36 57 _ 72 rfl Try.underlying36 size57 rfl (by decide) (by omega) (.slice Al nl cl) (xs.map insS) (insS x) [.int .i64 x.pc, .int .i64 x.op, .int .i64 x.n, .slice Ak x.keys.length ck, .slice At x.to.length ct] (fun _ => True) (fun k => wr.heap.size ≤ k) rfl (by rw [World.size_alloc]; rfl) HM2.out (fun k hk => ⟨trivial, fun he => by have := HLT.out k he.symm; omega⟩) (fun _ _ => trivial) HR2.out HB2.out HB2.out.size (by rw [List.length_map]; omega) ?_; intro v1 W3 h1 hb1 hg1 hat1)
        obtain ⟨A1, c1, rfl⟩ := Kd.R_slice h1
        have HF := Aside0.mk (show DecRel w s (gk - 1) (bytes r1) (.slice A1 (xs.map insS ++ [insS x]).length c1) W3 from ⟨xs ++ [x], by rw [List.map_append]; exact h1, hb1, HPOST.out.1, HPOST.out.2.1, HPOST.out.2.2.1, by have := HPOST.out.2.2.2; have := HKQ.out; omega⟩)
        clear h1 hb1 hg1 hat1 HM2 HR2 HB2
        go_wp2
        go_roundg (gk - 1)
        case measure => have := HKQ.out; omega
        case rel => exact ⟨bytes r1, A1, _, c1, rfl, rfl, HF⟩
    · have hr0 : r.size = 0 := by omega
      obtain ⟨q1, q2⟩ := toList_nil r hr0
      have hrl : r.data.toList = [] := List.eq_nil_of_length_eq_zero (by rw [← size_of]; exact hr0)
      obtain ⟨A, c, hv, hAc, hC⟩ := Kd.R_reads hR
      injection hv with hv1 hv2 hv3
      subst hv1
      subst hv2
      subst hv3
      have hrd : Ct.reads s.size s.data.toList 0 = .ok xs := by
        rw [hreads, hrl]
        cases s.size - xs.length <;> simp [Ct.reads, pre]
      have hxne : 0 < xs.length := by
        rcases Nat.eq_zero_or_pos xs.length with h0 | h0
        · obtain rfl := List.eq_nil_of_length_eq_zero h0
          obtain ⟨f, hf⟩ : ∃ f, s.size = f + 1 := ⟨s.size - 1, by have := HS.out; omega⟩
          rw [hf, reads_step f s.data.toList 0 (by intro h; have h1 := size_of s; rw [h, List.length_nil] at h1; omega)] at hrd
          cases hx : Ct.read s.data.toList 0 with
          | error e => rw [hx] at hrd; cases hrd
          | ok p =>
            rw [hx] at hrd
            obtain ⟨x, r1⟩ := p
            dsimp only at hrd
            cases hy : Ct.reads f r1 (0 + ((s.data.toList.length : Int) - r1.length)) with
            | error e => rw [hy] at hrd; cases hrd
            | ok l => rw [hy] at hrd; cases hrd
        · exact h0
      have hdec := decode_of s HS.out hmax
      rw [hrd] at hdec
      dsimp only at hdec
      have hll := lands_link xs (fun x hx => (hxs x hx).1)
      have hto : ∀ y ∈ xs.map insS, y.f4.length ≤ 1000000 := by
        intro y hy
        obtain ⟨x, hx, rfl⟩ := List.mem_map.1 hy
        exact (hxs x hx).2
      have hlx : (xs.map insS).length ≤ 4096 := by rw [List.length_map]; omega
      have hlp : 0 < (xs.map insS).length := by rw [List.length_map]; exact hxne
      have HDEC := Aside0.mk hdec
      have HR := Aside0.mk hR
      have HB := Aside0.mk hB
      have HC := Aside0.mk hC
      have HLL := Aside0.mk hll
      clear hdec hR hB hC hll hrd hreads hxs hrl hr hr0 hlen hkq hAc
      generalize hxl : xs.map insS = l at *
      have HXL := Aside0.mk hxl
      clear hxl
      go_wp2_with (go_at_call 30; fail)
      refine (lands_calls l Al cl _ HC.out hlx hlp hto).mono ?_
      rintro e w1 ⟨rfl, hbb⟩
      have HB1 := Aside0.mk (below_step HB.out hbb)
      have HR1 := Aside0.mk (Kd.R_below HR.out hbb)
      have hll := HLL.out
      generalize landsOf l = er at hll ⊢
      clear hbb
      by_cases her : er = 0
      · subst her
        clear HLL
        have HL2 := Aside0.mk hll
        clear hll
        go_wp2
        go_ret2
        rw [HDEC.out, if_pos HL2.out.symm]
        refine ⟨_, rfl, ?_, HB1.out⟩
        rw [HXL.out]
        exact HR1.out
      · have e1 : (er == 0) = false := beq_eq_false_iff_ne.2 her
        have e2 : (er != 0) = true := bne_iff_ne.2 her
        have HER := Aside0.mk her
        clear her HLL
        have HL2 := Aside0.mk hll
        clear hll
        go_wp2
        go_ret2
        rw [HDEC.out, if_neg (by rw [← HL2.out]; exact HER.out)]
        exact ⟨by rw [← HL2.out]; rfl, HB1.out⟩
set_option maxRecDepth 100000 in
set_option maxHeartbeats 4000000 in
theorem decode_calls (s : ByteArray) (w : World) (hm : s.size ≤ 9223372036854775807) :
    Calls Try.prog 15 #[.string s] w fun e w' => DecPost w w' e (Ct.decode s.data.toList) := by
  rcases Nat.eq_zero_or_pos s.size with h0 | h0
  · obtain ⟨q1, q2⟩ := toList_nil s h0
    have hl : s.data.toList = [] := List.eq_nil_of_length_eq_zero (by rw [← size_of]; exact h0)
    have HL := Aside0.mk hl
    clear hl h0
    go_enter Try.func15, Try.ntmps15
    go_wp2
    go_ret2
    rw [HL.out]
    exact ⟨rfl, Below.refl _ _⟩
  · rcases Nat.lt_or_ge 4096 s.size with h1 | h1
    · obtain ⟨q1, q2⟩ := toList_ne s h0
      have q3 : s.toList.isEmpty = false := by
        cases hl : s.toList with
        | nil => rw [hl] at q1; simp at q1
        | cons a l => rfl
      have hd : decide ((4096 : Int) < (s.size : Int)) = true := decide_eq_true (by omega)
      have hdec : Ct.decode s.data.toList = .error 2 := by
        have hz := size_of s
        unfold Ct.decode
        rw [if_neg (by intro h; rw [h, List.length_nil] at hz; omega), if_pos (by omega)]
      have HDEC := Aside0.mk hdec
      clear hdec h0 h1
      go_enter Try.func15, Try.ntmps15
      go_wp2
      go_ret2
      rw [HDEC.out]
      exact ⟨rfl, Below.refl _ _⟩
    · exact decode_loop s w h0 h1
theorem dec_ok {s : ByteArray} {l : List Ct.Ins} (h : Ct.decode s.data.toList = .ok l) (w : World) (hm : s.size ≤ 9223372036854775807) :
    Calls Try.prog 15 #[.string s] w fun e w' => ∃ A c, e = .returned (.tuple #[.slice A l.length c, .int .i64 0]) ∧ Kd.R k57 57 w' w.heap.size (fun _ => True) (.slice A l.length c) (l.map insS) ∧ Below w.heap.size w w' := by
  refine (decode_calls s w hm).mono fun e w' hp => ?_
  rw [h] at hp
  obtain ⟨v, rfl, hR, hB⟩ := hp
  obtain ⟨A, c, rfl⟩ := Kd.R_slice hR
  rw [List.length_map] at hR ⊢
  exact ⟨A, c, rfl, hR, hB⟩
theorem dec_err {s : ByteArray} {er : Int} (h : Ct.decode s.data.toList = .error er) (w : World) (hm : s.size ≤ 9223372036854775807) :
    Calls Try.prog 15 #[.string s] w fun e w' => e = .returned (.tuple #[.slice none 0 0, .int .i64 er]) ∧ Below w.heap.size w w' := by
  refine (decode_calls s w hm).mono fun e w' hp => ?_
  rw [h] at hp
  exact hp
end Go.Proofs.Ytnbjhfleoodncaa.X
