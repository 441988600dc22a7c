/- RefmapMakes' plain law: both packages' maps are the same bits. Conditions: the lists fit in memory. -/
import Derived.Test.YtnbjhfleoodncaaXMakesWalk
import Derived.Test.YtnbjhfleoodncaaXJoins
namespace Go.Proofs.Ytnbjhfleoodncaa.X
open Go.RowKit Go.Shelf Go.Proofs.YtnbjhfleoodncaaW.PrintWords Go.Proofs.YtnbjhfleoodncaaW.PrintLast Go.Proofs.YtnbjhfleoodncaaW.PrintMore

def bitOf (x : S64) : Bool := decide (2 ≤ x.f0) && decide (x.f0 ≤ 5)
theorem rd64 (l : List S64) (j : Nat) (h : j < l.length) : rd_T64 l (j : Int) = l[j] := by simp [rd_T64, h]
theorem wrap64_nat (n : Nat) (h : n ≤ 1000000000000000000) : wrap64 (n : Int) = n := by unfold wrap64; omega
theorem wrap64_succ (n : Nat) (h : n ≤ 100000000000000000) : wrap64 ((n : Int) + 1) = ((n + 1 : Nat) : Int) := by rw [← wrap64_nat (n + 1) (by omega)]; simp
theorem take_bit (l : List S64) (j : Nat) (h : j < l.length) : (l.take (j + 1)).map bitOf = (l.take j).map bitOf ++ [bitOf l[j]] := by
  rw [List.take_add_one, List.getElem?_eq_getElem h, List.map_append]
  rfl
theorem set_bit (l : List S64) (j d : Nat) (h : j < l.length) (hb : bitOf l[j] = true) : ((l.take j).map bitOf ++ List.replicate (d + 1) false).set j true = (l.take (j + 1)).map bitOf ++ List.replicate d false := by
  have hlen : ((l.take j).map bitOf).length = j := by simp; omega
  rw [take_bit l j h, hb, List.set_append_right _ _ (by omega), hlen, Nat.sub_self, List.replicate_succ, List.set_cons_zero, List.append_assoc]
  rfl
theorem keep_bit (l : List S64) (j d : Nat) (h : j < l.length) (hb : bitOf l[j] = false) : (l.take j).map bitOf ++ List.replicate (d + 1) false = (l.take (j + 1)).map bitOf ++ List.replicate d false := by
  rw [take_bit l j h, hb, List.replicate_succ, List.append_assoc]
  rfl

theorem refs_run (l : List S64) (hl : l.length ≤ 140737488355328) : ∀ (d j k : Nat), j + d = l.length → d < k → refmap_refs.l0 k ((l.take j).map bitOf ++ List.replicate d false) l (l.length : Int) (j : Int) = some (l.map bitOf)
  | 0, j, 0, _, hk => absurd hk (Nat.not_lt_zero _)
  | d + 1, j, 0, _, hk => absurd hk (Nat.not_lt_zero _)
  | 0, j, k + 1, hd, _ => by
    unfold refmap_refs.l0
    rw [if_neg (by omega), show j = l.length by omega, List.take_length]
    simp
  | d + 1, j, k + 1, hd, hk => by
    have hj : j < l.length := by omega
    have ih := refs_run l hl d (j + 1) k (by omega) (by omega)
    have hlen : ((l.take j).map bitOf ++ List.replicate (d + 1) false).length = l.length := by simp; omega
    unfold refmap_refs.l0
    rw [if_pos (by omega), if_pos (by omega), if_pos (by omega), rd64 l j hj, hlen, Int.toNat_natCast, wrap64_succ j (by omega)]
    by_cases h2 : l[j].f0 = 2
    · rw [if_pos h2, if_pos (by omega), set_bit l j d hj (by simp [bitOf, h2])]
      exact ih
    · rw [if_neg h2]
      by_cases h3 : l[j].f0 = 3
      · rw [if_pos h3, if_pos (by omega), set_bit l j d hj (by simp [bitOf, h3])]
        exact ih
      · rw [if_neg h3]
        by_cases h4 : l[j].f0 = 4
        · rw [if_pos h4, if_pos (by omega), set_bit l j d hj (by simp [bitOf, h4])]
          exact ih
        · rw [if_neg h4]
          by_cases h5 : l[j].f0 = 5
          · rw [if_pos h5, if_pos (by omega), set_bit l j d hj (by simp [bitOf, h5])]
            exact ih
          · rw [if_neg h5, keep_bit l j d hj (by simp [bitOf]; omega)]
            exact ih
theorem refs_ok (l : List S64) (hl : l.length ≤ 140737488355328) (k : Nat) (hk : l.length < k) : refmap_refs.f k l = some (l.map bitOf) := by
  have h := refs_run l hl l.length 0 k (by omega) hk
  unfold refmap_refs.f
  rw [if_pos (by omega), if_pos (by omega), Int.toNat_natCast]
  simpa using h

theorem refs2_run (l : List S64) (hl : l.length < 140737488355328) : ∀ (d j k : Nat), j + d = l.length → d < k → crucibleref12_refs.l0 k l ((l.take j).map bitOf) (j : Int) = some (l.map bitOf)
  | 0, j, 0, _, hk => absurd hk (Nat.not_lt_zero _)
  | d + 1, j, 0, _, hk => absurd hk (Nat.not_lt_zero _)
  | 0, j, k + 1, hd, _ => by
    unfold crucibleref12_refs.l0
    rw [if_neg (by omega), show j = l.length by omega, List.take_length]
  | d + 1, j, k + 1, hd, hk => by
    have hj : j < l.length := by omega
    have ih := refs2_run l hl d (j + 1) k (by omega) (by omega)
    have hlen : ((l.take j).map bitOf).length < 140737488355328 := by simp; omega
    unfold crucibleref12_refs.l0
    rw [if_pos (by omega), if_pos (by omega), rd64 l j hj, wrap64_succ j (by omega)]
    rw [take_bit l j hj] at ih
    by_cases h2 : l[j].f0 ≥ 2
    · rw [if_pos h2, if_pos hlen]
      have hb : decide (l[j].f0 ≤ 5) = bitOf l[j] := by simp [bitOf, h2]
      rw [hb]
      exact ih
    · rw [if_neg h2, if_pos hlen]
      have hb : false = bitOf l[j] := by simp [bitOf]; omega
      rw [hb]
      exact ih
theorem refs2_ok (l : List S64) (hl : l.length < 140737488355328) (k : Nat) (hk : l.length < k) : crucibleref12_refs.f k l = some (l.map bitOf) := by
  have h := refs2_run l hl l.length 0 k (by omega) hk
  unfold crucibleref12_refs.f
  exact h

/-! ### sameBits, same -/
theorem sameBits_run (l : List Bool) (hl : l.length ≤ 140737488355328) : ∀ (d j k : Nat), j + d = l.length → d < k → cruciblelaw12_sameBits.l0 k l l (j : Int) = some true
  | 0, j, 0, _, hk => absurd hk (Nat.not_lt_zero _)
  | d + 1, j, 0, _, hk => absurd hk (Nat.not_lt_zero _)
  | 0, j, k + 1, hd, _ => by
    unfold cruciblelaw12_sameBits.l0
    rw [if_neg (by omega)]
  | d + 1, j, k + 1, hd, hk => by
    have ih := sameBits_run l hl d (j + 1) k (by omega) (by omega)
    unfold cruciblelaw12_sameBits.l0
    rw [if_pos (by omega), if_pos (by omega), if_pos (by omega), if_neg (by simp), wrap64_succ j (by omega)]
    exact ih
theorem sameBits_ok (l : List Bool) (hl : l.length ≤ 140737488355328) (k : Nat) (hk : l.length < k) : cruciblelaw12_sameBits.f k l l = some true := by
  unfold cruciblelaw12_sameBits.f
  rw [if_pos rfl]
  exact sameBits_run l hl l.length 0 k (by omega) hk

def mk38 (p : List Bool × List Bool) : S38 := ⟨p.1, p.2⟩
def mk43 (p : List Bool × List Bool) : S43 := ⟨p.1, p.2⟩
theorem same_run (ps : List (List Bool × List Bool)) (B : Nat) (hB : B ≤ 140737488355328) (hl : ps.length ≤ 140737488355328) (hp : ∀ p ∈ ps, p.1.length ≤ B ∧ p.2.length ≤ B) : ∀ (d j k : Nat), j + d = ps.length → B + d + 1 < k → cruciblelaw12_same.l0 k (ps.map mk38) (ps.map mk43) (j : Int) = some true
  | d, j, 0, _, hk => absurd hk (Nat.not_lt_zero _)
  | 0, j, k + 1, hd, _ => by
    unfold cruciblelaw12_same.l0
    rw [if_neg (by rw [List.length_map]; omega)]
  | d + 1, j, k + 1, hd, hk => by
    have hj : j < ps.length := by omega
    have ih := same_run ps B hB hl hp d (j + 1) k (by omega) (by omega)
    obtain ⟨h1, h2⟩ := hp ps[j] (List.getElem_mem hj)
    have e1 : rd_T38 (ps.map mk38) (j : Int) = mk38 ps[j] := by simp [rd_T38, hj]
    have e2 : rd_T43 (ps.map mk43) (j : Int) = mk43 ps[j] := by simp [rd_T43, hj]
    unfold cruciblelaw12_same.l0
    rw [if_pos (by rw [List.length_map]; omega), if_pos (by omega), if_pos (by rw [List.length_map]; omega), e1, e2]
    have g1 := sameBits_ok ps[j].1 (by omega) k (by omega)
    have g2 := sameBits_ok ps[j].2 (by omega) k (by omega)
    unfold mk38 mk43
    dsimp only
    rw [g1, Option.bind_some, g2, Option.bind_some, if_pos rfl, if_pos rfl, wrap64_succ j (by omega)]
    exact ih
theorem same_ok (ps : List (List Bool × List Bool)) (B : Nat) (hB : B ≤ 140737488355328) (hl : ps.length ≤ 140737488355328) (hp : ∀ p ∈ ps, p.1.length ≤ B ∧ p.2.length ≤ B) (k : Nat) (hk : B + ps.length + 1 < k) : cruciblelaw12_same.f k (ps.map mk38) (ps.map mk43) = some true := by
  unfold cruciblelaw12_same.f
  rw [if_pos (by rw [List.length_map, List.length_map])]
  exact same_run ps B hB hl hp ps.length 0 k (by omega) hk

def pairOf (x : S42) : List Bool × List Bool := (x.f0.map bitOf, x.f1.map bitOf)
theorem of1 (x : S42) (B : Nat) (hB : B < 140737488355328) (h0 : x.f0.length ≤ B) (h1 : x.f1.length ≤ B) (k : Nat) (hk : B < k) : refmap_Of.f k x.f0 x.f1 = some (pairOf x) := by
  unfold refmap_Of.f
  rw [refs_ok x.f0 (by omega) k (by omega), Option.bind_some, refs_ok x.f1 (by omega) k (by omega), Option.bind_some]
  rfl
theorem of2 (x : S42) (B : Nat) (hB : B < 140737488355328) (h0 : x.f0.length ≤ B) (h1 : x.f1.length ≤ B) (k : Nat) (hk : B < k) : crucibleref12_Of.f k x.f0 x.f1 = some (pairOf x) := by
  unfold crucibleref12_Of.f
  rw [refs2_ok x.f0 (by omega) k (by omega), Option.bind_some, refs2_ok x.f1 (by omega) k (by omega), Option.bind_some]
  rfl
theorem of_ok (x : S42) (B : Nat) (hB : B < 140737488355328) (h0 : x.f0.length ≤ B) (h1 : x.f1.length ≤ B) (k : Nat) (hk : B + 2 < k) : OfOk k x := by
  refine ⟨(pairOf x).1, (pairOf x).2, of1 x B hB h0 h1 k (by omega), of2 x B hB h0 h1 k (by omega), ?_⟩
  exact same_ok [pairOf x] B (by omega) (by simp) (by simp [pairOf]; omega) k (by simp; omega)

/-! ### Make -/
def elt (l0 : List S42) (l1 : List Bool) (j : Nat) : List Bool × List Bool := if rdOf false l1 (j : Int) = true then pairOf (rd_T42 l0 (j : Int)) else ([], [])
def psTo (l0 : List S42) (l1 : List Bool) (j : Nat) : List (List Bool × List Bool) := (List.range j).map (elt l0 l1)
theorem psTo_length (l0 : List S42) (l1 : List Bool) (j : Nat) : (psTo l0 l1 j).length = j := by simp [psTo]
theorem psTo_succ (l0 : List S42) (l1 : List Bool) (j : Nat) : psTo l0 l1 (j + 1) = psTo l0 l1 j ++ [elt l0 l1 j] := by simp [psTo, List.range_succ]
theorem set_elt (l0 : List S42) (l1 : List Bool) (j d : Nat) : ((psTo l0 l1 j).map mk38 ++ List.replicate (d + 1) z38).set j (mk38 (elt l0 l1 j)) = (psTo l0 l1 (j + 1)).map mk38 ++ List.replicate d z38 := by
  have hlen : ((psTo l0 l1 j).map mk38).length = j := by rw [List.length_map, psTo_length]
  rw [psTo_succ, List.set_append_right _ _ (by omega), hlen, Nat.sub_self, List.replicate_succ, List.set_cons_zero, List.map_append, List.append_assoc]
  rfl
theorem keep_elt (l0 : List S42) (l1 : List Bool) (j d : Nat) (h : elt l0 l1 j = ([], [])) : (psTo l0 l1 j).map mk38 ++ List.replicate (d + 1) z38 = (psTo l0 l1 (j + 1)).map mk38 ++ List.replicate d z38 := by
  rw [psTo_succ, h, List.replicate_succ, List.map_append, List.append_assoc]
  rfl
theorem rd_bound (l0 : List S42) (B : Nat) (hb : ∀ x ∈ l0, x.f0.length ≤ B ∧ x.f1.length ≤ B) (i : Int) : (rd_T42 l0 i).f0.length ≤ B ∧ (rd_T42 l0 i).f1.length ≤ B := by
  unfold rd_T42
  by_cases h : i.toNat < l0.length
  · have : l0.getD i.toNat z42 = l0[i.toNat] := by simp [h]
    rw [this]
    exact hb _ (List.getElem_mem h)
  · have : l0.getD i.toNat z42 = z42 := by simp [List.getD_eq_getElem?_getD, List.getElem?_eq_none (Nat.le_of_not_lt h)]
    rw [this]
    exact ⟨Nat.zero_le _, Nat.zero_le _⟩

theorem make_run (l0 : List S42) (l1 : List Bool) (l2 : List S57) (B : Nat) (hB : B < 140737488355328) (hb : ∀ x ∈ l0, x.f0.length ≤ B ∧ x.f1.length ≤ B) (hn : l0.length ≤ 2932031007402) (h1 : l1.length = l0.length) :
    ∀ (d j k : Nat), j + d = l0.length → B + d + 1 < k → refmap_Make.l0 k ((psTo l0 l1 j).map mk38 ++ List.replicate d z38) l0 (l0.length : Int) (j : Int) l2 l0 l1 = some ((psTo l0 l1 l0.length).map mk38)
  | d, j, 0, _, hk => absurd hk (Nat.not_lt_zero _)
  | 0, j, k + 1, hd, _ => by
    unfold refmap_Make.l0
    rw [if_neg (by omega), show j = l0.length by omega]
    simp
  | d + 1, j, k + 1, hd, hk => by
    have hj : j < l0.length := by omega
    have ih := make_run l0 l1 l2 B hB hb hn h1 d (j + 1) k (by omega) (by omega)
    have hlen : ((psTo l0 l1 j).map mk38 ++ List.replicate (d + 1) z38).length = l0.length := by rw [List.length_append, List.length_map, psTo_length, List.length_replicate]; omega
    obtain ⟨g0, g1⟩ := rd_bound l0 B hb (j : Int)
    unfold refmap_Make.l0
    rw [if_pos (by omega), if_pos (by omega), if_pos (by omega), if_pos (by omega)]
    by_cases hr : rdOf false l1 (j : Int) = true
    · rw [if_pos hr, of1 (rd_T42 l0 (j : Int)) B hB g0 g1 k (by omega), Option.bind_some, hlen, if_pos (by omega), Int.toNat_natCast, wrap64_succ j (by omega)]
      have he : elt l0 l1 j = pairOf (rd_T42 l0 (j : Int)) := by unfold elt; rw [if_pos hr]
      have hs := set_elt l0 l1 j d
      rw [he] at hs
      rw [show (⟨(pairOf (rd_T42 l0 (j : Int))).1, (pairOf (rd_T42 l0 (j : Int))).2⟩ : S38) = mk38 (pairOf (rd_T42 l0 (j : Int))) from rfl, hs]
      exact ih
    · rw [if_neg hr, wrap64_succ j (by omega)]
      have he : elt l0 l1 j = ([], []) := by unfold elt; rw [if_neg hr]
      rw [keep_elt l0 l1 j d he]
      exact ih
theorem make2_run (l0 : List S42) (l1 : List Bool) (l2 : List S57) (B : Nat) (hB : B < 140737488355328) (hb : ∀ x ∈ l0, x.f0.length ≤ B ∧ x.f1.length ≤ B) (hn : l0.length ≤ 2932031007402) (h1 : l1.length = l0.length) (h2 : l2.length = l0.length) :
    ∀ (d j k : Nat), j + d = l0.length → B + d + 1 < k → crucibleref12_Make.l0 k ((psTo l0 l1 j).map mk43) (j : Int) l2 l0 l1 = some ((psTo l0 l1 l0.length).map mk43)
  | d, j, 0, _, hk => absurd hk (Nat.not_lt_zero _)
  | 0, j, k + 1, hd, _ => by
    unfold crucibleref12_Make.l0
    rw [if_neg (by omega), show j = l0.length by omega]
  | d + 1, j, k + 1, hd, hk => by
    have hj : j < l0.length := by omega
    have ih := make2_run l0 l1 l2 B hB hb hn h1 h2 d (j + 1) k (by omega) (by omega)
    have hlen : ((psTo l0 l1 j).map mk43).length < 2932031007402 := by rw [List.length_map, psTo_length]; omega
    obtain ⟨g0, g1⟩ := rd_bound l0 B hb (j : Int)
    have hcat : (psTo l0 l1 (j + 1)).map mk43 = (psTo l0 l1 j).map mk43 ++ [mk43 (elt l0 l1 j)] := by rw [psTo_succ, List.map_append]; rfl
    rw [hcat] at ih
    unfold crucibleref12_Make.l0
    rw [if_pos (by omega), if_pos (by omega), if_pos (by omega)]
    by_cases hr : rdOf false l1 (j : Int) = true
    · rw [if_pos hr, if_pos (by omega), of2 (rd_T42 l0 (j : Int)) B hB g0 g1 k (by omega), Option.bind_some, if_pos hlen, wrap64_succ j (by omega)]
      have he : elt l0 l1 j = pairOf (rd_T42 l0 (j : Int)) := by unfold elt; rw [if_pos hr]
      rw [he] at ih
      exact ih
    · rw [if_neg hr, if_pos hlen, wrap64_succ j (by omega)]
      have he : elt l0 l1 j = ([], []) := by unfold elt; rw [if_neg hr]
      rw [he] at ih
      exact ih
theorem elt_bound (l0 : List S42) (l1 : List Bool) (B : Nat) (hb : ∀ x ∈ l0, x.f0.length ≤ B ∧ x.f1.length ≤ B) (j : Nat) : (elt l0 l1 j).1.length ≤ B ∧ (elt l0 l1 j).2.length ≤ B := by
  unfold elt
  split
  · obtain ⟨g0, g1⟩ := rd_bound l0 B hb (j : Int)
    simp [pairOf, g0, g1]
  · exact ⟨Nat.zero_le _, Nat.zero_le _⟩
theorem make_ok (l0 : List S42) (l1 : List Bool) (l2 : List S57) (B : Nat) (hB : B < 140737488355328) (hb : ∀ x ∈ l0, x.f0.length ≤ B ∧ x.f1.length ≤ B) (hn : l0.length ≤ 2932031007402) (k : Nat) (hk : B + l0.length + 3 < k) : MakeOk k l0 l1 l2 := by
  obtain ⟨k, rfl⟩ : ∃ k', k = k' + 1 := ⟨k - 1, by omega⟩
  by_cases h2 : l2.length = l0.length
  · by_cases h1 : l1.length = l0.length
    · refine ⟨(psTo l0 l1 l0.length).map mk38, (psTo l0 l1 l0.length).map mk43, ?_, ?_, ?_⟩
      · unfold refmap_Make.f
        have hne : ((l2.length : Int) != (l1.length : Int)) = false := by simp; omega
        rw [if_pos (by omega), hne]
        unfold refmap_Make.j0
        dsimp only
        rw [if_neg (by decide), if_pos (by omega), if_pos (by omega), Int.toNat_natCast, h2]
        have h := make_run l0 l1 l2 B hB hb hn h1 l0.length 0 k (by omega) (by omega)
        exact h
      · unfold crucibleref12_Make.f
        have hne : ((l2.length : Int) != (l1.length : Int)) = false := by simp; omega
        rw [if_pos (by omega), hne]
        unfold crucibleref12_Make.j0
        dsimp only
        rw [if_neg (by decide)]
        exact make2_run l0 l1 l2 B hB hb hn h1 h2 l0.length 0 k (by omega) (by omega)
      · refine same_ok (psTo l0 l1 l0.length) B (by omega) (by rw [psTo_length]; omega) (fun p hp => ?_) (k + 1) (by rw [psTo_length]; omega)
        unfold psTo at hp
        obtain ⟨j, _, rfl⟩ := List.mem_map.1 hp
        exact elt_bound l0 l1 B hb j
    · refine ⟨[], [], ?_, ?_, same_ok [] B (by omega) (by simp) (fun p hp => by cases hp) (k + 1) (by simp; omega)⟩
      · unfold refmap_Make.f
        have hne : ((l2.length : Int) != (l1.length : Int)) = true := by simp; omega
        rw [if_pos (by omega), hne]
        unfold refmap_Make.j0
        dsimp only
        rw [if_pos rfl]
      · unfold crucibleref12_Make.f
        have hne : ((l2.length : Int) != (l1.length : Int)) = true := by simp; omega
        rw [if_pos (by omega), hne]
        unfold crucibleref12_Make.j0
        dsimp only
        rw [if_pos rfl]
  · refine ⟨[], [], ?_, ?_, same_ok [] B (by omega) (by simp) (fun p hp => by cases hp) (k + 1) (by simp; omega)⟩
    · unfold refmap_Make.f
      rw [if_neg (by omega)]
      unfold refmap_Make.j0
      dsimp only
      rw [if_pos rfl]
    · unfold crucibleref12_Make.f
      rw [if_neg (by omega)]
      unfold crucibleref12_Make.j0
      dsimp only
      rw [if_pos rfl]
end Go.Proofs.Ytnbjhfleoodncaa.X
