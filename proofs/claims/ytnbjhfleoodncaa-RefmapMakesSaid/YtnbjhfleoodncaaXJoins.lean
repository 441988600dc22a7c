/- RefmapJoins' plain law: what is packed is a head and, map by map, its bytes. Conditions: none. -/
import Derived.Test.YtnbjhfleoodncaaXPack
import Derived.Test.YtnbjhfleoodncaaXx2
namespace Go.Proofs.Ytnbjhfleoodncaa.X
open Go.RowKit Go.Shelf Go.Proofs.YtnbjhfleoodncaaW.PrintWords Go.Proofs.YtnbjhfleoodncaaW.PrintLast Go.Proofs.YtnbjhfleoodncaaW.PrintMore

theorem setBit_append (zs : List Bool) (s : Nat) (p q : List Int) (i : Nat) : setBit zs (p.length + s) (p ++ q) i = p ++ setBit zs s q i := by
  unfold setBit
  split
  · have h1 : (p ++ q).set (p.length + s + i / 8) (bits .or .u8 ((p ++ q).getD (p.length + s + i / 8) 0) (128 / 2 ^ (i % 8))) = p ++ q.set (s + i / 8) (bits .or .u8 ((p ++ q).getD (p.length + s + i / 8) 0) (128 / 2 ^ (i % 8))) := by
      rw [List.set_append_right _ _ (by omega)]
      congr 2
      omega
    rw [h1]
    congr 3
    simp only [List.getD_eq_getElem?_getD]
    rw [List.getElem?_append_right (by omega)]
    congr 3
    omega
  · rfl
theorem fill_append (zs : List Bool) (s : Nat) (p : List Int) : ∀ (ps : List (Fin zs.length)) (q : List Int), fill zs (p.length + s) (p ++ q) ps = p ++ fill zs s q ps
  | [], q => rfl
  | i :: ps, q => by
    have h := fill_append zs s p ps (setBit zs s q i.1)
    unfold fill at h ⊢
    simp only [List.foldl_cons]
    rw [setBit_append]
    exact h
theorem packOne_append (acc : List Int) (m : S38) : packOne acc m = acc ++ packOne [] m := by
  unfold packOne
  have h := fill_append (m.f0 ++ m.f1) 2 acc (uptoF (m.f0 ++ m.f1).length (m.f0 ++ m.f1).length) ([(m.f0.length : Int), (m.f1.length : Int)] ++ List.replicate ((m.f0.length + m.f1.length + 7) / 8) 0)
  rw [← List.append_assoc] at h
  rw [h]
  simp
def encs (l : List S38) : List Int := l.flatMap (packOne [])
def hd2 (n : Nat) : List Int := [(n : Int) / 256, (n : Int) % 256]
theorem packTo_eq (l : List S38) : ∀ k, k ≤ l.length → packTo l k = hd2 l.length ++ encs (l.take k)
  | 0, _ => by simp [packTo, encs, hd2]
  | k + 1, h => by
    have he : l.getD k z38 = l[k] := by simp [show k < l.length by omega]
    unfold packTo
    rw [packOne_append, packTo_eq l k (by omega), he, List.append_assoc]
    congr 1
    have : l.take (k + 1) = l.take k ++ [l[k]] := by rw [List.take_add_one, List.getElem?_eq_getElem (by omega)]; rfl
    unfold encs
    rw [this, List.flatMap_append]
    simp
theorem packTo_all (l : List S38) : packTo l l.length = hd2 l.length ++ encs l := by
  rw [packTo_eq l l.length (Nat.le_refl _), List.take_length]
theorem str_def (xs : List Int) : strOfNums xs = ⟨(xs.map fun n => UInt8.ofNat n.toNat).toArray⟩ := rfl
theorem str_append (xs ys : List Int) : strOfNums (xs ++ ys) = strOfNums xs ++ strOfNums ys := by
  rw [str_def, str_def, str_def]
  apply ByteArray.ext
  rw [ByteArray.data_append]
  simp
theorem str_drop2 (a b : Int) (ys : List Int) : (strOfNums (a :: b :: ys)).extract 2 (strOfNums (a :: b :: ys)).size = strOfNums ys := by
  have h : strOfNums (a :: b :: ys) = strOfNums [a, b] ++ strOfNums ys := str_append [a, b] ys
  rw [h]
  have hs : (strOfNums [a, b]).size = 2 := rfl
  apply ByteArray.ext
  simp [ByteArray.data_extract, ByteArray.data_append, str_def, ByteArray.size]
  exact List.take_of_length_le (by simp)
theorem wrap64_small (n : Nat) (h : n ≤ 1000000) : wrap64 (n : Int) = n := by unfold wrap64; omega
/-- two lists packed one behind the other -/
theorem join_eq (a b : List S38) (h : a.length + b.length ≤ 4096) : strOfNums (packTo (a ++ b) (a ++ b).length) =
    strOfNums [(wrap64 (Int.tdiv (wrap64 ((a.length : Int) + (b.length : Int))) 256)) % 256, (Int.tmod (wrap64 ((a.length : Int) + (b.length : Int))) 256) % 256] ++ (strOfNums (packTo a a.length)).extract 2 (strOfNums (packTo a a.length)).size ++ (strOfNums (packTo b b.length)).extract 2 (strOfNums (packTo b b.length)).size := by
  have h1 : wrap64 ((a.length : Int) + (b.length : Int)) = ((a.length + b.length : Nat) : Int) := by
    rw [← wrap64_small (a.length + b.length) (by omega)]
    simp
  rw [h1]
  have h2 : Int.tdiv ((a.length + b.length : Nat) : Int) 256 = (((a.length + b.length) / 256 : Nat) : Int) := by rw [Int.tdiv_eq_ediv_of_nonneg (by omega)]; omega
  have h3 : Int.tmod ((a.length + b.length : Nat) : Int) 256 = (((a.length + b.length) % 256 : Nat) : Int) := by rw [Int.tmod_eq_emod_of_nonneg (by omega)]; omega
  rw [h2, h3, wrap64_small _ (by omega), packTo_all, packTo_all, packTo_all]
  unfold hd2
  rw [List.length_append]
  simp only [List.cons_append, List.nil_append]
  rw [str_drop2, str_drop2, ← str_append, ← str_append]
  congr 1
  unfold encs
  rw [List.flatMap_append]
  simp only [List.cons_append, List.nil_append]
  congr 1
  · omega
  · congr 1
    omega

/-! ### maps always answers -/
def I64 (n : Int) : Prop := -9223372036854775808 ≤ n ∧ n ≤ 9223372036854775807
theorem pick_in (c : Int) (n : Nat) (hc : I64 c) (hn : n ≤ 9223372036854775807) : ∃ t, cruciblelaw12_pick.f c (wrap64 ((n : Int) + 1)) = some t ∧ 0 ≤ t ∧ t ≤ n := by
  obtain ⟨hc1, hc2⟩ := hc
  have key : ∀ d : Int, 0 ≤ d → d ≤ 9223372036854775807 → wrap64 ((n : Int) + 1) ≠ 0 ∧ 0 ≤ Int.tmod d (wrap64 ((n : Int) + 1)) ∧ Int.tmod d (wrap64 ((n : Int) + 1)) ≤ n := by
    intro d h0 h1
    by_cases hn1 : n = 9223372036854775807
    · subst hn1
      have hw : wrap64 (((9223372036854775807 : Nat) : Int) + 1) = -9223372036854775808 := by unfold wrap64; omega
      rw [hw]
      have ht : Int.tmod d (-9223372036854775808) = d := by
        rw [Int.tmod_neg, Int.tmod_eq_emod_of_nonneg h0]
        omega
      rw [ht]
      omega
    · have hw : wrap64 ((n : Int) + 1) = (n : Int) + 1 := by unfold wrap64; omega
      rw [hw, Int.tmod_eq_emod_of_nonneg h0]
      have := Int.emod_nonneg d (show (n : Int) + 1 ≠ 0 by omega)
      have := Int.emod_lt_of_pos d (show (0 : Int) < (n : Int) + 1 by omega)
      omega
  unfold cruciblelaw12_pick.f
  by_cases hneg : c < 0
  · have hw : wrap64 (-(wrap64 (c + 1))) = -(c + 1) := by unfold wrap64; omega
    obtain ⟨h1, h2, h3⟩ := key (-(c + 1)) (by omega) (by omega)
    rw [if_pos hneg, if_neg h1, hw]
    exact ⟨_, rfl, h2, h3⟩
  · obtain ⟨h1, h2, h3⟩ := key c (by omega) (by omega)
    rw [if_neg hneg, if_neg h1]
    exact ⟨_, rfl, h2, h3⟩

theorem maps_l0 (l0 : List (List Bool)) (l1 : List Int) (hr : ∀ x ∈ l0, x.length ≤ 9223372036854775807) (hi : ∀ x ∈ l1, I64 x) :
    ∀ (d j : Nat) (x6 : List S38) (x7 : List S43), j + d = 5000 → j ≤ l0.length → x6.length = j → x7.length = j → ∃ a b, cruciblelaw12_maps.l0 (2 * d + 2) l0 l1 x6 x7 (j : Int) = some (a, b) ∧ a.length ≤ 5000
  | 0, j, x6, x7, hd, hj, h6, h7 => by
    refine ⟨x6, x7, ?_, by omega⟩
    have hf : decide ((j : Int) < 5000) = false := decide_eq_false (by omega)
    unfold cruciblelaw12_maps.l0
    simp only [hf]
    split <;> (unfold cruciblelaw12_maps.j1; simp)
  | d + 1, j, x6, x7, hd, hj, h6, h7 => by
    have ht : decide ((j : Int) < 5000) = true := decide_eq_true (by omega)
    unfold cruciblelaw12_maps.l0
    by_cases hlt : (j : Int) < (l0.length : Int)
    · rw [if_pos hlt, ht]
      have h2 : 2 * (d + 1) + 1 = (2 * d + 2) + 1 := by omega
      rw [h2]
      unfold cruciblelaw12_maps.j1
      rw [if_pos rfl, if_pos (by omega), if_pos hlt]
      have hmem : rd_L1 l0 (j : Int) ∈ l0 := by
        unfold rd_L1
        have : j < l0.length := by omega
        simp [this]
      have hw : wrap64 ((j : Int) + 1) = ((j + 1 : Nat) : Int) := by rw [← wrap64_small (j + 1) (by omega)]; simp
      have hrow := hr _ hmem
      by_cases hl : (j : Int) < (l1.length : Int)
      · rw [if_pos hl]
        have hmem2 : rd l1 (j : Int) ∈ l1 := by
          unfold rd
          have : j < l1.length := by omega
          simp [this]
        obtain ⟨t, he, h0, h1⟩ := pick_in (rd l1 (j : Int)) (rd_L1 l0 (j : Int)).length (hi _ hmem2) hrow
        rw [he, Option.bind_some, if_pos h0, if_pos h1, if_pos (by omega), if_pos (by omega), hw]
        exact maps_l0 l0 l1 hr hi d (j + 1) _ _ (by omega) (by omega) (by simp [h6]) (by simp [h7])
      · rw [if_neg hl, if_pos (by omega), if_pos (by omega), if_pos (by omega), hw]
        exact maps_l0 l0 l1 hr hi d (j + 1) _ _ (by omega) (by omega) (by simp [h6]) (by simp [h7])
    · rw [if_neg hlt]
      refine ⟨x6, x7, ?_, by omega⟩
      unfold cruciblelaw12_maps.j1
      simp
theorem maps_ok (l0 : List (List Bool)) (l1 : List Int) (hr : ∀ x ∈ l0, x.length ≤ 9223372036854775807) (hi : ∀ x ∈ l1, I64 x) : ∃ a b, cruciblelaw12_maps.f 10002 l0 l1 = some (a, b) ∧ a.length ≤ 5000 :=
  maps_l0 l0 l1 hr hi 5000 0 [] [] rfl (Nat.zero_le _) rfl rfl
end Go.Proofs.Ytnbjhfleoodncaa.X
