/- refmap.Pack's loop over a map's bits: the bytes that it leaves. -/
import Derived.Test.YtnbjhfleoodncaaXBits
import Derived.Test.YtnbjhfleoodncaaXRound
import Derived.Deep.DeepMust
namespace Go.Proofs.Ytnbjhfleoodncaa.X
open Go.RowKit Go.Shelf Go.Proofs.YtnbjhfleoodncaaW.PrintWords Go.Proofs.YtnbjhfleoodncaaW.PrintLast Go.Proofs.YtnbjhfleoodncaaW.PrintMore
set_option linter.unusedVariables false
set_option linter.unusedSimpArgs false
attribute [local go_sem] Oper.semAt_some

def firstRF : Code → Option Code
  | .rangeFunc g ps a b => some (.rangeFunc g ps a b)
  | .loop c => firstRF c
  | .seq a b => match firstRF a with
    | some c => some c
    | none => firstRF b
  | .block _ c => firstRF c
  | .scope c => firstRF c
  | .cond _ a b => match firstRF a with
    | some c => some c
    | none => firstRF b
  | _ => none
noncomputable def rfCode : Code := ((Try.f8.body.bind firstRF).getD .skip)

/-- one mark among the deferred calls -/
def mark (D : Nat) : Deferred := { target := .collected D, args := #[] }

/-- a bit is laid into the bytes behind place s -/
def setBit (zs : List Bool) (s : Nat) (b : List Int) (p : Nat) : List Int := if bitAt zs p = true then b.set (s + p / 8) (bits .or .u8 (b.getD (s + p / 8) 0) (128 / 2 ^ (p % 8))) else b
def fill (zs : List Bool) (s : Nat) (b : List Int) (ps : List (Fin zs.length)) : List Int := ps.foldl (fun b p => setBit zs s b p.1) b
theorem setBit_length (zs : List Bool) (s : Nat) (b : List Int) (p : Nat) : (setBit zs s b p).length = b.length := by
  unfold setBit
  split <;> simp
theorem fill_length (zs : List Bool) (s : Nat) : ∀ (ps : List (Fin zs.length)) (b : List Int), (fill zs s b ps).length = b.length
  | [], _ => rfl
  | p :: ps, b => by
    have h := fill_length zs s ps (setBit zs s b p.1)
    rw [setBit_length] at h
    exact h
theorem fill_snoc (zs : List Bool) (s : Nat) (b : List Int) (ps : List (Fin zs.length)) (p : Fin zs.length) : fill zs s b (ps ++ [p]) = setBit zs s (fill zs s b ps) p.1 := by simp [fill]

/-- marks below n1 -/
def MarksU (n0 n1 : Nat) (ds : List Deferred) (w : World) : Prop := ∃ Ds : List Nat, ds = Ds.map mark ∧ Ds.Nodup ∧ ∀ D, D ∈ Ds → n0 ≤ D ∧ D < n1 ∧ w.heap[D]? = some (.deferred (some []))

/-- what holds between two rounds -/
def RI (w : World) (zs : List Bool) (B T s gb n4 c4 n1 : Nat) (acc : List Int) (ds : List Deferred) (pre : List (Fin zs.length)) (W : World) : Prop :=
  W.heap[B]? = some (.cells #[.slice (some ⟨gb, 0, none⟩) n4 c4] 32 (0, 0)) ∧ W.heap[T]? = some (.cells #[.int .i64 (s : Int)] 3 (0, 0)) ∧
  Kd.R (Kd.int .u8) 5 W w.heap.size (fun _ => True) (.slice (some ⟨gb, 0, none⟩) n4 c4) (fill zs s acc pre) ∧ Below w.heap.size w W ∧ MarksU w.heap.size n1 ds W

theorem at_byte {W : World} {base gb n c : Nat} {ok : Nat → Prop} {xs : List Int} (h : Kd.R (Kd.int .u8) 5 W base ok (.slice (some ⟨gb, 0, none⟩) n c) xs) (i : Nat) (hi : i < xs.length) : W.cell? ⟨gb, i, none⟩ = some (.int .u8 (xs.getD i 0)) := by
  obtain ⟨A, c', hv, _, hC⟩ := Kd.R_reads h
  injection hv with hA _ _
  subst hA
  obtain ⟨ad, cs, he, _, hK, hc0⟩ := Kd.C_get hC 0 (i : Int) (by omega) (by omega)
  injection he with he
  subst he
  have hK' : cs = [.int .u8 (xs.getD i 0)] := hK
  subst hK'
  have hc : ∀ j u, [Value.int .u8 (xs.getD i 0)][j]? = some u → W.cell? ((⟨gb, 0, none⟩ : Addr).add (i * 1 + j)) = some u := hc0
  have hq := hc 0 _ rfl
  rwa [Nat.mul_one, Nat.add_zero, add_plain] at hq
theorem byte_free {W : World} {base gb n c : Nat} {ok : Nat → Prop} {xs : List Int} (h : Kd.R (Kd.int .u8) 5 W base ok (.slice (some ⟨gb, 0, none⟩) n c) xs) (i : Nat) : W.frozen? ⟨gb, i, none⟩ = false := by
  obtain ⟨inner, ho⟩ := Kd.R_own h
  obtain ⟨cells, hc⟩ := own_typed ho gb rfl
  exact blk_frozen hc i
theorem set_byte {W : World} {base gb c : Nat} {ok : Nat → Prop} {xs : List Int} (h : Kd.R (Kd.int .u8) 5 W base ok (.slice (some ⟨gb, 0, none⟩) xs.length c) xs) (i : Nat) (v : Int) :
    Kd.R (Kd.int .u8) 5 (W.setCell ⟨gb, i, none⟩ (.int .u8 v)) base ok (.slice (some ⟨gb, 0, none⟩) xs.length c) (xs.set i v) := by
  have hp := own_put_of (Kd.own_of_R h) (i : Int) v
  rw [Int.toNat_natCast] at hp
  have hl : (xs.set i v).length = xs.length := List.length_set
  refine Kd.R_of_own hp (fun k hk => h.1 k hk)

theorem RI_own (w : World) (zs : List Bool) (B T s gb n4 c4 n1 : Nat) (acc : List Int) (ds : List Deferred) (hn : w.heap.size ≤ n1) : OwnFrom n1 (RI w zs B T s gb n4 c4 n1 acc ds) := by
  rintro pre W W' row ⟨hb, ha, hR, hB, Ds, rfl, hnd, hD⟩ hg hr
  have hcells : ∀ k c e f, W.heap[k]? = some (.cells c e f) → some k ≠ row := by
    intro k c e f hc he
    obtain ⟨_, o, ho, hco⟩ := hr k he.symm
    rw [hc] at ho
    cases ho
    simp [Obj.isCells] at hco
  refine ⟨blk_grown hb hg (hcells _ _ _ _ hb), blk_grown ha hg (hcells _ _ _ _ ha), ?_, ?_, Ds, rfl, hnd, fun D hd => ⟨(hD D hd).1, (hD D hd).2.1, blk_grown (hD D hd).2.2 hg (fun he => ?_)⟩⟩
  · exact Kd.R_mono (Kd.R_move (Kd.R_bound hR) (fun k hok => by
      obtain ⟨_, _, hlt, q, _, cells, hc⟩ := hok
      exact hg.block k hlt (hcells k _ _ _ hc))) (fun _ hok => hok.1)
  · exact hB.grown hg hB.size (fun k he => Nat.le_trans hn (hr k he).1)
  · have := (hr D he.symm).1
    have := (hD D hd).2.1
    omega

set_option maxRecDepth 100000 in
set_option maxHeartbeats 2000000 in
theorem range_bits (t0 t1 t2 t3 t5 t6 t8 t9 t10 t11 t12 t13 t14 t15 t16 t17 t18 t19 t20 t21 t22 t23 t24 t25 t26 t27 t28 t29 t30 t31 t32 t33 t34 t35 t36 t37 t38 t39 t40 t41 t42 t43 t44 t45 t46 t47 t48 t49 t50 t51 t52 t53 t54 t55 t56 t57 t58 t60 t61 t62 t63 t64 t65 t66 t67 t68 t69 t70 t71 t72 t73 t74 t75 t76 t77 : Value) (ds : List Deferred) (w W5 : World) (B T M s gb n4 c4 : Nat) (acc : List Int) (x y zs : List Bool) (hz : zs = x ++ y) (A0 A1 : Option Addr) (c0 c1 : Nat) (hxy : x.length + y.length ≤ 1000) (hM : M < W5.heap.size) (hgb : gb < W5.heap.size)
    (hB0 : W5.cell? ⟨M, 0, none⟩ = some (.slice A0 x.length c0)) (hB1 : W5.cell? ⟨M, 1, none⟩ = some (.slice A1 y.length c1)) (l0 : x.length ≤ c0) (l1 : y.length ≤ c1) (h0 : Kd.bool.C W5 A0 x.length x) (h1 : Kd.bool.C W5 A1 y.length y)
    (hI : RI w zs B T s gb n4 c4 W5.heap.size acc ds [] W5) (hs : s + (zs.length + 7) / 8 ≤ acc.length) (hn4 : n4 = acc.length) (hacc : acc.length ≤ 1000000) (hn : w.heap.size ≤ W5.heap.size) (Q : Exit → Act → World → Prop)
    (hdone : ∀ (D : Nat) (W : World), W5.heap.size ≤ D → RI w zs B T s gb n4 c4 W5.heap.size acc ds (uptoF zs.length zs.length) W → W.heap[D]? = some (.deferred (some [])) → Q .normal { tmps := #[t0, t1, t2, t3, .pointer (some ⟨B, 0, none⟩), t5, t6, .pointer (some ⟨T, 0, none⟩), t8, t9, t10, t11, t12, t13, t14, t15, t16, t17, t18, t19, t20, t21, t22, t23, t24, t25, t26, t27, t28, t29, t30, t31, t32, t33, t34, t35, t36, t37, t38, t39, t40, t41, t42, t43, t44, t45, t46, t47, t48, t49, t50, t51, t52, t53, t54, t55, t56, t57, t58, .func (.func 34) #[] #[.pointer (some ⟨M, 0, none⟩)], t60, t61, t62, t63, t64, t65, t66, t67, t68, t69, t70, t71, t72, t73, t74, t75, t76, t77], defers := mark D :: ds } W) :
    rfCode.wp Try.prog Q { tmps := #[t0, t1, t2, t3, .pointer (some ⟨B, 0, none⟩), t5, t6, .pointer (some ⟨T, 0, none⟩), t8, t9, t10, t11, t12, t13, t14, t15, t16, t17, t18, t19, t20, t21, t22, t23, t24, t25, t26, t27, t28, t29, t30, t31, t32, t33, t34, t35, t36, t37, t38, t39, t40, t41, t42, t43, t44, t45, t46, t47, t48, t49, t50, t51, t52, t53, t54, t55, t56, t57, t58, .func (.func 34) #[] #[.pointer (some ⟨M, 0, none⟩)], t60, t61, t62, t63, t64, t65, t66, t67, t68, t69, t70, t71, t72, t73, t74, t75, t76, t77], defers := ds } W5 := by
  have HZ := Aside0.mk hz
  have HN4 := Aside0.mk hn4
  have hn4le : acc.length ≤ n4 := by omega
  have hn4ge : n4 ≤ acc.length := by omega
  clear hz hn4
  unfold rfCode
  conv => arg 2; whnf
  refine (wpIn_wide (n := 6)).1 ?_
  refine wpIn_rangeFunc_ownG rfl (by omega) (gf := 34) (lb := #[.pointer (some ⟨M, 0, none⟩)]) rfl trivial (enters_of Try.func34 (by kernel_rfl) rfl)
    (bits_stops 5 (by omega) M gb x y zs HZ.out A0 A1 c0 c1 hxy W5 hM hgb hB0 hB1 l0 l1 h0 h1) CellsBut.trans (fun W l o o' _ hl ho _ => CellsBut.putObj W l o o' hl ho) (Below.refl _ _) (fun _ => rfl)
    (RI w zs B T s gb n4 c4 W5.heap.size acc ds) (fun _ _ _ => False) (RI_own _ _ _ _ _ _ _ _ _ _ _ hn) (fun _ _ _ _ _ hf _ _ => hf) hI
    (fun x => { tmps := #[t0, t1, t2, t3, .pointer (some ⟨B, 0, none⟩), t5, t6, .pointer (some ⟨T, 0, none⟩), .int .i64 ((x.1 : Nat) : Int), .bool (bitAt zs x.1), t10, t11, t12, t13, t14, t15, t16, t17, t18, t19, t20, t21, t22, t23, t24, t25, t26, t27, t28, t29, t30, t31, t32, t33, t34, t35, t36, t37, t38, t39, t40, t41, t42, t43, t44, t45, t46, t47, t48, t49, t50, t51, t52, t53, t54, t55, t56, t57, t58, .func (.func 34) #[] #[.pointer (some ⟨M, 0, none⟩)], .int .i64 ((x.1 : Nat) : Int), .bool (bitAt zs x.1), t62, t63, t64, t65, t66, t67, t68, t69, t70, t71, t72, t73, t74, t75, t76, t77], defers := [] }) ?assign ?body ?done ?stop
  case assign =>
    intro l x W K hK
    unfold encB
    gi_wp2
    exact hK
  case body =>
    rintro l pre p W ⟨hb, ha, hR, hB, hMk⟩ hlen
    have hpl := p.2
    have hidx : s + p.1 / 8 < n4 := by omega
    have hfl : (fill zs s acc pre).length = n4 := by rw [fill_length, HN4.out]
    have hcb : W.cell? ⟨B, 0, none⟩ = some (.slice (some ⟨gb, 0, none⟩) n4 c4) := blk_cell hb 0
    have hca : W.cell? ⟨T, 0, none⟩ = some (.int .i64 (s : Int)) := blk_cell ha 0
    have hsn := fill_snoc zs s acc pre p
    cases hbit : bitAt zs p.1 with
    | false =>
      have hbit' := Aside0.mk hbit
      clear hbit
      gi_wp2
      refine ⟨KeepsFrom.refl _ _, CellsBut.refl _ _, hb, ha, ?_, hB, hMk⟩
      rw [hsn, setBit, if_neg (by rw [hbit'.out]; decide)]
      exact hR
    | true =>
      have hbit' := Aside0.mk hbit
      clear hbit
      have HSN := Aside0.mk hsn
      have HFL := Aside0.mk hfl
      clear hsn hfl
      gi_wp2
      refine round_still_tail 12 (by kernel_rfl) (by kernel_rfl) (by rfl) ?_
      simp only [List.take_succ_cons, List.take_zero, List.drop_succ_cons, List.drop_zero]
      change wpStill _ _ W.drew _ _ _
      have hcb' : W.drew.cell? ⟨B, 0, none⟩ = some (.slice (some ⟨gb, 0, none⟩) n4 c4) := hcb
      have hca' : W.drew.cell? ⟨T, 0, none⟩ = some (.int .i64 (s : Int)) := hca
      clear hcb hca
      generalize hW1 : W.drew = W1 at hcb' hca' ⊢
      have hcy : W1.cell? ⟨gb, s + p.1 / 8, none⟩ = some (.int .u8 ((fill zs s acc pre).getD (s + p.1 / 8) 0)) := by
        rw [← hW1]
        exact at_byte hR _ (by rw [HFL.out]; exact hidx)
      have hfy : W1.frozen? ⟨gb, s + p.1 / 8, none⟩ = false := by
        rw [← hW1]
        exact byte_free hR _
      have HW1 := Aside0.mk hW1
      have e1 : IntKind.i64.wrap ((p.1 : Int) / 8) = (p.1 : Int) / 8 := IntWalk.i64_in _ (by omega)
      have e2 : IntKind.i64.wrap ((s : Int) + (p.1 : Int) / 8) = (s : Int) + (p.1 : Int) / 8 := IntWalk.i64_in _ (by omega)
      have e3 : ((s : Int) + (p.1 : Int) / 8).toNat = s + p.1 / 8 := by omega
      have e4 : (0 : Int) ≤ (s : Int) + (p.1 : Int) / 8 := by omega
      have e5 : (s : Int) + (p.1 : Int) / 8 < (n4 : Int) := by omega
      have e6 : (p.1 : Int).tmod 8 = (p.1 : Int) % 8 := Int.tmod_eq_emod_of_nonneg (by omega)
      have e7 : (0 : Int) ≤ (p.1 : Int) % 8 := by omega
      have e8 : (p.1 : Int) % 8 < 8 := by omega
      have e9 : ((p.1 : Int) % 8).toNat = p.1 % 8 := by omega
      have Hb := Aside0.mk hb
      have Ha := Aside0.mk ha
      have HR := Aside0.mk hR
      have HB := Aside0.mk hB
      have HMk := Aside0.mk hMk
      clear hW1 hb ha hR hB hMk hn4le hn4ge hs hacc
      repeat still_step
      refine wpStill_nil ?_
      change wpList _ _ _ _ _ W.drew
      rw [HW1.out]
      go_wp2
      show KeepsFrom _ _ _ ∧ CellsBut _ _ _ ∧ RI _ _ _ _ _ _ _ _ _ _ _ _ _
      have hW1 := HW1.out
      subst hW1
      have hbne : B ≠ gb := by
        have := Kd.R_ne HR.out Hb.out (by decide)
        rintro rfl
        exact this rfl
      have htne : T ≠ gb := by
        have := Kd.R_ne HR.out Ha.out (by decide)
        rintro rfl
        exact this rfl
      refine ⟨((KeepsOthers.drew W).trans (KeepsOthers.setCell _ _ _)).from _, ((CellsBut.refl gb W).drewN 1).setCell _ _, blk_far (p := ⟨gb, _, none⟩) Hb.out hbne _, blk_far (p := ⟨gb, _, none⟩) Ha.out htne _, ?_, ?_, ?_⟩
      · have hset := set_byte (W := W) (v := bits .or .u8 ((fill zs s acc pre).getD (s + p.1 / 8) 0) (128 / 2 ^ (p.1 % 8))) (by rw [HFL.out]; exact HR.out) (s + p.1 / 8)
        rw [HFL.out] at hset
        rw [HSN.out, setBit, if_pos hbit'.out]
        exact hset
      · exact (below_drew HB.out).setCell (p := ⟨gb, _, none⟩) (Kd.R_base HR.out gb rfl) _
      · obtain ⟨Ds, rfl, hnd, hD⟩ := HMk.out
        refine ⟨Ds, rfl, hnd, fun D hd => ⟨(hD D hd).1, (hD D hd).2.1, ?_⟩⟩
        refine ((Below.heap_setCell _ _ _ _ ?_).trans (hD D hd).2.2)
        intro heq
        have heq' : D = gb := heq
        obtain ⟨inner, ho⟩ := Kd.R_own HR.out
        obtain ⟨cells, hc⟩ := own_typed ho gb rfl
        have h3 := (hD D hd).2.2
        rw [heq', hc] at h3
        cases h3
  case done =>
    rintro D ys W hD rfl hIW hK
    exact hdone D W hD hIW hK
  case stop =>
    rintro D c pre W _ _ h _
    exact h.elim

end Go.Proofs.Ytnbjhfleoodncaa.X
