/- refmap.Pack: the bytes that it writes. Conditions: none. -/
import Derived.Test.YtnbjhfleoodncaaXRange
import Derived.Test.YtnbjhfleoodncaaXx1
import Derived.StillTailTactics
import Derived.Deep.DeepMust
import Derived.Deep.CutBlock
namespace Go.Proofs.Ytnbjhfleoodncaa.X
open Go.RowKit Go.Shelf Go.Proofs.YtnbjhfleoodncaaW.PrintWords Go.Proofs.YtnbjhfleoodncaaW.PrintLast Go.Proofs.YtnbjhfleoodncaaW.PrintMore
set_option linter.unusedVariables false
set_option linter.unusedSimpArgs false
attribute [local go_sem] max2_int min2_int max_two min_two max_three min_three max_four min_four

theorem calls_of_wp_marks {P : Program} {f : FuncId} {fn : Func} {c : Code} {args : Array Value} {w : World} {R : Ending → World → Prop} (n : Nat)
    (hf : P.funcs[f]? = some fn) (hb : fn.body = some c)
    (h : c.wp P (bodyPostM Fence.wide n P fn R) { tmps := args ++ Array.replicate (fn.ntmps - args.size) undef, defers := [] } w) : Calls P f args w R :=
  callsIn_wide.1 (callsIn_of_wp_marks hf hb trivial (wpIn_wide.2 h))

/-- what lies in the deferred calls: marks, each at a block of its own that holds no call -/
def Marks (n0 : Nat) (ds : List Deferred) (w : World) : Prop := ∃ Ds : List Nat, ds = Ds.map mark ∧ Ds.Nodup ∧ ∀ D, D ∈ Ds → n0 ≤ D ∧ w.heap[D]? = some (.deferred (some []))

theorem leaves_marks {P : Program} {fn : Func} {n n0 : Nat} {R : Ending → World → Prop} {tmps : Array Value} : ∀ (Ds : List Nat) (w : World), Ds.Nodup → (∀ D, D ∈ Ds → n0 ≤ D ∧ w.heap[D]? = some (.deferred (some []))) →
    (∀ w', Below n0 w w' → ∃ v, (results fn tmps).run P w' = .ok v w' ∧ R (.returned v) w') → LeavesInM Fence.wide n P fn tmps R (Ds.map mark) .returning w
  | [], w, _, _, h => h w (Below.refl _ _)
  | D :: Ds, w, hn, hD, h => by
    obtain ⟨h1, h2⟩ := hD D List.mem_cons_self
    obtain ⟨hnD, hn'⟩ := List.nodup_cons.1 hn
    have hb : Below n0 w (w.putObj D (.deferred none)) := (Below.refl _ _).grown (grownBy_putObj' w D _) (by have := (Array.getElem?_eq_some_iff.1 h2).1; omega) (fun k e => by cases e; exact h1)
    refine ⟨by simp, .inl ⟨D, _, rfl, run_takeDeferred h2, ?_⟩⟩
    refine leaves_marks Ds _ hn' (fun E hE => ⟨(hD E (List.mem_cons_of_mem _ hE)).1, ?_⟩) (fun w' hw => h w' (hb.trans hw))
    have hne : E ≠ D := fun e => hnD (e ▸ hE)
    rw [World.putObj_heap_other hne]
    exact (hD E (List.mem_cons_of_mem _ hE)).2

theorem leave2 {P : Program} {fn : Func} {n n0 : Nat} {R : Ending → World → Prop} {tmps : Array Value} {ds : List Deferred} {w : World} {t u : Tmp} (hr : fn.results = #[.tmp t, .tmp u]) (hM : Marks n0 ds w)
    (hR : ∀ w', Below n0 w w' → R (.returned (.tuple #[tmps.getD t undef, tmps.getD u undef])) w') : bodyPostM Fence.wide n P fn R .ret ⟨tmps, ds⟩ w := by
  obtain ⟨Ds, rfl, hn, hD⟩ := hM
  exact leaves_marks Ds w hn hD fun w' hw => ⟨_, results_tmp2 hr _ _ _, hR w' hw⟩

theorem Marks.below {n0 : Nat} {ds : List Deferred} {w w' : World} (h : Marks n0 ds w) (hb : Below w.heap.size w w') : Marks n0 ds w' := by
  obtain ⟨Ds, rfl, hn, hD⟩ := h
  exact ⟨Ds, rfl, hn, fun D hd => ⟨(hD D hd).1, (hb.block D (Array.getElem?_eq_some_iff.1 (hD D hd).2).1).trans (hD D hd).2⟩⟩

theorem Marks.grown {α : Type} {d : Kd α} {e base : Nat} {ok : Nat → Prop} {v : Value} {xs : List α} {n0 : Nat} {ds : List Deferred} {w w' : World} (h : Marks n0 ds w) (hg : w.grownBy w' v.ownBlock) (hR : d.R e w base ok v xs) : Marks n0 ds w' := by
  obtain ⟨Ds, rfl, hn, hD⟩ := h
  refine ⟨Ds, rfl, hn, fun D hd => ⟨(hD D hd).1, blk_grown (hD D hd).2 hg (fun he => ?_)⟩⟩
  obtain ⟨inner, ho⟩ := Kd.R_own hR
  obtain ⟨cells, hc⟩ := own_typed ho D he.symm
  rw [(hD D hd).2] at hc
  cases hc
theorem Marks.alloc {n0 : Nat} {ds : List Deferred} {w : World} (h : Marks n0 ds w) (o : Obj) : Marks n0 ds (w.alloc o) := h.below ((Below.refl _ _).alloc (Nat.le_refl _) o)

theorem lit2 (W : World) (a b : Int) : ReadsRow (fun (x : Int) cs => cs = [.int .u8 x]) (Kd.int .u8).sz (W.alloc (.cells #[.int .u8 a, .int .u8 b] 5)) (some ⟨W.heap.size, 0, none⟩) 2 [a, b] := by
  refine ⟨rfl, by omega, fun _ => ⟨_, rfl, fun j p hj => ?_⟩⟩
  have hc : ∀ j, (W.alloc (.cells #[.int .u8 a, .int .u8 b] 5)).cell? ((⟨W.heap.size, 0, none⟩ : Addr).add j) = (#[.int .u8 a, .int .u8 b] : Array Value)[j]? := by
    intro j
    rw [add_plain]
    exact blk_cell (blk_new W _) j
  refine ⟨[.int .u8 p], rfl, rfl, fun i u hi => ?_⟩
  have hi0 : i = 0 := by
    have := (List.getElem?_eq_some_iff.1 hi).1
    simp at this
    omega
  subst hi0
  have hjl : j < 2 := (List.getElem?_eq_some_iff.1 hj).1
  have hs : (Kd.int .u8).sz = 1 := rfl
  rw [hs, Nat.mul_one, Nat.add_zero, hc]
  simp only [List.getElem?_cons_zero, Option.some.injEq] at hi
  subst hi
  match j, hj, hjl with
  | 0, hj, _ => simpa using hj
  | 1, hj, _ => simpa using hj

theorem step9 {wr w1 : World} {v : Value} {acc : List Int} {d vm : Array Value} {ds : List Deferred} {n0 base B : Nat} (HRv : Kd.R (Kd.int .u8) 5 wr base (fun _ => True) v acc) (Hb : wr.heap[B]? = some (.cells #[v] 32 (0, 0)))
    (HM : Marks n0 ds wr) (hg : ((wr.alloc (.cells vm 38)).alloc (.cells d 5)).grownBy w1 v.ownBlock) :
    w1.heap[B]? = some (.cells #[v] 32 (0, 0)) ∧ w1.heap[wr.heap.size]? = some (.cells vm 38 (0, 0)) ∧ Marks n0 ds w1 ∧ wr.heap.size + 2 ≤ w1.heap.size := by
  have HR2 := Kd.R_alloc (Kd.R_alloc HRv (.cells vm 38)) (.cells d 5)
  have hm0 : ((wr.alloc (.cells vm 38)).alloc (.cells d 5)).heap[wr.heap.size]? = some (.cells vm 38 (0, 0)) := blk_alloc (blk_new wr _) _
  exact ⟨blk_grown (blk_alloc (blk_alloc Hb _) _) hg (Kd.R_ne HRv Hb (by decide)), blk_grown hm0 hg (Kd.R_ne HR2 hm0 (by decide)), ((HM.alloc _).alloc _).grown hg HR2, by have := hg.size; simpa using this⟩

theorem step10 {w0 w1 : World} {v u x : Value} {acc : List Int} {vm : Array Value} {ds : List Deferred} {n0 B M : Nat} (HRv : Kd.R (Kd.int .u8) 5 w1 w0.heap.size (fun _ => True) u acc) (Hb : w1.heap[B]? = some (.cells #[v] 32 (0, 0)))
    (Hm : w1.heap[M]? = some (.cells vm 38 (0, 0))) (HM : Marks n0 ds w1) (HB : Below w0.heap.size w0 w1) (hB : w0.heap.size ≤ B) (hMB : M ≠ B) :
    ∃ W2, (w1.setCell ⟨B, 0, none⟩ u).alloc (.cells #[x] 3) = W2 ∧ W2.heap[B]? = some (.cells #[u] 32 (0, 0)) ∧ W2.heap[M]? = some (.cells vm 38 (0, 0)) ∧ W2.heap[w1.heap.size]? = some (.cells #[x] 3 (0, 0)) ∧ Marks n0 ds W2 ∧
      Kd.R (Kd.int .u8) 5 W2 w0.heap.size (fun _ => True) u acc ∧ Below w0.heap.size w0 W2 ∧ W2.heap.size = w1.heap.size + 1 := by
  refine ⟨_, rfl, blk_alloc (blk_set Hb 0 u) _, blk_alloc (blk_far Hm hMB u) _, ?_, ?_, Kd.R_alloc (Kd.R_set HRv Hb (by simp [Kd.int, Kd.scalar]) 0 u) _, below_alloc (HB.setCell hB u) _, by simp [World.setCell]⟩
  · have h := blk_new (w1.setCell ⟨B, 0, none⟩ u) (.cells #[x] 3)
    rwa [show (w1.setCell ⟨B, 0, none⟩ u).heap.size = w1.heap.size by simp [World.setCell]] at h
  · obtain ⟨Ds, rfl, hn, hD⟩ := HM
    refine Marks.alloc ⟨Ds, rfl, hn, fun D hd => ⟨(hD D hd).1, ?_⟩⟩ _
    rw [Below.heap_setCell _ _ _ _ (by rintro rfl; have := (hD _ hd).2; rw [Hb] at this; cases this)]
    exact (hD D hd).2

/-- a row of bytes has grown: the boxes and the marks are as they were -/
theorem step11 {w2 w3 : World} {v x : Value} {acc : List Int} {vm : Array Value} {ds : List Deferred} {n0 base B M T : Nat} (HRv : Kd.R (Kd.int .u8) 5 w2 base (fun _ => True) v acc) (Hb : w2.heap[B]? = some (.cells #[v] 32 (0, 0)))
    (Hm : w2.heap[M]? = some (.cells vm 38 (0, 0))) (Ha : w2.heap[T]? = some (.cells #[x] 3 (0, 0))) (HM : Marks n0 ds w2) (hg : w2.grownBy w3 v.ownBlock) :
    w3.heap[B]? = some (.cells #[v] 32 (0, 0)) ∧ w3.heap[M]? = some (.cells vm 38 (0, 0)) ∧ w3.heap[T]? = some (.cells #[x] 3 (0, 0)) ∧ Marks n0 ds w3 :=
  ⟨blk_grown Hb hg (Kd.R_ne HRv Hb (by decide)), blk_grown Hm hg (Kd.R_ne HRv Hm (by decide)), blk_grown Ha hg (Kd.R_ne HRv Ha (by decide)), HM.grown hg HRv⟩

/-- the row's new value has been stored -/
theorem step11b {w0 w3 : World} {v u x : Value} {acc : List Int} {vm : Array Value} {ds : List Deferred} {n0 B M T : Nat} (HRv : Kd.R (Kd.int .u8) 5 w3 w0.heap.size (fun _ => True) u acc) (Hb : w3.heap[B]? = some (.cells #[v] 32 (0, 0)))
    (Hm : w3.heap[M]? = some (.cells vm 38 (0, 0))) (Ha : w3.heap[T]? = some (.cells #[x] 3 (0, 0))) (HM : Marks n0 ds w3) (HB : Below w0.heap.size w0 w3) (hB : w0.heap.size ≤ B) :
    ∃ W4, w3.setCell ⟨B, 0, none⟩ u = W4 ∧ W4.heap[B]? = some (.cells #[u] 32 (0, 0)) ∧ W4.heap[M]? = some (.cells vm 38 (0, 0)) ∧ W4.heap[T]? = some (.cells #[x] 3 (0, 0)) ∧ Marks n0 ds W4 ∧
      Kd.R (Kd.int .u8) 5 W4 w0.heap.size (fun _ => True) u acc ∧ Below w0.heap.size w0 W4 ∧ W4.heap.size = w3.heap.size := by
  have hMB : M ≠ B := blk_ne Hm Hb (by decide)
  have hTB : T ≠ B := blk_ne Ha Hb (by decide)
  refine ⟨_, rfl, blk_set Hb 0 u, blk_far Hm hMB u, blk_far Ha hTB u, ?_, Kd.R_set HRv Hb (by simp [Kd.int, Kd.scalar]) 0 u, HB.setCell hB u, by simp [World.setCell]⟩
  obtain ⟨Ds, rfl, hn, hD⟩ := HM
  refine ⟨Ds, rfl, hn, fun D hd => ⟨(hD D hd).1, ?_⟩⟩
  rw [Below.heap_setCell _ _ _ _ (by rintro rfl; have := (hD _ hd).2; rw [Hb] at this; cases this)]
  exact (hD D hd).2

theorem head_of {W : World} {base n c : Nat} {ok : Nat → Prop} {A : Option Addr} {xs : List Int} (h : Kd.R (Kd.int .u8) 5 W base ok (.slice A n c) xs) (hn : 0 < xs.length) : ∃ g, A = some ⟨g, 0, none⟩ ∧ g < W.heap.size := by
  obtain ⟨inner, ho⟩ := Kd.R_own h
  obtain ⟨g, cap, hv, _, hlt⟩ := ho.form hn
  injection hv with hA _ _
  exact ⟨g, hA, hlt⟩

theorem marks_more {n0 n1 D : Nat} {ds : List Deferred} {W : World} (h : MarksU n0 n1 ds W) (hn : n1 ≤ D) (h0 : n0 ≤ n1) (hD : W.heap[D]? = some (.deferred (some []))) : Marks n0 (mark D :: ds) W := by
  obtain ⟨Ds, rfl, hnd, hDs⟩ := h
  refine ⟨D :: Ds, rfl, List.nodup_cons.2 ⟨fun hm => by have := (hDs D hm).2.1; omega, hnd⟩, fun E hE => ?_⟩
  rcases List.mem_cons.1 hE with rfl | hE
  · exact ⟨by omega, hD⟩
  · exact ⟨(hDs E hE).1, (hDs E hE).2.2⟩

theorem Marks.upto {n0 : Nat} {ds : List Deferred} {W : World} (h : Marks n0 ds W) : MarksU n0 W.heap.size ds W := by
  obtain ⟨Ds, rfl, hnd, hDs⟩ := h
  exact ⟨Ds, rfl, hnd, fun D hD => ⟨(hDs D hD).1, (Array.getElem?_eq_some_iff.1 (hDs D hD).2).1, (hDs D hD).2⟩⟩

set_option maxHeartbeats 1000000 in
theorem size_calls (a b : Nat) (hn : a + b ≤ 1000) (w : World) : Calls Try.prog 23 #[.int .i64 (IntKind.i64.wrap ((a : Int) + (b : Int)))] w fun e w' => e = .returned (.int .i64 (((a + b + 7) / 8 : Nat) : Int)) ∧ w' = w := by
  rw [IntWalk.i64_in _ (by omega)]
  go_enter Try.func23, Try.ntmps23
  go_wp2
  go_ret
  exact ⟨by go_num, rfl⟩

/-- a map that may be written -/
def Short (m : S38) : Prop := m.f0.length ≤ 64 ∧ m.f1.length ≤ 64
def ShortTo (l0 : List S38) (k : Nat) : Prop := ∀ j (h : j < l0.length), j < k → Short l0[j]
theorem ShortTo.more {l0 : List S38} {k : Nat} (h : ShortTo l0 k) (hk : k < l0.length) (hs : Short l0[k]) : ShortTo l0 (k + 1) := fun j hj hjk => by
  by_cases e : j = k
  · subst e; exact hs
  · exact h j hj (by omega)

/-- between two rounds -/
def PackRel (l0 : List S38) (w : World) (acc : List Int) (k : Nat) (ds : List Deferred) (w' : World) : Prop :=
  k ≤ l0.length ∧ ShortTo l0 k ∧ Marks w.heap.size ds w' ∧ Below w.heap.size w w' ∧ ∃ v, w'.heap[w.heap.size + 1]? = some (.cells #[v] 32 (0, 0)) ∧ Kd.R (Kd.int .u8) 5 w' w.heap.size (fun _ => True) v acc

set_option maxRecDepth 100000 in
def PackI (l0 : List S38) (F : Nat → List Int) (w : World) (A0 : Option Addr) (c0 : Nat) (x15 x16 x19 x20 : Value) (a : Act) (w' : World) : Prop :=
  ∃ u6 u7 u8 u9 u24 u25 u26 u27 u28 u29 u30 u31 u32 u33 u34 u35 u36 u37 u38 u39 u40 u41 u42 u43 u44 u45 u46 u47 u48 u49 u50 u51 u52 u53 u54 u55 u56 u57 u58 u59 u60 u61 u62 u63 u64 u65 u66 u67 u68 u69 u70 u71 u72 u73 u74 u75 : Value, ∃ (k : Nat) (ds : List Deferred), PackRel l0 w (F k) k ds w' ∧ a = ⟨#[.slice A0 l0.length c0, undef, .string ⟨#[]⟩, .int .i64 0, .pointer (some ⟨w.heap.size + 1, 0, none⟩), undef, u6, u7, u8, u9, .slice A0 l0.length c0, .int .i64 l0.length, .bool false, .slice A0 l0.length c0, .int .i64 l0.length, x15, x16, .slice A0 l0.length c0, .int .i64 l0.length, x19, x20, .slice A0 l0.length c0, .int .i64 l0.length, .int .i64 (k : Int), u24, u25, u26, u27, u28, u29, u30, u31, u32, u33, u34, u35, u36, u37, u38, u39, u40, u41, u42, u43, u44, u45, u46, u47, u48, u49, u50, u51, u52, u53, u54, u55, u56, u57, u58, u59, u60, u61, u62, u63, u64, u65, u66, u67, u68, u69, u70, u71, u72, u73, u74, u75, undef, undef], ds⟩

set_option maxRecDepth 100000 in
set_option maxHeartbeats 2000000 in
theorem pack_calls (A0 : Option Addr) (c0 : Nat) (l0 : List S38) (w : World) (hr : Kd.C k38 w A0 l0.length l0) (hc : l0.length ≤ c0) (hl : l0.length ≤ 4096) (R : Ending → World → Prop) (F : Nat → List Int) (hFlen : ∀ k, k ≤ l0.length → ShortTo l0 k → (F k).length ≤ 100000) (hFs : ∀ k (hk : k < l0.length), F (k + 1) = fill (l0[k].f0 ++ l0[k].f1) ((F k).length + 2) (F k ++ [(l0[k].f0.length : Int), (l0[k].f1.length : Int)] ++ List.replicate ((l0[k].f0.length + l0[k].f1.length + 7) / 8) 0) (uptoF (l0[k].f0 ++ l0[k].f1).length (l0[k].f0 ++ l0[k].f1).length)) (hF0 : F 0 = [(l0.length : Int) / 256, (l0.length : Int) % 256])  (hlong : ∀ k (hk : k < l0.length) w', ¬ Short l0[k] → Below w.heap.size w w' → R (.returned (.tuple #[.string ⟨#[]⟩, .int .i64 2])) w') (hend : ∀ w', ShortTo l0 l0.length → Below w.heap.size w w' → R (.returned (.tuple #[.string (strOfNums (F l0.length)), .int .i64 0])) w') :
    Calls Try.prog 8 #[.slice A0 l0.length c0] w R := by
  have HR := Aside0.mk hr
  have HF0 := Aside0.mk hF0
  clear hr hF0
  have hdec : decide (4096 < (l0.length : Int)) = false := by simp; omega
  refine calls_of_wp_marks 6 Try.func8 rfl ?_
  simp only [Try.ntmps8, List.size_toArray, List.length_cons, List.length_nil, Nat.reduceAdd, Nat.reduceSub, Array.replicate_succ, Array.replicate_zero, List.push_toArray, List.append_toArray, List.nil_append, List.cons_append]
  go_wp2
  refine wp_loop (PackI l0 F w A0 c0 (.int .i64 ((l0.length : Int) / 256)) (.int .u8 ((l0.length : Int) / 256)) (.int .u8 ((l0.length : Int) % 256)) (.slice (some ⟨w.heap.size, 0, none⟩) 2 2)) (fun a _ => l0.length - (intOf (a.tmps.getD 23 undef)).toNat) ?start ?round
  case start =>
    refine ⟨_, _, _, _, _, _, _, _, _, _, _, _, _, _, _, _, _, _, _, _, _, _, _, _, _, _, _, _, _, _, _, _, _, _, _, _, _, _, _, _, _, _, _, _, _, _, _, _, _, _, _, _, _, _, _, _, 0, [], ⟨Nat.zero_le _, fun _ _ h => absurd h (Nat.not_lt_zero _), ⟨[], rfl, List.nodup_nil, fun D hD => by cases hD⟩, ((Below.refl _ w).alloc (Nat.le_refl _) _).alloc (by simp) _, .slice (some ⟨w.heap.size, 0, none⟩) 2 2, ?_, ?_⟩, rfl⟩
    · have h := blk_new (w.alloc (.cells #[.int .u8 ((l0.length : Int) / 256), .int .u8 ((l0.length : Int) % 256)] 5)) (.cells #[.slice (some ⟨w.heap.size, 0, none⟩) 2 2] 32)
      rwa [World.size_alloc] at h
    · rw [HF0.out]
      exact Kd.R_alloc (Kd.R_of_own (own_lit w w.heap.size 5 .u8 [(l0.length : Int) / 256, (l0.length : Int) % 256] (Nat.le_refl _) (by simp)) (fun _ _ => trivial)) _
  case round =>
    intro a wr hI
    obtain ⟨u6, hI⟩ := hI
    obtain ⟨u7, hI⟩ := hI
    obtain ⟨u8, hI⟩ := hI
    obtain ⟨u9, hI⟩ := hI
    obtain ⟨u24, hI⟩ := hI
    obtain ⟨u25, hI⟩ := hI
    obtain ⟨u26, hI⟩ := hI
    obtain ⟨u27, hI⟩ := hI
    obtain ⟨u28, hI⟩ := hI
    obtain ⟨u29, hI⟩ := hI
    obtain ⟨u30, hI⟩ := hI
    obtain ⟨u31, hI⟩ := hI
    obtain ⟨u32, hI⟩ := hI
    obtain ⟨u33, hI⟩ := hI
    obtain ⟨u34, hI⟩ := hI
    obtain ⟨u35, hI⟩ := hI
    obtain ⟨u36, hI⟩ := hI
    obtain ⟨u37, hI⟩ := hI
    obtain ⟨u38, hI⟩ := hI
    obtain ⟨u39, hI⟩ := hI
    obtain ⟨u40, hI⟩ := hI
    obtain ⟨u41, hI⟩ := hI
    obtain ⟨u42, hI⟩ := hI
    obtain ⟨u43, hI⟩ := hI
    obtain ⟨u44, hI⟩ := hI
    obtain ⟨u45, hI⟩ := hI
    obtain ⟨u46, hI⟩ := hI
    obtain ⟨u47, hI⟩ := hI
    obtain ⟨u48, hI⟩ := hI
    obtain ⟨u49, hI⟩ := hI
    obtain ⟨u50, hI⟩ := hI
    obtain ⟨u51, hI⟩ := hI
    obtain ⟨u52, hI⟩ := hI
    obtain ⟨u53, hI⟩ := hI
    obtain ⟨u54, hI⟩ := hI
    obtain ⟨u55, hI⟩ := hI
    obtain ⟨u56, hI⟩ := hI
    obtain ⟨u57, hI⟩ := hI
    obtain ⟨u58, hI⟩ := hI
    obtain ⟨u59, hI⟩ := hI
    obtain ⟨u60, hI⟩ := hI
    obtain ⟨u61, hI⟩ := hI
    obtain ⟨u62, hI⟩ := hI
    obtain ⟨u63, hI⟩ := hI
    obtain ⟨u64, hI⟩ := hI
    obtain ⟨u65, hI⟩ := hI
    obtain ⟨u66, hI⟩ := hI
    obtain ⟨u67, hI⟩ := hI
    obtain ⟨u68, hI⟩ := hI
    obtain ⟨u69, hI⟩ := hI
    obtain ⟨u70, hI⟩ := hI
    obtain ⟨u71, hI⟩ := hI
    obtain ⟨u72, hI⟩ := hI
    obtain ⟨u73, hI⟩ := hI
    obtain ⟨u74, hI⟩ := hI
    obtain ⟨u75, hI⟩ := hI
    obtain ⟨k, hI⟩ := hI
    obtain ⟨ds, hrel, ha⟩ := hI
    subst ha
    obtain ⟨hk, hST, hM, hB, v, hb, hRv⟩ := hrel
    have HST := Aside0.mk hST
    clear hST
    by_cases hlt : k < l0.length
    · obtain ⟨ad, A1, c1, A2, c2, rfl, h1, h2, l1, r1, l2, r2⟩ := at_T38 HR.out (k : Int) (by omega) (by omega)
      have hrd : rd_T38 l0 (k : Int) = l0[k] := by simp [rd_T38, hlt]
      rw [hrd, Int.toNat_natCast] at h1 h2
      rw [hrd] at l1 r1 l2 r2
      clear hrd
      have hF1 := hFs k hlt
      have hSh := ShortTo.more HST.out hlt
      have hLo := fun w' => hlong k hlt w'
      generalize l0[k] = m at h1 h2 l1 r1 l2 r2 hF1 hSh hLo
      have HSH := Aside0.mk hSh
      have HLO := Aside0.mk hLo
      clear hSh hLo
      have HF1 := Aside0.mk hF1
      clear hF1
      replace h1 := (hB.cell (World.block_lt_of_cell? w _ h1)).trans h1
      replace h2 := (hB.cell (World.block_lt_of_cell? w _ h2)).trans h2
      have hcb : wr.cell? ⟨w.heap.size + 1, 0, none⟩ = some v := blk_cell hb 0
      have hfb : wr.frozen? ⟨w.heap.size + 1, 0, none⟩ = false := blk_frozen hb 0
      have hlb : w.heap.size + 1 < wr.heap.size := blk_lt hb
      have HM := Aside0.mk hM
      have HB := Aside0.mk hB
      have Hb := Aside0.mk hb
      have HRv := Aside0.mk hRv
      have R1 := Aside0.mk r1
      have R2 := Aside0.mk r2
      have L1 := Aside0.mk l1
      have L2 := Aside0.mk l2
      clear hM hB hb hRv r1 r2 l1 l2
      by_cases h64 : Short m
      · have h64c : m.f0.length ≤ 64 ∧ m.f1.length ≤ 64 := h64
        have hmx : ¬ (64 < if m.f0.length < m.f1.length then (m.f1.length : Int) else (m.f0.length : Int)) := by split <;> omega
        obtain ⟨h641, h642⟩ := h64c
        clear h64
        have hne : some (w.heap.size + 1) ≠ v.ownBlock := Kd.R_ne HRv.out Hb.out (by decide)
        have HNE := Aside0.mk hne
        clear hne
        have HFL := Aside0.mk (hFlen k hk HST.out)
        rcases Nat.lt_or_ge m.f0.length m.f1.length with hm | hm
        all_goals
          go_wp2_with (at_builtin; go_must (refine Kd.R_append_rows (Kd.int .u8) (Rr := fun (x : Int) cs => cs = [.int .u8 x]) (w0 := w) w.heap.size rfl (.tmp 35) (.tmp 44) 32 5 (.int .u8 0) 1 rfl Try.underlying32 info5 rfl (by decide) (by omega) v (F k) [(m.f0.length : Int), (m.f1.length : Int)] (some ⟨wr.heap.size + 1, 0, none⟩) 2 2 (fun _ => True) (fun _ => False) rfl rfl (Kd.R_alloc (Kd.R_alloc HRv.out _) _) (by have := lit2 (wr.alloc (.cells #[.slice A1 m.f0.length c1, .slice A2 m.f1.length c2] 38)) (m.f0.length : Int) (m.f1.length : Int); simpa using this) (fun _ _ h => h) (fun _ h => h.elim) (fun _ _ => trivial) (below_alloc (below_alloc HB.out _) _) (below_alloc (below_alloc HB.out _) _).size (by have := HFL.out; omega) ?_); intro v1 w1 hR1 hB1 hg hat; go_must (obtain ⟨A3, c3, rfl, hle3, _⟩ := Kd.R_reads hR1); go_must (obtain ⟨hb1, hmb, hM1, hs1⟩ := step9 HRv.out Hb.out HM.out hg); have hcb1 := blk_cell hb1 0; have hfb1 := blk_frozen hb1 0; have hcm0 := blk_cell hmb 0; have hcm1 := blk_cell hmb 1; go_must (simp only [List.getElem?_toArray, List.getElem?_cons_zero, List.getElem?_cons_succ] at hcb1 hcm0 hcm1); have HM1 := Aside0.mk hM1; have Hb1 := Aside0.mk hb1; have Hmb := Aside0.mk hmb; have HR1 := Aside0.mk hR1; have HB1 := Aside0.mk hB1; clear hb1 hmb hR1 hB1 hg hat hM1)
          obtain ⟨W2, hW2, hb2, hm2, ha2, hM2, hR2, hB2, hs2⟩ := step10 (x := .int .i64 (((F k).length : Int) + 2)) HR1.out Hb1.out Hmb.out HM1.out HB1.out (by omega) (by omega)
          simp only [List.length_append, List.length_cons, List.length_nil, Nat.zero_add, Nat.reduceAdd] at hW2 hb2 hR2
          rw [hW2]
          clear hW2 hcb1 hfb1 hcm0 hcm1
          have hcb2 : W2.drew.cell? ⟨w.heap.size + 1, 0, none⟩ = some (.slice A3 ((F k).length + 2) c3) := blk_cell hb2 0
          have hfb2 : W2.drew.frozen? ⟨w.heap.size + 1, 0, none⟩ = false := blk_frozen hb2 0
          have hcm0 : W2.drew.cell? ⟨wr.heap.size, 0, none⟩ = some (.slice A1 m.f0.length c1) := blk_cell hm2 0
          have hcm1 : W2.drew.cell? ⟨wr.heap.size, 1, none⟩ = some (.slice A2 m.f1.length c2) := blk_cell hm2 1
          have HM2 := Aside0.mk hM2
          have HR2 := Aside0.mk hR2
          have HB2 := Aside0.mk hB2
          have Hb2 := Aside0.mk hb2
          have Hm2 := Aside0.mk hm2
          have Ha2 := Aside0.mk ha2
          clear hM2 hR2 hB2 hb2 hm2 ha2
          refine wp_region_still_tail 9 (by kernel_rfl) (by kernel_rfl) ?_
          simp only [List.take_succ_cons, List.take_zero, List.drop_succ_cons, List.drop_zero]
          change wpStill _ _ W2.drew _ _ _
          repeat still_step
          still_call (size_calls m.f0.length m.f1.length (by omega) W2.drew)
          refine wpStill_nil ?_
          change wpList _ _ _ _ _ W2.drew
          refine Kd.R_append_zeros (Kd.int .u8) (w0 := w) w.heap.size rfl (.tmp 48) (.tmp 56) 32 3 5 (.int .u8 0) 1 rfl Try.underlying32 Try.underlying3 info5 rfl (by decide) (by omega) (.slice A3 ((F k).length + 2) c3) (F k ++ [(m.f0.length : Int), (m.f1.length : Int)]) 0 (kx := .i64) (((m.f0.length + m.f1.length + 7) / 8 : Nat) : Int) (fun _ => True) rfl rfl rfl (fun _ _ => trivial) HR2.out (by omega) (below_drew HB2.out) HB2.out.size ?hl2 ?_
          case hl2 =>
            simp only [List.length_append, List.length_cons, List.length_nil, Int.toNat_natCast]
            have := HFL.out
            omega
          intro v3 w3 hR3 hB3 hg3 hat3
          rw [Int.toNat_natCast] at hR3
          obtain ⟨A4, c4, rfl, hle4, _⟩ := Kd.R_reads hR3
          obtain ⟨hb3, hm3, ha3, hM3⟩ := step11 (w2 := W2.drew) HR2.out Hb2.out Hm2.out Ha2.out HM2.out hg3
          have hcb3 : w3.cell? ⟨w.heap.size + 1, 0, none⟩ = some (.slice A3 ((F k).length + 2) c3) := blk_cell hb3 0
          have hfb3 : w3.frozen? ⟨w.heap.size + 1, 0, none⟩ = false := blk_frozen hb3 0
          obtain ⟨W4, hW4, hb4, hm4, ha4, hM4, hR4, hB4, hs4⟩ := step11b hR3 hb3 hm3 ha3 hM3 hB3 (Nat.le_succ _)
          have hl3 : wr.heap.size < w3.heap.size := blk_lt hm3
          have HS4 := Aside0.mk hs4
          clear hs4 hR3 hB3 hg3 hat3 hb3 hm3 ha3 hM3
          have HM4 := Aside0.mk hM4
          have HR4 := Aside0.mk hR4
          have HB4 := Aside0.mk hB4
          have Hb4 := Aside0.mk hb4
          have Hm4 := Aside0.mk hm4
          have Ha4 := Aside0.mk ha4
          clear hM4 hR4 hB4 hb4 hm4 ha4 HM2 HR2 HB2 Hb2 Hm2 Ha2 hcb2 hfb2 hcm0 hcm1
          have HW4 := Aside0.mk hW4
          clear hW4
          generalize hn4 : (F k ++ [(m.f0.length : Int), (m.f1.length : Int)] ++ List.replicate ((m.f0.length + m.f1.length + 7) / 8) 0).length = n4 at *
          have HN4 := Aside0.mk hn4
          clear hn4
          go_upto_region 12 with (fail)
          rw [HW4.out]
          clear HW4 hcb3 hfb3
          obtain ⟨gb, rfl, hgb⟩ := head_of HR4.out (by rw [List.length_append, List.length_append]; simp only [List.length_cons, List.length_nil]; omega)
          have hcm4 : W4.cell? ⟨wr.heap.size, 0, none⟩ = some (.slice A1 m.f0.length c1) := blk_cell Hm4.out 0
          have hcm5 : W4.cell? ⟨wr.heap.size, 1, none⟩ = some (.slice A2 m.f1.length c2) := blk_cell Hm4.out 1
          go_wp2_with (go_at_call 24; refine (bits_calls _ _ _).mono ?_; rintro e w5 ⟨rfl, rfl⟩)
          have hb5 : (W4.alloc (.cells #[.slice A1 m.f0.length c1, .slice A2 m.f1.length c2] 38)).heap[w.heap.size + 1]? = some (.cells #[.slice (some ⟨gb, 0, none⟩) n4 c4] 32 (0, 0)) := blk_alloc Hb4.out _
          have ha5 : (W4.alloc (.cells #[.slice A1 m.f0.length c1, .slice A2 m.f1.length c2] 38)).heap[w1.heap.size]? = some (.cells #[.int .i64 (((F k).length + 2 : Nat) : Int)] 3 (0, 0)) := blk_alloc Ha4.out _
          have hm5 : (W4.alloc (.cells #[.slice A1 m.f0.length c1, .slice A2 m.f1.length c2] 38)).heap[W4.heap.size]? = some (.cells #[.slice A1 m.f0.length c1, .slice A2 m.f1.length c2] 38 (0, 0)) := blk_new _ _
          have hs5 : (W4.alloc (.cells #[.slice A1 m.f0.length c1, .slice A2 m.f1.length c2] 38)).heap.size = W4.heap.size + 1 := by simp
          have hR5 := Kd.R_alloc HR4.out (.cells #[.slice A1 m.f0.length c1, .slice A2 m.f1.length c2] 38)
          have hM5 := (HM4.out.alloc (.cells #[.slice A1 m.f0.length c1, .slice A2 m.f1.length c2] 38)).upto
          have hB5 := below_alloc HB4.out (.cells #[.slice A1 m.f0.length c1, .slice A2 m.f1.length c2] 38)
          have r15 := Kd.C_below R1.out hB5
          have r25 := Kd.C_below R2.out hB5
          generalize W4.alloc (.cells #[.slice A1 m.f0.length c1, .slice A2 m.f1.length c2] 38) = W5 at hb5 ha5 hm5 hs5 hR5 hM5 hB5 r15 r25 ⊢
          have hn5 := HN4.out
          have hfl := HFL.out
          simp only [List.length_append, List.length_cons, List.length_nil, List.length_replicate] at hn5
          refine range_bits _ _ _ _ _ _ _ _ _ _ _ _ _ _ _ _ _ _ _ _ _ _ _ _ _ _ _ _ _ _ _ _ _ _ _ _ _ _ _ _ _ _ _ _ _ _ _ _ _ _ _ _ _ _ _ _ _ _ _ _ _ _ _ _ _ _ _ _ _ _ _ _ _ _ _ ds w W5 (w.heap.size + 1) w1.heap.size W4.heap.size ((F k).length + 2) gb n4 c4 (F k ++ [(m.f0.length : Int), (m.f1.length : Int)] ++ List.replicate ((m.f0.length + m.f1.length + 7) / 8) 0) m.f0 m.f1 (m.f0 ++ m.f1) rfl A1 A2 c1 c2 (by omega) (by omega) (by omega)
            (blk_cell hm5 0) (blk_cell hm5 1) L1.out L2.out r15 r25 ⟨hb5, ha5, hR5, hB5, hM5⟩ ?hs5 ?hn5 ?ha5 hB5.size _ ?hdone
          case hs5 => simp only [List.length_append, List.length_cons, List.length_nil, List.length_replicate]; omega
          case hn5 => exact HN4.out.symm
          case ha5 => simp only [List.length_append, List.length_cons, List.length_nil, List.length_replicate]; omega
          case hdone =>
            intro D W hD hRI hDd
            obtain ⟨g1, g2, g3, g4, g5⟩ := hRI
            have HM6 := Aside0.mk (marks_more g5 hD hB5.size hDd)
            have HG1 := Aside0.mk g1
            have HG3 := Aside0.mk g3
            have HG4 := Aside0.mk g4
            clear g1 g2 g3 g4 g5 hb5 ha5 hm5 hs5 hR5 hM5 hB5 r15 r25 hn5 hfl hD hDd
            go_wp2
            refine ⟨⟨_, _, _, _, _, _, _, _, _, _, _, _, _, _, _, _, _, _, _, _, _, _, _, _, _, _, _, _, _, _, _, _, _, _, _, _, _, _, _, _, _, _, _, _, _, _, _, _, _, _, _, _, _, _, _, _, k + 1, mark D :: ds, ⟨by omega, HSH.out ⟨h641, h642⟩, HM6.out, HG4.out, _, HG1.out, by rw [HF1.out]; exact HG3.out⟩, rfl⟩, ?_⟩
            simp [intOf]
            omega
      · have hmx : (64 < if m.f0.length < m.f1.length then (m.f1.length : Int) else (m.f0.length : Int)) = True := by
          simp only [eq_iff_iff, iff_true]
          have h64' : ¬ (m.f0.length ≤ 64 ∧ m.f1.length ≤ 64) := h64
          split <;> omega
        have H64 := Aside0.mk h64
        clear h64
        go_wp2
        all_goals exact leave2 rfl (HM.out.alloc _) (fun w' hw => HLO.out w' H64.out ((below_alloc HB.out _).trans hw))
    · obtain rfl : k = l0.length := by omega
      have hcb : wr.cell? ⟨w.heap.size + 1, 0, none⟩ = some v := blk_cell hb 0
      obtain ⟨A3, c3, rfl, hle3, hC3⟩ := Kd.R_reads hRv
      have HM := Aside0.mk hM
      have HB := Aside0.mk hB
      clear hM hB hb hRv
      have hconv := Kd.C_string (P := Try.prog) (src := 32) (dst := 9) (c := c3) Try.underlying32 Try.underlying5 Try.underlying9 hC3
      clear hC3
      go_wp2
      exact leave2 rfl HM.out (fun w' hw => hend w' HST.out (HB.out.trans hw))

/-- one map behind what is written -/
def packOne (acc : List Int) (m : S38) : List Int :=
  fill (m.f0 ++ m.f1) (acc.length + 2) (acc ++ [(m.f0.length : Int), (m.f1.length : Int)] ++ List.replicate ((m.f0.length + m.f1.length + 7) / 8) 0) (uptoF (m.f0 ++ m.f1).length (m.f0 ++ m.f1).length)
/-- the first k -/
def packTo (l0 : List S38) : Nat → List Int
  | 0 => [(l0.length : Int) / 256, (l0.length : Int) % 256]
  | k + 1 => packOne (packTo l0 k) (l0.getD k z38)
theorem packOne_length (acc : List Int) (m : S38) : (packOne acc m).length = acc.length + 2 + (m.f0.length + m.f1.length + 7) / 8 := by
  unfold packOne
  rw [fill_length]
  simp
  omega
theorem packTo_length (l0 : List S38) : ∀ k, k ≤ l0.length → ShortTo l0 k → (packTo l0 k).length ≤ 2 + 18 * k
  | 0, _, _ => by simp [packTo]
  | k + 1, hk, hs => by
    have ih := packTo_length l0 k (by omega) (fun j hj hjk => hs j hj (by omega))
    have h := hs k (by omega) (by omega)
    obtain ⟨h1, h2⟩ := h
    have he : l0.getD k z38 = l0[k] := by simp [show k < l0.length by omega]
    unfold packTo
    rw [packOne_length, he]
    omega

def shortB (m : S38) : Bool := decide (m.f0.length ≤ 64) && decide (m.f1.length ≤ 64)
theorem shortB_iff (m : S38) : shortB m = true ↔ Short m := by simp [shortB, Short]

def refmap_Pack.f (l0 : List S38) : Option (ByteArray × Int) :=
  some (if 4096 < l0.length then (⟨#[]⟩, 3) else if l0.all shortB = true then (strOfNums (packTo l0 l0.length), 0) else (⟨#[]⟩, 2))

set_option maxHeartbeats 2000000 in
theorem pack_many (A0 : Option Addr) (c0 : Nat) (l0 : List S38) (w : World) (hl : 4096 < l0.length) (hm : l0.length ≤ 9223372036854775807) :
    Calls Try.prog 8 #[.slice A0 l0.length c0] w fun e w' => e = .returned (.tuple #[.string ⟨#[]⟩, .int .i64 3]) ∧ Below w.heap.size w w' := by
  have hd : (4096 : Int) < (l0.length : Int) := by omega
  go_enter Try.func8, Try.ntmps8
  go_wp2
  go_ret2
  exact ⟨rfl, Below.refl _ _⟩

theorem refmap_Pack.calls (A0 : Option Addr) (c0 : Nat) (l0 : List S38) (r1 : ByteArray) (r2 : Int) (w : World) (hr0 : Kd.C k38 w A0 l0.length l0) (hc0 : l0.length ≤ c0) (h : refmap_Pack.f l0 = some (r1, r2)) :
    Calls Try.prog 8 #[.slice A0 l0.length c0] w fun e w' => e = .returned (.tuple #[.string r1, .int .i64 r2]) ∧ Below w.heap.size w w' := by
  unfold refmap_Pack.f at h
  by_cases hl : 4096 < l0.length
  · rw [if_pos hl] at h
    simp only [Option.some.injEq, Prod.mk.injEq] at h
    obtain ⟨rfl, rfl⟩ := h
    exact pack_many A0 c0 l0 w hl hr0.2.1
  · rw [if_neg hl] at h
    refine pack_calls A0 c0 l0 w hr0 hc0 (by omega) _ (packTo l0) (fun k hk hs => by have := packTo_length l0 k hk hs; omega) ?_ rfl ?_ ?_
    · intro k hk
      have he : l0.getD k z38 = l0[k] := by simp [hk]
      show packOne (packTo l0 k) (l0.getD k z38) = _
      rw [he]
      rfl
    · intro k hk w' hn hb
      refine ⟨?_, hb⟩
      have hall : ¬ (l0.all shortB = true) := fun ha => hn ((shortB_iff _).1 (List.all_eq_true.1 ha l0[k] (List.getElem_mem hk)))
      rw [if_neg hall] at h
      simp only [Option.some.injEq, Prod.mk.injEq] at h
      obtain ⟨rfl, rfl⟩ := h
      rfl
    · intro w' hs hb
      refine ⟨?_, hb⟩
      have hall : l0.all shortB = true := List.all_eq_true.2 fun m hm => by
        obtain ⟨k, hk, rfl⟩ := List.getElem_of_mem hm
        exact (shortB_iff _).2 (hs k hk hk)
      rw [if_pos hall] at h
      simp only [Option.some.injEq, Prod.mk.injEq] at h
      obtain ⟨rfl, rfl⟩ := h
      rfl

end Go.Proofs.Ytnbjhfleoodncaa.X
