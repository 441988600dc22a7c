/- code.read's switch: the state between two keys. -/
import Derived.Test.YtnbjhfleoodncaaXReadJS
namespace Go.Proofs.Ytnbjhfleoodncaa.X
open Go.RowKit Go.Shelf Go.Proofs.YtnbjhfleoodncaaW.PrintWords Go.Proofs.YtnbjhfleoodncaaW.PrintLast Go.Proofs.YtnbjhfleoodncaaW.PrintMore
set_option linter.unusedVariables false
set_option linter.unusedSimpArgs false

def farI (pc n : Int) : Int := if n ≥ 32768 then wrap64 (pc + wrap64 (n - 65536)) else wrap64 (pc + n)
theorem far_I (pc n : Int) : code_far.f pc n = some (farI pc n) := by unfold code_far.f farI; split <;> rfl
def swK (u : ByteArray) (i : Nat) : List Int := (List.range i).map fun j => num2 (behind u (4 * j))
def swT (pc : Int) (u : ByteArray) (i : Nat) : List Int := (List.range i).map fun j => farI pc (num2 (behind u (4 * j + 2)))
theorem swK_succ (u : ByteArray) (i : Nat) : swK u (i + 1) = swK u i ++ [num2 (behind u (4 * i))] := by simp [swK, List.range_succ]
theorem swT_succ (pc : Int) (u : ByteArray) (i : Nat) : swT pc u (i + 1) = swT pc u i ++ [farI pc (num2 (behind u (4 * i + 2)))] := by simp [swT, List.range_succ]
theorem swK_length (u : ByteArray) (i : Nat) : (swK u i).length = i := by simp [swK]
theorem swT_length (pc : Int) (u : ByteArray) (i : Nat) : (swT pc u i).length = i := by simp [swT]
theorem num2_range (s : ByteArray) : 0 ≤ num2 s ∧ num2 s ≤ 65535 := by
  unfold num2
  obtain ⟨a, b⟩ := bt_range s 0
  obtain ⟨c, d⟩ := bt_range s 1
  omega

structure Sw (w W : World) (R X N T K : Nat) (xc : Array Value) (n t kv : Int) (vk vt : Value) (ks ts : List Int) : Prop where
  b : Boxes w W R X N T #[.int .i64 0, .int .i64 0, .int .i64 0, .slice none 0 0, .slice none 0 0] xc n t
  k : W.heap[K]? = some (.cells #[.int .i64 kv] 3 (0, 0))
  hK : w.heap.size ≤ K
  rk : Kd.R (Kd.int .i64) 3 W w.heap.size (fun k => k ≠ N ∧ k ≠ T ∧ k ≠ K ∧ some k ≠ vt.ownBlock) vk ks
  rt : Kd.R (Kd.int .i64) 3 W w.heap.size (fun k => k ≠ N ∧ k ≠ T ∧ k ≠ K ∧ some k ≠ vk.ownBlock) vt ts
section
variable {w W W1 : World} {R X N T K : Nat} {xc xc' : Array Value} {n t kv : Int} {vk vt : Value} {ks ts : List Int}
theorem Sw.below (h : Sw w W R X N T K xc n t kv vk vt ks ts) (hb : Below W.heap.size W W1) : Sw w W1 R X N T K xc n t kv vk vt ks ts :=
  ⟨h.b.below hb, blk_below h.k hb, h.hK, Kd.R_below h.rk hb, Kd.R_below h.rt hb⟩
theorem Sw.drewN (h : Sw w W R X N T K xc n t kv vk vt ks ts) (m : Nat) : Sw w (W.drewN m) R X N T K xc n t kv vk vt ks ts := h.below (pw_below_drewN (Below.refl _ _) m)
theorem Sw.alloc (h : Sw w W R X N T K xc n t kv vk vt ks ts) (o : Obj) : Sw w (W.alloc o) R X N T K xc n t kv vk vt ks ts := h.below (below_alloc (Below.refl _ _) o)
theorem Sw.cellsK (h : Sw w W R X N T K xc n t kv vk vt ks ts) : W.cell? ⟨K, 0, none⟩ = some (.int .i64 kv) := blk_cell h.k 0
/-- the place of the key goes -/
theorem Sw.forget (h : Sw w W R X N T K xc n t kv vk vt ks ts) : Sw w W R X N T N xc n t n vk vt ks ts :=
  ⟨h.b, h.b.n, h.b.hN, Kd.R_mono h.rk (fun k hk => ⟨hk.1, hk.2.1, hk.1, hk.2.2.2⟩), Kd.R_mono h.rt (fun k hk => ⟨hk.1, hk.2.1, hk.1, hk.2.2.2⟩)⟩
/-- a new place for a key -/
theorem Sw.newK (h : Sw w W R X N T N xc n t n vk vt ks ts) (v : Int) : Sw w (W.alloc (.cells #[.int .i64 v] 3)) R X N T W.heap.size xc n t v vk vt ks ts :=
  have h' := h.alloc (.cells #[.int .i64 v] 3)
  ⟨h'.b, blk_new _ _, h.b.b.size, Kd.R_mono (Kd.R_alloc (Kd.R_bound h.rk) _) (fun k hk => ⟨hk.1.1, hk.1.2.1, Nat.ne_of_lt hk.2.2.1, hk.1.2.2.2⟩), Kd.R_mono (Kd.R_alloc (Kd.R_bound h.rt) _) (fun k hk => ⟨hk.1.1, hk.1.2.1, Nat.ne_of_lt hk.2.2.1, hk.1.2.2.2⟩)⟩
theorem Sw.setT (h : Sw w W R X N T K xc n t kv vk vt ks ts) (hR : R ≠ T) (hX : X ≠ T) (hN : N ≠ T) (hK : K ≠ T) (v : Int) : Sw w (W.setCell ⟨T, 0, none⟩ (.int .i64 v)) R X N T K xc n v kv vk vt ks ts :=
  ⟨h.b.setT hR hX hN v, blk_far (p := ⟨T, 0, none⟩) h.k hK _, h.hK, Kd.R_far (p := ⟨T, 0, none⟩) h.rk (fun _ hk => hk.2.1) _, Kd.R_far (p := ⟨T, 0, none⟩) h.rt (fun _ hk => hk.2.1) _⟩
theorem Sw.setN (h : Sw w W R X N T K xc n t kv vk vt ks ts) (hR : R ≠ N) (hX : X ≠ N) (hT : T ≠ N) (hK : K ≠ N) (v : Int) : Sw w (W.setCell ⟨N, 0, none⟩ (.int .i64 v)) R X N T K xc v t kv vk vt ks ts :=
  ⟨h.b.setN hR hX hT v, blk_far (p := ⟨N, 0, none⟩) h.k hK _, h.hK, Kd.R_far (p := ⟨N, 0, none⟩) h.rk (fun _ hk => hk.1) _, Kd.R_far (p := ⟨N, 0, none⟩) h.rt (fun _ hk => hk.1) _⟩
theorem Sw.setK (h : Sw w W R X N T K xc n t kv vk vt ks ts) (hR : R ≠ K) (hX : X ≠ K) (hN : N ≠ K) (hT : T ≠ K) (v : Int) : Sw w (W.setCell ⟨K, 0, none⟩ (.int .i64 v)) R X N T K xc n t v vk vt ks ts :=
  ⟨⟨blk_far (p := ⟨K, 0, none⟩) h.b.r hR _, blk_far (p := ⟨K, 0, none⟩) h.b.x hX _, blk_far (p := ⟨K, 0, none⟩) h.b.n hN _, blk_far (p := ⟨K, 0, none⟩) h.b.t hT _, h.b.hR, h.b.hX, h.b.hN, h.b.hT, h.b.b.setCell (p := ⟨K, 0, none⟩) h.hK _⟩,
   blk_set h.k 0 _, h.hK, Kd.R_far (p := ⟨K, 0, none⟩) h.rk (fun _ hk => hk.2.2.1) _, Kd.R_far (p := ⟨K, 0, none⟩) h.rt (fun _ hk => hk.2.2.1) _⟩
theorem Sw.setX (h : Sw w W R X N T K xc n t kv vk vt ks ts) (hR : R ≠ X) (hN : N ≠ X) (hT : T ≠ X) (hK : K ≠ X) (i : Nat) (v : Value) (he : xc.setIfInBounds i v = xc') : Sw w (W.setCell ⟨X, i, none⟩ v) R X N T K xc' n t kv vk vt ks ts :=
  ⟨h.b.setX hR hN hT i v he, blk_far (p := ⟨X, i, none⟩) h.k hK _, h.hK, Kd.R_set h.rk h.b.x (by simp [Kd.int, Kd.scalar]) i v, Kd.R_set h.rt h.b.x (by simp [Kd.int, Kd.scalar]) i v⟩
/-- blocks that a row has not -/
theorem Sw.grown {row : Option Nat} (h : Sw w W R X N T K xc n t kv vk vt ks ts) (hg : W.grownBy W1 row) (hb : Below w.heap.size w W1) (r : some R ≠ row) (x : some X ≠ row) (nn : some N ≠ row) (tt : some T ≠ row) : Boxes w W1 R X N T #[.int .i64 0, .int .i64 0, .int .i64 0, .slice none 0 0, .slice none 0 0] xc n t :=
  ⟨blk_grown h.b.r hg r, blk_grown h.b.x hg x, blk_grown h.b.n hg nn, blk_grown h.b.t hg tt, h.b.hR, h.b.hX, h.b.hN, h.b.hT, hb⟩
theorem away {ok : Nat → Prop} {e : Nat} {v : Value} {xs : List Int} {base g : Nat} (h : Kd.R (Kd.int .i64) e W base ok v xs) (hok : ∀ k, ok k → k ≠ g) : some g ≠ v.ownBlock := fun he => hok g (h.1 g he.symm) rfl
/-- a key comes behind the keys -/
theorem Sw.appK {v1 : Value} {ks1 : List Int} (h : Sw w W R X N T K xc n t kv vk vt ks ts) (h1 : Kd.R (Kd.int .i64) 3 W1 w.heap.size (fun k => k ≠ N ∧ k ≠ T ∧ k ≠ K ∧ some k ≠ vt.ownBlock) v1 ks1) (hb : Below w.heap.size w W1) (hg : W.grownBy W1 vk.ownBlock) (hat : v1.ownBlock = vk.ownBlock ∨ ∃ b, v1.ownBlock = some b ∧ W.heap.size ≤ b) :
    Sw w W1 R X N T K xc n t kv v1 vt ks1 ts := by
  have ht : ∀ k, (k ≠ N ∧ k ≠ T ∧ k ≠ K ∧ some k ≠ vk.ownBlock) ∧ k < W.heap.size → some k ≠ v1.ownBlock := by
    rintro k ⟨⟨_, _, _, h4⟩, hlt⟩ he
    rcases hat with hat | ⟨b, hb1, hb2⟩
    · exact h4 (he.trans hat)
    · rw [hb1] at he
      injection he with he
      omega
  refine ⟨h.grown hg hb (Kd.R_ne h.rk h.b.r (by decide)) (Kd.R_ne h.rk h.b.x (by decide)) (away h.rk fun _ hk => hk.1) (away h.rk fun _ hk => hk.2.1), blk_grown h.k hg (away h.rk fun _ hk => hk.2.2.1), h.hK, h1, ?_⟩
  exact Kd.R_mono (Kd.R_grown (Kd.R_bound h.rt) hg (fun k hk => hk.1.2.2.2)) (fun k hk => ⟨hk.1.1, hk.1.2.1, hk.1.2.2.1, ht k ⟨hk.1, hk.2.2.1⟩⟩)
/-- a place comes behind the places -/
theorem Sw.appT {v1 : Value} {ts1 : List Int} (h : Sw w W R X N T K xc n t kv vk vt ks ts) (h1 : Kd.R (Kd.int .i64) 3 W1 w.heap.size (fun k => k ≠ N ∧ k ≠ T ∧ k ≠ K ∧ some k ≠ vk.ownBlock) v1 ts1) (hb : Below w.heap.size w W1) (hg : W.grownBy W1 vt.ownBlock) (hat : v1.ownBlock = vt.ownBlock ∨ ∃ b, v1.ownBlock = some b ∧ W.heap.size ≤ b) :
    Sw w W1 R X N T K xc n t kv vk v1 ks ts1 := by
  have ht : ∀ k, (k ≠ N ∧ k ≠ T ∧ k ≠ K ∧ some k ≠ vt.ownBlock) ∧ k < W.heap.size → some k ≠ v1.ownBlock := by
    rintro k ⟨⟨_, _, _, h4⟩, hlt⟩ he
    rcases hat with hat | ⟨b, hb1, hb2⟩
    · exact h4 (he.trans hat)
    · rw [hb1] at he
      injection he with he
      omega
  refine ⟨h.grown hg hb (Kd.R_ne h.rt h.b.r (by decide)) (Kd.R_ne h.rt h.b.x (by decide)) (away h.rt fun _ hk => hk.1) (away h.rt fun _ hk => hk.2.1), blk_grown h.k hg (away h.rt fun _ hk => hk.2.2.1), h.hK, ?_, h1⟩
  exact Kd.R_mono (Kd.R_grown (Kd.R_bound h.rk) hg (fun k hk => hk.1.2.2.2)) (fun k hk => ⟨hk.1.1, hk.1.2.1, hk.1.2.2.1, ht k ⟨hk.1, hk.2.2.1⟩⟩)
theorem Sw.lts (h : Sw w W R X N T K xc n t kv vk vt ks ts) : N < W.heap.size ∧ T < W.heap.size ∧ K < W.heap.size ∧ (∀ k, W.heap.size ≤ k → some k ≠ vt.ownBlock) ∧ ∀ k, W.heap.size ≤ k → some k ≠ vk.ownBlock :=
  ⟨blk_lt h.b.n, blk_lt h.b.t, blk_lt h.k, fun k hk he => by have := Kd.R_lt h.rt k he.symm; omega, fun k hk he => by have := Kd.R_lt h.rk k he.symm; omega⟩
end
theorem places2 {W : World} {b o b' o' : Nat} {v v' : Value} {m : Nat} (hp : W.cell? ⟨b, o, none⟩ = some v) (hf : W.frozen? ⟨b, o, none⟩ = false) (hp' : W.cell? ⟨b', o', none⟩ = some v') (hf' : W.frozen? ⟨b', o', none⟩ = false) :
    Places (W.alloc (.cells #[.pointer (some ⟨b, o, none⟩), .pointer (some ⟨b', o', none⟩)] m)) W.heap.size [⟨b, o, none⟩, ⟨b', o', none⟩] := by
  have hlt : b < W.heap.size := World.block_lt_of_cell? _ _ hp
  have hlt' : b' < W.heap.size := World.block_lt_of_cell? _ _ hp'
  refine ⟨fun i hi => ?_, fun q hq => ?_⟩
  · have hi' : i < 2 := hi
    obtain rfl | rfl : i = 0 ∨ i = 1 := by omega
    · exact blk_cell (blk_new _ _) 0
    · exact blk_cell (blk_new _ _) 1
  · have hq' : q = ⟨b, o, none⟩ ∨ q = ⟨b', o', none⟩ := by simpa using hq
    rcases hq' with rfl | rfl
    · refine ⟨Nat.ne_of_lt hlt, ⟨v, by rw [World.cell?_alloc_lt _ _ _ hlt]; exact hp⟩, ?_⟩
      rw [World.frozen?_alloc_past (hn := hlt)]
      exact hf
    · refine ⟨Nat.ne_of_lt hlt', ⟨v', by rw [World.cell?_alloc_lt _ _ _ hlt']; exact hp'⟩, ?_⟩
      rw [World.frozen?_alloc_past (hn := hlt')]
      exact hf'
end Go.Proofs.Ytnbjhfleoodncaa.X
