/- The document's New. -/
import Derived.Test.YtepbggoeajihbaaDc
import Derived.Deep.AppendLies
import Derived.Deep.RegionHeld3
import Derived.Deep.DrawnRows
import Derived.Deep.RegionLaw
import Derived.Outline
set_option linter.unusedVariables false
set_option linter.unusedSimpArgs false
namespace Go.Proofs.Ytepbggoeajihbaa.Ring
open Go.RowKit Go.Proofs.YtepbggoeajihbaaW.PrintWords Go.Proofs.YtepbggoeajihbaaW.PrintLast Go.Proofs.YtepbggoeajihbaaW.PrintMore Go.Proofs.YtepbggoeajihbaaHk
attribute [local go_sem ↓] Go.wp_at_zero Go.wp_at_succ

def numsTo (k : Nat) : List Value := (List.range k).map fun i : Nat => Value.int .u64 (i : Int)
def zerosTo (k : Nat) : List Value := List.replicate k (Value.int .u64 0)
theorem numsTo_succ (k : Nat) : numsTo k ++ [Value.int .u64 (k : Int)] = numsTo (k + 1) := by simp [numsTo, List.range_succ]
theorem zerosTo_succ (k : Nat) : zerosTo k ++ [Value.int .u64 0] = zerosTo (k + 1) := by unfold zerosTo; exact List.replicate_succ'.symm
/-- After k rounds: the values vn, vv that the ring's fields hold. -/
structure DnInv (w : World) (k : Nat) (vn vv : Value) (wr : World) : Prop where
  ring : wr.heap[w.heap.size]? = some (.cells #[.int .u64 0, .int .u64 0, vn, vv] 92)
  num : wr.ownsRow (w.heap.size + 1) 32 1 vn k (numsTo k)
  val : wr.ownsRow (w.heap.size + 1) 32 1 vv k (zerosTo k)
  apart : vn.ownBlock = none ∨ vn.ownBlock ≠ vv.ownBlock
  below : Below w.heap.size w wr
theorem info32 : (Try.prog.info? 32).map (fun i => (i.zero, i.size, i.bytes)) = some (some (.int .u64 0), 1, 8) := by kernel_rfl
/-- append of one whole number, at a step of a region that draws its order. -/
theorem app_u64 {ops : Array Oper} {o : Oper} {a : Act} {W : World} {K : Act → World → Prop} {Q : Exit → Act → World → Prop} {E : Prop} (N : Option Tmp) (hN : o.dst = N) (hgd : o.guard = none) (s x : Operand)
    (ho : o.op = .call { callee := .builtin .append, args := #[s, x], argTypes := #[44, 44] }) (base : Nat) (v : Value) (n : Nat) (xs : List Value) (hs : a.eval s = v) (hown : W.ownsRow base 32 1 v n xs)
    (g0 : Nat) (u : Int) (hx : a.eval x = .slice (some ⟨g0, 0, none⟩) 1 1) (hc : W.heap[g0]? = some (.cells #[.int .u64 u] 32)) (hn : n ≤ 1000000) (hbase : base ≤ W.heap.size)
    (h : ∀ g cap w', w'.ownsRow base 32 1 (.slice (some ⟨g, 0, none⟩) (n + 1) cap) (n + 1) (xs ++ [.int .u64 u]) → W.grownBy w' v.ownBlock → (v.ownBlock = some g ∨ g = W.heap.size) → K (a.put N (.slice (some ⟨g, 0, none⟩) (n + 1) cap)) w') :
    if Region.wanted o (yielded ops a.tmps) = true then Oper.wp Try.prog o a W K Q else E := by
  subst hN
  obtain ⟨i0, hi0, hz0, hz1, hz2⟩ := info_parts info32
  exact step_append_lies W hgd s x 44 ho base 32 i0 _ 1 8 Try.underlying44 hi0 hz0 hz1 hz2 rfl (by omega) v n xs hs hown ⟨g0, 0, none⟩ 1 1 [.int .u64 u] hx rfl (World.news_of_block (cs := #[.int .u64 u]) hc) (by simp [Value.oneCell'])
    (by omega) (by unfold maxLen; omega) (by omega) hbase _ rfl (fun g cap w' h1 h2 h3 _ => h g cap w' h1 h2 h3)
theorem hk_new1 (w : World) (o o' : Obj) : ((w.alloc o).alloc o').heap[w.heap.size + 1]? = some o' := by have := hk_new (w.alloc o) o'; simpa using this
theorem grown_blk {W w1 : World} {row : Option Nat} {g : Nat} {o : Obj} (hg : W.grownBy w1 row) (h : W.heap[g]? = some o) (hne : row ≠ some g) : w1.heap[g]? = some o :=
  (hg.block g (hk_lt h) (Ne.symm hne)).trans h
theorem grown_set (w : World) (g j : Nat) (u : Value) : w.grownBy (w.setCell ⟨g, j, none⟩ u) (some g) := ⟨rfl, rfl, rfl, by simp [World.setCell], fun k _ hk => Below.heap_setCell w ⟨g, j, none⟩ u k (fun e => hk (by rw [e]))⟩
theorem below_grown {B : Nat} {W w1 : World} {row : Option Nat} (hg : W.grownBy w1 row) (hB : B ≤ W.heap.size) (hr : ∀ g, row = some g → B ≤ g) : Below B W w1 :=
  ⟨hg.os, hg.tape, hg.output, hg.size, fun i hi => hg.block i (Nat.lt_of_lt_of_le hi hB) (fun e => by have := hr i e.symm; omega)⟩
theorem grown_below {W w1 : World} (hb : Below W.heap.size W w1) : W.grownBy w1 none := ⟨hb.os, hb.tape, hb.output, hb.size, fun k hk _ => hb.block k hk⟩
theorem dn_next {w wr W1 w1 W2 w2 : World} {k g1 c1 g2 c2 : Nat} {vn vv : Value} (h : DnInv w k vn vv wr) (hb1 : Below wr.heap.size wr W1) (hg1 : W1.grownBy w1 vn.ownBlock)
    (ho1 : w1.ownsRow (w.heap.size + 1) 32 1 (.slice (some ⟨g1, 0, none⟩) (k + 1) c1) (k + 1) (numsTo k ++ [.int .u64 k])) (ha1 : vn.ownBlock = some g1 ∨ g1 = W1.heap.size)
    (hb2 : Below w1.heap.size w1 W2) (hg2 : W2.grownBy w2 vv.ownBlock)
    (ho2 : w2.ownsRow (w.heap.size + 1) 32 1 (.slice (some ⟨g2, 0, none⟩) (k + 1) c2) (k + 1) (zerosTo k ++ [.int .u64 0])) (ha2 : vv.ownBlock = some g2 ∨ g2 = W2.heap.size) :
    DnInv w (k + 1) (.slice (some ⟨g1, 0, none⟩) (k + 1) c1) (.slice (some ⟨g2, 0, none⟩) (k + 1) c2)
      ((w2.setCell ⟨w.heap.size, 2, none⟩ (.slice (some ⟨g1, 0, none⟩) (k + 1) c1)).setCell ⟨w.heap.size, 3, none⟩ (.slice (some ⟨g2, 0, none⟩) (k + 1) c2)) := by
  have hx := hk_lt h.ring
  have l1 := ho1.lt g1 rfl
  have l2 := ho2.lt g2 rfl
  have s1 := hb1.size; have s2 := hg1.size; have s3 := hb2.size; have s4 := hg2.size
  have ax : vn.ownBlock ≠ some w.heap.size := fun e => by have := (h.num.lt _ e).1; omega
  have av : vv.ownBlock ≠ some w.heap.size := fun e => by have := (h.val.lt _ e).1; omega
  have hvg1 : vv.ownBlock ≠ some g1 := by
    intro e
    rcases ha1 with e1 | e1
    · rcases h.apart with e2 | e2
      · rw [e1] at e2; exact absurd e2 (by simp)
      · exact e2 (e1.trans e.symm)
    · have := (h.val.lt _ e).2; omega
  have hgg : g1 ≠ g2 := by
    intro e
    rcases ha2 with e1 | e1
    · exact hvg1 (by rw [e1, e])
    · omega
  have hr2 := grown_blk hg2 (hk_below hb2 (Nat.lt_of_lt_of_le hx (by omega)) (grown_blk hg1 (hk_below hb1 hx h.ring) ax)) av
  refine ⟨?_, ?_, ?_, .inr (by simp [Value.ownBlock, hgg]), ?_⟩
  · rw [hk_set (hk_set hr2 2 _) 3 _]; rfl
  · rw [← numsTo_succ]
    refine ((((ho1.kept (grown_below hb2) (.inr (by simp [Value.ownBlock]))).kept hg2 (.inr ?_)).kept (grown_set _ _ _ _) (.inr ?_)).kept (grown_set _ _ _ _) (.inr ?_))
    · exact fun e => hvg1 e.symm
    · simp [Value.ownBlock]; omega
    · simp [Value.ownBlock]; omega
  · rw [← zerosTo_succ]
    refine ((ho2.kept (grown_set _ _ _ _) (.inr ?_)).kept (grown_set _ _ _ _) (.inr ?_))
    · simp [Value.ownBlock]; omega
    · simp [Value.ownBlock]; omega
  · have b1 : Below w.heap.size w W1 := h.below.trans (hb1.mono h.below.size)
    have b2 : Below w.heap.size w w1 := b1.trans (below_grown hg1 (by omega) (fun g e => by have := (h.num.lt _ e).1; omega))
    have b3 : Below w.heap.size w W2 := b2.trans (hb2.mono (by omega))
    have b4 : Below w.heap.size w w2 := b3.trans (below_grown hg2 (by omega) (fun g e => by have := (h.val.lt _ e).1; omega))
    exact (b4.setCell (Nat.le_refl _) _).setCell (Nat.le_refl _) _
theorem DnInv.drew {w wr : World} {k : Nat} {vn vv : Value} (h : DnInv w k vn vv wr) : DnInv w k vn vv wr.drew := ⟨h.ring, h.num, h.val, h.apart, ⟨h.below.os, h.below.tape, h.below.output, h.below.size, h.below.block⟩⟩
/-- Behind both appends. -/
def DnMid (w : World) (k : Nat) (vn vv : Value) (W0 : World) (g1 c1 g2 c2 : Nat) (w2 : World) : Prop :=
  ∃ W1 w1 W2, Below W0.heap.size W0 W1 ∧ W1.grownBy w1 vn.ownBlock ∧ w1.ownsRow (w.heap.size + 1) 32 1 (.slice (some ⟨g1, 0, none⟩) (k + 1) c1) (k + 1) (numsTo k ++ [.int .u64 k]) ∧ (vn.ownBlock = some g1 ∨ g1 = W1.heap.size) ∧
    Below w1.heap.size w1 W2 ∧ W2.grownBy w2 vv.ownBlock ∧ w2.ownsRow (w.heap.size + 1) 32 1 (.slice (some ⟨g2, 0, none⟩) (k + 1) c2) (k + 1) (zerosTo k ++ [.int .u64 0]) ∧ (vv.ownBlock = some g2 ∨ g2 = W2.heap.size)
theorem dn_mid_ring {w W0 w2 : World} {k g1 c1 g2 c2 : Nat} {vn vv : Value} (h : DnInv w k vn vv W0) (hM : DnMid w k vn vv W0 g1 c1 g2 c2 w2) : w2.heap[w.heap.size]? = some (.cells #[.int .u64 0, .int .u64 0, vn, vv] 92) := by
  obtain ⟨W1, w1, W2, hb1, hg1, ho1, ha1, hb2, hg2, ho2, ha2⟩ := hM
  have hx := hk_lt h.ring
  have s1 := hb1.size; have s2 := hg1.size
  have ax : vn.ownBlock ≠ some w.heap.size := fun e => by have := (h.num.lt _ e).1; omega
  have av : vv.ownBlock ≠ some w.heap.size := fun e => by have := (h.val.lt _ e).1; omega
  exact grown_blk hg2 (hk_below hb2 (Nat.lt_of_lt_of_le hx (by omega)) (grown_blk hg1 (hk_below hb1 hx h.ring) ax)) av
theorem dn_mid_next {w W0 w2 : World} {k g1 c1 g2 c2 : Nat} {vn vv : Value} (h : DnInv w k vn vv W0) (hM : DnMid w k vn vv W0 g1 c1 g2 c2 w2) : DnInv w (k + 1) (.slice (some ⟨g1, 0, none⟩) (k + 1) c1) (.slice (some ⟨g2, 0, none⟩) (k + 1) c2)
      ((w2.setCell ⟨w.heap.size, 2, none⟩ (.slice (some ⟨g1, 0, none⟩) (k + 1) c1)).setCell ⟨w.heap.size, 3, none⟩ (.slice (some ⟨g2, 0, none⟩) (k + 1) c2)) := by
  obtain ⟨W1, w1, W2, hb1, hg1, ho1, ha1, hb2, hg2, ho2, ha2⟩ := hM
  exact dn_next h hb1 hg1 ho1 ha1 hb2 hg2 ho2 ha2
def DnPost (w : World) (n : Nat) (e : Ending) (w' : World) : Prop := ∃ p : DW, e = .returned (.pointer (some ⟨p.x, 0, none⟩)) ∧ IsDoc w' p (newR n) ∧ w.heap.size ≤ p.x ∧ w.heap.size ≤ p.nb ∧ w.heap.size ≤ p.vb ∧ Below w.heap.size w w'
theorem row_cells {w : World} {base k : Nat} {v : Value} {xs : List Value} (hk : 0 < k) (h : w.ownsRow base 32 1 v k xs) (f : Nat → Int) (n : Nat) (hn : n = k) (hx : ∀ i, i < n → xs[i]? = some (.int .u64 (f i))) : ∃ g cap, v = .slice (some ⟨g, 0, none⟩) k cap ∧ base ≤ g ∧ cellsAre w g n f := by
  rcases h.2 with ⟨_, h0⟩ | ⟨g, cap, cur, hv, hb, hg, hnc, hcm, hcs, htake⟩
  · omega
  · refine ⟨g, cap, hv, hb, cur, hg, fun i hi => ?_⟩
    have h1 := hx i hi
    rw [← htake] at h1
    rw [List.getElem?_take_of_lt (by omega)] at h1
    simpa using h1
theorem dn_end {w wr : World} {n k : Nat} {vn vv : Value} (h : DnInv w k vn vv wr) (hk : k ≤ n) (hl : ¬ k < n) (hn : n = 2 ∨ n = 4 ∨ n = 8) : DnPost w n (.returned (.pointer (some ⟨w.heap.size, 0, none⟩))) wr := by
  have e : k = n := by omega
  subst e
  obtain ⟨nb, cn, hvn, hnb, hnc⟩ := row_cells (by omega) h.num (newR k).num k rfl (fun i hi => by simp [numsTo, newR, hi])
  obtain ⟨vb, cv, hvv, hvb, hvc⟩ := row_cells (by omega) h.val (newR k).val k rfl (fun i hi => by simp [zerosTo, newR, hi])
  refine ⟨⟨w.heap.size, nb, vb, cn, cv⟩, rfl, ⟨?_, hnc, hvc, ?_⟩, Nat.le_refl _, by show w.heap.size ≤ nb; omega, by show w.heap.size ≤ vb; omega, h.below⟩
  · rw [h.ring, hvn, hvv]; rfl
  · intro e
    have e : nb = vb := e
    rcases h.apart with e2 | e2
    · rw [hvn] at e2; simp [Value.ownBlock] at e2
    · rw [hvn, hvv] at e2; simp [Value.ownBlock, e] at e2
set_option maxHeartbeats 3200000 in
set_option maxRecDepth 100000 in
theorem dnew_walk (n : Nat) (hn : n = 2 ∨ n = 4 ∨ n = 8) (w : World) : Calls Try.prog 34 #[.int .i64 n] w (DnPost w n) := by
  have hn8 : n ≤ 8 := by omega
  have HN := Aside0.mk hn
  clear hn
  go_enter Try.func34, Try.ntmps34
  go_wp2_with fail
  have HI : Aside0 (DnInv w 0 (.slice none 0 0) (.slice none 0 0) (w.alloc (.cells #[.int .u64 0, .int .u64 0, .slice none 0 0, .slice none 0 0] 92))) := ⟨hk_new _ _, ⟨by simp [numsTo], .inl ⟨rfl, rfl⟩⟩, ⟨by simp [zerosTo], .inl ⟨rfl, rfl⟩⟩, .inl rfl, (Below.refl _ _).alloc (Nat.le_refl _) _⟩
  go_loopw [4] (fun c wr => ∃ k : Nat, k ≤ n ∧ c = .int .i64 k ∧ Aside0 (∃ vn vv, DnInv w k vn vv wr)) (fun c _ => n - (intOf c).toNat)
  case atStart => exact ⟨0, by omega, rfl, ⟨_, _, HI.out⟩⟩
  case round =>
    obtain ⟨k, hk, rfl, HJ⟩ := hrel
    obtain ⟨vn, vv, hJ⟩ := HJ.out
    have HJJ := Aside0.mk hJ
    clear HJ
    by_cases hlt : k < n
    · have q2 := hk_cell hJ.ring 2
      have q3 := hk_cell hJ.ring 3
      have f2 := hk_frozen hJ.ring 2
      have f3 := hk_frozen hJ.ring 3
      have hgl := hk_lt hJ.ring
      have hkw : IntKind.u64.wrap (k : Int) = k := by rw [IntKind.wrap_u64]; omega
      have ax : vn.ownBlock ≠ some w.heap.size := fun e => by have := (hJ.num.lt _ e).1; omega
      have av : vv.ownBlock ≠ some w.heap.size := fun e => by have := (hJ.val.lt _ e).1; omega
      have HVL : Aside0 (∀ m, wr.heap.size ≤ m → vn.ownBlock ≠ some m) := ⟨fun m hm e => by have := (hJ.num.lt _ e).2; omega⟩
      have HAP : Aside0 (vv.ownBlock = none ∨ vv.ownBlock ≠ vn.ownBlock) := ⟨by
        rcases hJ.apart with e | e
        · rw [e]; cases vv.ownBlock <;> simp
        · exact .inr (Ne.symm e)⟩
      clear hJ
      have HVW : Aside0 (∀ m, wr.drew.heap.size ≤ m → vn.ownBlock ≠ some m) := HVL
      go_wp2_with fail
      refine start_ (n := 22) (S := fun w' => w'.cell? ⟨w.heap.size, 2, none⟩ = some vn ∧ w'.cell? ⟨w.heap.size, 3, none⟩ = some vv) (ds := [18, 21]) #[false, false, false, false, false, false, false, false, false, false, false, false, false, false, false, false, false, false, false, false, false, false] (by kernel_rfl) rfl rfl ⟨q2, q3⟩ (fun hHeld => ?_)
      have HJ0 := Aside0.mk (HJJ.out.drew)
      have BK0 := Aside0.mk (HJ0.out.ring)
      clear q2 q3 f2 f3 hgl HJJ HVL
      generalize wr.drew = W0 at HJ0 BK0 HVW hHeld ⊢
      refine pure_ (i := 0) (N := (some 12)) (v := ?_) (a' := ?_) #[true, false, false, false, false, false, false, false, false, false, false, false, false, false, false, false, false, false, false, false, false, false] rfl rfl (by kernel_rfl) (fun _ _ _ h => h) (Or.inl ⟨by rfl, ?_⟩) ?_ ?_
      rotate_left
      · intro w'
        go_simp
        with_reducible rfl
      rotate_left
      · simp only [Act.put, List.setIfInBounds_toArray, List.set_cons_zero, List.set_cons_succ, i64_w, i32_w]
        rfl
      refine pure_ (i := 1) (N := (some 13)) (v := ?_) (a' := ?_) #[true, true, false, false, false, false, false, false, false, false, false, false, false, false, false, false, false, false, false, false, false, false] rfl rfl (by kernel_rfl) (fun _ _ _ h => h) (Or.inl ⟨by rfl, ?_⟩) ?_ ?_
      rotate_left
      · intro w'
        go_simp
        with_reducible rfl
      rotate_left
      · simp only [Act.put, List.setIfInBounds_toArray, List.set_cons_zero, List.set_cons_succ, i64_w, i32_w]
        rfl
      refine pure_ (i := 2) (N := (some 14)) (v := ?_) (a' := ?_) #[true, true, true, false, false, false, false, false, false, false, false, false, false, false, false, false, false, false, false, false, false, false] rfl rfl (by kernel_rfl) (fun _ _ _ h => h) (Or.inl ⟨by rfl, ?_⟩) ?_ ?_
      rotate_left
      · intro w'
        go_simp
        with_reducible rfl
      rotate_left
      · simp only [Act.put, List.setIfInBounds_toArray, List.set_cons_zero, List.set_cons_succ, i64_w, i32_w]
        rfl
      refine pure_ (i := 3) (N := (some 15)) (v := ?_) (a' := ?_) #[true, true, true, true, false, false, false, false, false, false, false, false, false, false, false, false, false, false, false, false, false, false] rfl rfl (by kernel_rfl) (fun _ _ _ h => h) (Or.inl ⟨by rfl, ?_⟩) ?_ ?_
      rotate_left
      · intro w'
        go_simp
        with_reducible rfl
      rotate_left
      · simp only [Act.put, List.setIfInBounds_toArray, List.set_cons_zero, List.set_cons_succ, i64_w, i32_w]
        rfl
      refine pure_ (i := 4) (N := (some 16)) (v := ?_) (a' := ?_) #[true, true, true, true, true, false, false, false, false, false, false, false, false, false, false, false, false, false, false, false, false, false] rfl rfl (by kernel_rfl) (fun _ _ _ h => h) (Or.inl ⟨by rfl, ?_⟩) ?_ ?_
      rotate_left
      · intro w'
        go_simp
        with_reducible rfl
      rotate_left
      · simp only [Act.put, List.setIfInBounds_toArray, List.set_cons_zero, List.set_cons_succ, i64_w, i32_w]
        rfl
      refine pure_ (i := 6) (N := (some 18)) (v := ?_) (a' := ?_) #[true, true, true, true, true, false, true, false, false, false, false, false, false, false, false, false, false, false, false, false, false, false] rfl rfl (by kernel_rfl) (fun _ _ _ h => h) (Or.inl ⟨by rfl, ?_⟩) ?_ ?_
      rotate_left
      · intro w'
        go_simp
        with_reducible rfl
      rotate_left
      · simp only [Act.put, List.setIfInBounds_toArray, List.set_cons_zero, List.set_cons_succ, i64_w, i32_w]
        rfl
      refine pure_ (i := 7) (N := (some 19)) (v := ?_) (a' := ?_) #[true, true, true, true, true, false, true, true, false, false, false, false, false, false, false, false, false, false, false, false, false, false] rfl rfl (by kernel_rfl) (fun _ _ _ h => h) (Or.inl ⟨by rfl, ?_⟩) ?_ ?_
      rotate_left
      · intro w'
        go_simp
        with_reducible rfl
      rotate_left
      · simp only [Act.put, List.setIfInBounds_toArray, List.set_cons_zero, List.set_cons_succ, i64_w, i32_w]
        rfl
      refine pure_ (i := 10) (N := (some 22)) (v := ?_) (a' := ?_) #[true, true, true, true, true, false, true, true, false, false, true, false, false, false, false, false, false, false, false, false, false, false] rfl rfl (by kernel_rfl) (fun _ _ _ h => h) (Or.inl ⟨by rfl, ?_⟩) ?_ ?_
      rotate_left
      · intro w'
        go_simp
        with_reducible rfl
      rotate_left
      · simp only [Act.put, List.setIfInBounds_toArray, List.set_cons_zero, List.set_cons_succ, i64_w, i32_w]
        rfl
      refine pure_ (i := 11) (N := (some 23)) (v := ?_) (a' := ?_) #[true, true, true, true, true, false, true, true, false, false, true, true, false, false, false, false, false, false, false, false, false, false] rfl rfl (by kernel_rfl) (fun _ _ _ h => h) (Or.inl ⟨by rfl, ?_⟩) ?_ ?_
      rotate_left
      · intro w'
        go_simp
        with_reducible rfl
      rotate_left
      · simp only [Act.put, List.setIfInBounds_toArray, List.set_cons_zero, List.set_cons_succ, i64_w, i32_w]
        rfl
      refine pure_ (i := 12) (N := (some 24)) (v := ?_) (a' := ?_) #[true, true, true, true, true, false, true, true, false, false, true, true, true, false, false, false, false, false, false, false, false, false] rfl rfl (by kernel_rfl) (fun _ _ _ h => h) (Or.inl ⟨by rfl, ?_⟩) ?_ ?_
      rotate_left
      · intro w'
        go_simp
        with_reducible rfl
      rotate_left
      · simp only [Act.put, List.setIfInBounds_toArray, List.set_cons_zero, List.set_cons_succ, i64_w, i32_w]
        rfl
      refine take_ (i := 5) (N := (some 17)) (v := ?_) (a' := ?_) #[true, true, true, true, true, true, true, true, false, false, true, true, true, false, false, false, false, false, false, false, false, false] rfl rfl (by kernel_rfl) (fun _ _ _ h => h) (Or.inl ⟨by rfl, ?_⟩) hHeld ?_ ?_
      rotate_left
      · rintro w' ⟨s0, s1⟩
        go_simp
        with_reducible rfl
      rotate_left
      · simp only [Act.put, List.setIfInBounds_toArray, List.set_cons_zero, List.set_cons_succ, i64_w, i32_w]
        rfl
      refine take_ (i := 13) (N := (some 25)) (v := ?_) (a' := ?_) #[true, true, true, true, true, true, true, true, false, false, true, true, true, true, false, false, false, false, false, false, false, false] rfl rfl (by kernel_rfl) (fun _ _ _ h => h) (Or.inl ⟨by rfl, ?_⟩) hHeld ?_ ?_
      rotate_left
      · rintro w' ⟨s0, s1⟩
        go_simp
        with_reducible rfl
      rotate_left
      · simp only [Act.put, List.setIfInBounds_toArray, List.set_cons_zero, List.set_cons_succ, i64_w, i32_w]
        rfl
      refine join_ (σ := (Value × Value) × (Nat × Nat) × (Nat × Nat)) 6 #[true, true, true, true, true, true, true, true, true, true, true, true, true, true, true, true, false, false, false, false, false, false] (fun s => [(20, s.1.1), (26, s.1.2), (21, .slice (some ⟨s.2.1.1, 0, none⟩) (k + 1) s.2.1.2), (27, .slice (some ⟨s.2.2.1, 0, none⟩) (k + 1) s.2.2.2)]) (fun s w' => DnMid w k vn vv W0 s.2.1.1 s.2.1.2 s.2.2.1 s.2.2.2 w') ?_ ?_
      rotate_left
      · intro hCont
        refine two_ (i := 8) (j := 14) (Ni := (some 20)) (Nj := (some 26)) #[true, true, true, true, true, true, true, true, true, false, true, true, true, true, false, false, false, false, false, false, false, false] #[true, true, true, true, true, true, true, true, false, false, true, true, true, true, true, false, false, false, false, false, false, false] rfl rfl rfl rfl (by kernel_rfl) (by decide) (by decide) (fun K hK => ?_) (fun K hK => ?_)
        · skip
          refine value_ (w1 := ?_) (v := ?_) (by rfl) rfl ?_ ?_
          rotate_left 2
          · go_simp
            refine ⟨?_, ?_⟩ <;> rfl
          have BK1 := Aside0.mk (hk_alloc BK0.out (.cells #[.int .u64 k] 32))
          clear BK0
          have BK0 := BK1
          clear BK1
          refine hK.out _ _ ⟨hk_cell BK0.out 2, hk_cell BK0.out 3⟩ (fun hHeld => ?_)
          clear hK K
          refine norm_ (a' := ?_) ?_ ?_
          rotate_left
          · simp only [Act.put, List.setIfInBounds_toArray, List.set_cons_zero, List.set_cons_succ]
            rfl
          refine two_ (i := 9) (j := 14) (Ni := (some 21)) (Nj := (some 26)) #[true, true, true, true, true, true, true, true, true, true, true, true, true, true, false, false, false, false, false, false, false, false] #[true, true, true, true, true, true, true, true, true, false, true, true, true, true, true, false, false, false, false, false, false, false] rfl rfl rfl rfl (by kernel_rfl) (by decide) (by decide) (fun K hK => ?_) (fun K hK => ?_)
          · skip
            refine app_u64 (some 21) rfl (by rfl) (.tmp 17) (.tmp 20) (by rfl) (w.heap.size + 1) vn k (numsTo k) (by rfl) (HJ0.out.num.alloc _) _ k (by rfl) (hk_new _ _) (by omega) (by have := hk_lt HJ0.out.ring; simp; omega) ?_
            intro g1 c1 w1 hown1 hgrow1 hat1
            have BK1 := Aside0.mk (grown_blk hgrow1 BK0.out ax)
            clear BK0
            have BK0 := BK1
            clear BK1
            have O1 := Aside0.mk (And.intro hgrow1 (And.intro hown1 hat1))
            have V1 := Aside0.mk ((HJ0.out.val.alloc _).kept hgrow1 HAP.out)
            have S1 : Aside0 (w.heap.size + 1 ≤ w1.heap.size) := ⟨by have := hk_lt HJ0.out.ring; have := hgrow1.size; simp at this; omega⟩
            clear hgrow1 hown1 hat1
            refine hK.out _ _ ⟨hk_cell BK0.out 2, hk_cell BK0.out 3⟩ (fun hHeld => ?_)
            clear hK K
            refine norm_ (a' := ?_) ?_ ?_
            rotate_left
            · simp only [Act.put, List.setIfInBounds_toArray, List.set_cons_zero, List.set_cons_succ]
              rfl
            refine one_ (i := 14) (N := (some 26)) #[true, true, true, true, true, true, true, true, true, true, true, true, true, true, true, false, false, false, false, false, false, false] rfl rfl (by kernel_rfl) (by decide) (fun K hK => ?_)
            refine value_ (w1 := ?_) (v := ?_) (by rfl) rfl ?_ ?_
            rotate_left 2
            · go_simp
              refine ⟨?_, ?_⟩ <;> rfl
            have BK1 := Aside0.mk (hk_alloc BK0.out (.cells #[.int .u64 0] 32))
            clear BK0
            have BK0 := BK1
            clear BK1
            refine hK.out _ _ ⟨hk_cell BK0.out 2, hk_cell BK0.out 3⟩ (fun hHeld => ?_)
            clear hK K
            refine norm_ (a' := ?_) ?_ ?_
            rotate_left
            · simp only [Act.put, List.setIfInBounds_toArray, List.set_cons_zero, List.set_cons_succ]
              rfl
            refine one_ (i := 15) (N := (some 27)) #[true, true, true, true, true, true, true, true, true, true, true, true, true, true, true, true, false, false, false, false, false, false] rfl rfl (by kernel_rfl) (by decide) (fun K hK => ?_)
            refine app_u64 (some 27) rfl (by rfl) (.tmp 25) (.tmp 26) (by rfl) (w.heap.size + 1) vv k (zerosTo k) (by rfl) (V1.out.alloc _) _ 0 (by rfl) (hk_new _ _) (by omega) (by have := S1.out; (try simp); omega) ?_
            intro g2 c2 w2 hown2 hgrow2 hat2
            have BK1 := Aside0.mk (grown_blk hgrow2 BK0.out av)
            have M1 := Aside0.mk (show DnMid w k vn vv W0 g1 c1 g2 c2 w2 from ⟨_, _, _, ((Below.refl _ _).alloc (by simp) _), O1.out.1, O1.out.2.1, O1.out.2.2, ((Below.refl _ _).alloc (Nat.le_refl _) _), hgrow2, hown2, hat2⟩)
            refine hK.out _ _ ⟨hk_cell BK1.out 2, hk_cell BK1.out 3⟩ (fun hHeld => ?_)
            exact norm_ (by simp only [putAll, Act.put, List.setIfInBounds_toArray, List.set_cons_zero, List.set_cons_succ]) (hCont ((.slice (some ⟨W0.heap.size, 0, none⟩) 1 1, .slice (some ⟨w1.heap.size, 0, none⟩) 1 1), (g1, c1), (g2, c2)) _ M1.out)
          · skip
            refine value_ (w1 := ?_) (v := ?_) (by rfl) rfl ?_ ?_
            rotate_left 2
            · go_simp
              refine ⟨?_, ?_⟩ <;> rfl
            have BK1 := Aside0.mk (hk_alloc BK0.out (.cells #[.int .u64 0] 32))
            clear BK0
            have BK0 := BK1
            clear BK1
            refine hK.out _ _ ⟨hk_cell BK0.out 2, hk_cell BK0.out 3⟩ (fun hHeld => ?_)
            clear hK K
            refine norm_ (a' := ?_) ?_ ?_
            rotate_left
            · simp only [Act.put, List.setIfInBounds_toArray, List.set_cons_zero, List.set_cons_succ]
              rfl
            refine one_ (i := 9) (N := (some 21)) #[true, true, true, true, true, true, true, true, true, true, true, true, true, true, true, false, false, false, false, false, false, false] rfl rfl (by kernel_rfl) (by decide) (fun K hK => ?_)
            refine app_u64 (some 21) rfl (by rfl) (.tmp 17) (.tmp 20) (by rfl) (w.heap.size + 1) vn k (numsTo k) (by rfl) ((HJ0.out.num.alloc _).alloc _) _ k (by rfl) (hk_alloc (hk_new _ _) _) (by omega) (by have := hk_lt HJ0.out.ring; simp; omega) ?_
            intro g1 c1 w1 hown1 hgrow1 hat1
            have BK1 := Aside0.mk (grown_blk hgrow1 BK0.out ax)
            clear BK0
            have BK0 := BK1
            clear BK1
            have O1 := Aside0.mk (And.intro hgrow1 (And.intro hown1 hat1))
            have V1 := Aside0.mk (((HJ0.out.val.alloc _).alloc _).kept hgrow1 HAP.out)
            have S1 : Aside0 (w.heap.size + 1 ≤ w1.heap.size) := ⟨by have := hk_lt HJ0.out.ring; have := hgrow1.size; simp at this; omega⟩
            have HC14 := Aside0.mk (grown_blk (o := .cells #[.int .u64 0] 32) hgrow1 (hk_new1 _ _ _) (HVW.out _ (by simp)))
            clear hgrow1 hown1 hat1
            refine hK.out _ _ ⟨hk_cell BK0.out 2, hk_cell BK0.out 3⟩ (fun hHeld => ?_)
            clear hK K
            refine norm_ (a' := ?_) ?_ ?_
            rotate_left
            · simp only [Act.put, List.setIfInBounds_toArray, List.set_cons_zero, List.set_cons_succ]
              rfl
            refine one_ (i := 15) (N := (some 27)) #[true, true, true, true, true, true, true, true, true, true, true, true, true, true, true, true, false, false, false, false, false, false] rfl rfl (by kernel_rfl) (by decide) (fun K hK => ?_)
            refine app_u64 (some 27) rfl (by rfl) (.tmp 25) (.tmp 26) (by rfl) (w.heap.size + 1) vv k (zerosTo k) (by rfl) V1.out _ 0 (by rfl) HC14.out (by omega) (by have := S1.out; (try simp); omega) ?_
            intro g2 c2 w2 hown2 hgrow2 hat2
            have BK1 := Aside0.mk (grown_blk hgrow2 BK0.out av)
            have M1 := Aside0.mk (show DnMid w k vn vv W0 g1 c1 g2 c2 w2 from ⟨_, _, _, (((Below.refl _ _).alloc (by simp) _).alloc (by simp) _), O1.out.1, O1.out.2.1, O1.out.2.2, (Below.refl _ _), hgrow2, hown2, hat2⟩)
            refine hK.out _ _ ⟨hk_cell BK1.out 2, hk_cell BK1.out 3⟩ (fun hHeld => ?_)
            exact norm_ (by simp only [putAll, Act.put, List.setIfInBounds_toArray, List.set_cons_zero, List.set_cons_succ]) (hCont ((.slice (some ⟨W0.heap.size, 0, none⟩) 1 1, .slice (some ⟨W0.heap.size + 1, 0, none⟩) 1 1), (g1, c1), (g2, c2)) _ M1.out)
        · skip
          refine value_ (w1 := ?_) (v := ?_) (by rfl) rfl ?_ ?_
          rotate_left 2
          · go_simp
            refine ⟨?_, ?_⟩ <;> rfl
          have BK1 := Aside0.mk (hk_alloc BK0.out (.cells #[.int .u64 0] 32))
          clear BK0
          have BK0 := BK1
          clear BK1
          refine hK.out _ _ ⟨hk_cell BK0.out 2, hk_cell BK0.out 3⟩ (fun hHeld => ?_)
          clear hK K
          refine norm_ (a' := ?_) ?_ ?_
          rotate_left
          · simp only [Act.put, List.setIfInBounds_toArray, List.set_cons_zero, List.set_cons_succ]
            rfl
          refine one_ (i := 8) (N := (some 20)) #[true, true, true, true, true, true, true, true, true, false, true, true, true, true, true, false, false, false, false, false, false, false] rfl rfl (by kernel_rfl) (by decide) (fun K hK => ?_)
          refine value_ (w1 := ?_) (v := ?_) (by rfl) rfl ?_ ?_
          rotate_left 2
          · go_simp
            refine ⟨?_, ?_⟩ <;> rfl
          have BK1 := Aside0.mk (hk_alloc BK0.out (.cells #[.int .u64 k] 32))
          clear BK0
          have BK0 := BK1
          clear BK1
          refine hK.out _ _ ⟨hk_cell BK0.out 2, hk_cell BK0.out 3⟩ (fun hHeld => ?_)
          clear hK K
          refine norm_ (a' := ?_) ?_ ?_
          rotate_left
          · simp only [Act.put, List.setIfInBounds_toArray, List.set_cons_zero, List.set_cons_succ]
            rfl
          refine one_ (i := 9) (N := (some 21)) #[true, true, true, true, true, true, true, true, true, true, true, true, true, true, true, false, false, false, false, false, false, false] rfl rfl (by kernel_rfl) (by decide) (fun K hK => ?_)
          refine app_u64 (some 21) rfl (by rfl) (.tmp 17) (.tmp 20) (by rfl) (w.heap.size + 1) vn k (numsTo k) (by rfl) ((HJ0.out.num.alloc _).alloc _) _ k (by rfl) (hk_new1 _ _ _) (by omega) (by have := hk_lt HJ0.out.ring; simp; omega) ?_
          intro g1 c1 w1 hown1 hgrow1 hat1
          have BK1 := Aside0.mk (grown_blk hgrow1 BK0.out ax)
          clear BK0
          have BK0 := BK1
          clear BK1
          have O1 := Aside0.mk (And.intro hgrow1 (And.intro hown1 hat1))
          have V1 := Aside0.mk (((HJ0.out.val.alloc _).alloc _).kept hgrow1 HAP.out)
          have S1 : Aside0 (w.heap.size + 1 ≤ w1.heap.size) := ⟨by have := hk_lt HJ0.out.ring; have := hgrow1.size; simp at this; omega⟩
          have HC14 := Aside0.mk (grown_blk (o := .cells #[.int .u64 0] 32) hgrow1 (hk_alloc (hk_new _ _) _) (HVW.out _ (by simp)))
          clear hgrow1 hown1 hat1
          refine hK.out _ _ ⟨hk_cell BK0.out 2, hk_cell BK0.out 3⟩ (fun hHeld => ?_)
          clear hK K
          refine norm_ (a' := ?_) ?_ ?_
          rotate_left
          · simp only [Act.put, List.setIfInBounds_toArray, List.set_cons_zero, List.set_cons_succ]
            rfl
          refine one_ (i := 15) (N := (some 27)) #[true, true, true, true, true, true, true, true, true, true, true, true, true, true, true, true, false, false, false, false, false, false] rfl rfl (by kernel_rfl) (by decide) (fun K hK => ?_)
          refine app_u64 (some 27) rfl (by rfl) (.tmp 25) (.tmp 26) (by rfl) (w.heap.size + 1) vv k (zerosTo k) (by rfl) V1.out _ 0 (by rfl) HC14.out (by omega) (by have := S1.out; (try simp); omega) ?_
          intro g2 c2 w2 hown2 hgrow2 hat2
          have BK1 := Aside0.mk (grown_blk hgrow2 BK0.out av)
          have M1 := Aside0.mk (show DnMid w k vn vv W0 g1 c1 g2 c2 w2 from ⟨_, _, _, (((Below.refl _ _).alloc (by simp) _).alloc (by simp) _), O1.out.1, O1.out.2.1, O1.out.2.2, (Below.refl _ _), hgrow2, hown2, hat2⟩)
          refine hK.out _ _ ⟨hk_cell BK1.out 2, hk_cell BK1.out 3⟩ (fun hHeld => ?_)
          exact norm_ (by simp only [putAll, Act.put, List.setIfInBounds_toArray, List.set_cons_zero, List.set_cons_succ]) (hCont ((.slice (some ⟨W0.heap.size + 1, 0, none⟩) 1 1, .slice (some ⟨W0.heap.size, 0, none⟩) 1 1), (g1, c1), (g2, c2)) _ M1.out)
      rintro ⟨⟨v20, v26⟩, ⟨g1, c1⟩, ⟨g2, c2⟩⟩ w2 hM
      have HM := Aside0.mk hM
      have BK2 := Aside0.mk (dn_mid_ring HJ0.out hM)
      have HNX := Aside0.mk (dn_mid_next HJ0.out hM)
      clear hM
      refine norm_ (a' := ?_) ?_ ?_
      rotate_left
      · simp only [putAll, Act.put, List.setIfInBounds_toArray, List.set_cons_zero, List.set_cons_succ]
        rfl
      refine pure_ (i := 16) (N := (some 28)) (v := ?_) (a' := ?_) #[true, true, true, true, true, true, true, true, true, true, true, true, true, true, true, true, true, false, false, false, false, false] rfl rfl (by kernel_rfl) (fun _ _ _ h => h) (Or.inl ⟨by rfl, ?_⟩) ?_ ?_
      rotate_left
      · intro w'
        go_simp
        with_reducible rfl
      rotate_left
      · simp only [Act.put, List.setIfInBounds_toArray, List.set_cons_zero, List.set_cons_succ, i64_w, i32_w]
        rfl
      refine pure_ (i := 17) (N := (some 29)) (v := ?_) (a' := ?_) #[true, true, true, true, true, true, true, true, true, true, true, true, true, true, true, true, true, true, false, false, false, false] rfl rfl (by kernel_rfl) (fun _ _ _ h => h) (Or.inl ⟨by rfl, ?_⟩) ?_ ?_
      rotate_left
      · intro w'
        go_simp
        with_reducible rfl
      rotate_left
      · simp only [Act.put, List.setIfInBounds_toArray, List.set_cons_zero, List.set_cons_succ, i64_w, i32_w]
        rfl
      refine last_ (i := 18) (N := none) #[true, true, true, true, true, true, true, true, true, true, true, true, true, true, true, true, true, true, true, false, false, false] rfl rfl (by kernel_rfl) (by decide) (fun K hK => ?_)
      have z2 := hk_cell BK2.out 2
      have y2 := hk_frozen BK2.out 2
      refine skip_ (w1 := ?_) (by rfl) rfl ?_ ?_
      rotate_left
      · go_simp
        rfl
      refine hK.out _ _ ?_
      clear hK K
      clear z2 y2
      refine pure_ (i := 19) (N := (some 30)) (v := ?_) (a' := ?_) #[true, true, true, true, true, true, true, true, true, true, true, true, true, true, true, true, true, true, true, true, false, false] rfl rfl (by kernel_rfl) (fun _ _ _ h => h) (Or.inl ⟨by rfl, ?_⟩) ?_ ?_
      rotate_left
      · intro w'
        go_simp
        with_reducible rfl
      rotate_left
      · simp only [Act.put, List.setIfInBounds_toArray, List.set_cons_zero, List.set_cons_succ, i64_w, i32_w]
        rfl
      refine pure_ (i := 20) (N := (some 31)) (v := ?_) (a' := ?_) #[true, true, true, true, true, true, true, true, true, true, true, true, true, true, true, true, true, true, true, true, true, false] rfl rfl (by kernel_rfl) (fun _ _ _ h => h) (Or.inl ⟨by rfl, ?_⟩) ?_ ?_
      rotate_left
      · intro w'
        go_simp
        with_reducible rfl
      rotate_left
      · simp only [Act.put, List.setIfInBounds_toArray, List.set_cons_zero, List.set_cons_succ, i64_w, i32_w]
        rfl
      refine last_ (i := 21) (N := none) #[true, true, true, true, true, true, true, true, true, true, true, true, true, true, true, true, true, true, true, true, true, true] rfl rfl (by kernel_rfl) (by decide) (fun K hK => ?_)
      have z3 := hk_cell (hk_set BK2.out 2 (.slice (some ⟨g1, 0, none⟩) (k + 1) c1)) 3
      have y3 := hk_frozen (hk_set BK2.out 2 (.slice (some ⟨g1, 0, none⟩) (k + 1) c1)) 3
      refine skip_ (w1 := ?_) (by rfl) rfl ?_ ?_
      rotate_left
      · go_simp
        rfl
      refine hK.out _ _ ?_
      clear hK K
      clear z3 y3
      refine done_ (by kernel_rfl) ?_
      go_wp2_with fail
      go_roundw
      case rel => exact ⟨k + 1, by omega, by go_num, ⟨⟨_, _, HNX.out⟩⟩⟩
      case measure => simp [intOf]; omega
    · have hkn : ¬ ((k : Int) < n) := by omega
      go_wp2_with fail
      go_ret
      exact dn_end HJJ.out hk hlt HN.out
end Go.Proofs.Ytepbggoeajihbaa.Ring
