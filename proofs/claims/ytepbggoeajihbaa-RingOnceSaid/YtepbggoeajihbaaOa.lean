/- RingOnce: what its loops keep; counts. -/
import Derived.Test.YtepbggoeajihbaaOw
import Derived.Test.YtepbggoeajihbaaPp
set_option linter.unusedVariables false
set_option linter.unusedSimpArgs false
namespace Go.Proofs.Ytepbggoeajihbaa.Ring
open Go.RowKit Go.Proofs.YtepbggoeajihbaaW.PrintWords Go.Proofs.YtepbggoeajihbaaW.PrintLast Go.Proofs.YtepbggoeajihbaaW.PrintMore Go.Proofs.YtepbggoeajihbaaHk
open Go.Proofs.YtepbggoeajihbaaFlat

/-- What RingOnce's loops keep. -/
structure OnInv (B b5 b9 : Nat) (w0 : World) (p : TW) (C : Array Value) (v9 v11 v12 : Value) (R : RS) (l : List DS) (xs ys : List Int) (wr : World) : Prop where
  team : wr.heap[p.tb]? = some (.cells C 55)
  ring : IsRing wr p.g p.sb R
  out : wr.ownsRow b9 57 6 v9 l.length (outCells l)
  r11 : wr.ownsRow b5 32 1 v11 xs.length (nums .u64 xs)
  r12 : wr.ownsRow b5 32 1 v12 ys.length (nums .u64 ys)
  apart : v11.ownBlock = none ∨ v11.ownBlock ≠ v12.ownBlock
  below : Below B w0 wr
  ge : B ≤ p.g ∧ B ≤ p.sb
  b5 : B ≤ b5 ∧ b5 ≤ wr.heap.size
theorem rows_apart {w : World} {b b' n n' s s' : Nat} {v v' : Value} {xs xs' : List Value} {e e' : TypeId} (h : w.ownsRow b e s v n xs) (h' : w.ownsRow b' e' s' v' n' xs') (hne : e ≠ e') (k : Nat) (hk : v'.ownBlock = some k) : v.ownBlock ≠ some k := by
  rcases h'.2 with ⟨hv, _⟩ | ⟨g', cap, cur, hv, _, hg, _⟩
  · rw [hv] at hk; simp [Value.ownBlock] at hk
  · rw [hv] at hk; simp [Value.ownBlock] at hk; subst hk
    exact rown_ne h hg hne
section
variable {B b5 b9 : Nat} {w0 : World} {p : TW} {C : Array Value} {v9 v11 v12 : Value} {R : RS} {l : List DS} {xs ys : List Int} {wr : World}
theorem OnInv.far (h : OnInv B b5 b9 w0 p C v9 v11 v12 R l xs ys wr) {w6 : World} {v : Value} {zs : List Int} (hv : wr.ownsRow b5 32 1 v zs.length (nums .u64 zs)) (hg : wr.grownBy w6 v.ownBlock) :
    w6.heap[p.tb]? = some (.cells C 55) ∧ IsRing w6 p.g p.sb R ∧ w6.ownsRow b9 57 6 v9 l.length (outCells l) ∧ Below B w0 w6 ∧ (B ≤ b5 ∧ b5 ≤ w6.heap.size) := by
  have hfar : ∀ {b : Nat} {cb : Array Value} {t : TypeId}, wr.heap[b]? = some (.cells cb t) → 32 ≠ t → w6.heap[b]? = some (.cells cb t) := fun h1 h2 => (hg.block _ (hk_lt h1) (fun e => rown_ne hv h1 h2 e.symm)).trans h1
  exact ⟨hfar h.team (by decide), ⟨hfar h.ring.ring (by decide), hfar h.ring.slots (by decide), h.ring.ne, h.ring.ok⟩,
    rown_block h.out (fun k hk hl => hg.block k hl (fun e => rows_apart h.out hv (by decide) k e.symm hk)),
    h.below.grown hg (Nat.le_trans h.b5.1 h.b5.2) (fun k hk => Nat.le_trans h.b5.1 (own_base hv k hk)), h.b5.1, Nat.le_trans h.b5.2 hg.size⟩
theorem OnInv.app11 (h : OnInv B b5 b9 w0 p C v9 v11 v12 R l xs ys wr) {w6 : World} {v1 : Value} {x : Int} (hown : w6.ownsRow b5 32 1 v1 (xs ++ [x]).length (nums .u64 (xs ++ [x]))) (hg : wr.grownBy w6 v11.ownBlock) (hat : v1.ownBlock = v11.ownBlock ∨ ∃ b, v1.ownBlock = some b ∧ wr.heap.size ≤ b) :
    OnInv B b5 b9 w0 p C v9 v1 v12 R l (xs ++ [x]) ys w6 := by
  obtain ⟨f1, f2, f3, f4, f5⟩ := h.far h.r11 hg
  refine ⟨f1, f2, f3, hown, rown_block h.r12 (fun k hk hl => hg.block k hl (fun e => ?_)), ?_, f4, h.ge, f5⟩
  · rcases h.apart with e2 | e2
    · rw [e2] at e; cases e
    · exact e2 (e.symm.trans hk.symm)
  · rcases hat with e | ⟨b, e, hb⟩
    · rw [e]; exact h.apart
    · right; rw [e]; intro e2
      have := (h.r12.lt b e2.symm).2; omega
theorem OnInv.app12 (h : OnInv B b5 b9 w0 p C v9 v11 v12 R l xs ys wr) {w6 : World} {v1 : Value} {x : Int} (hown : w6.ownsRow b5 32 1 v1 (ys ++ [x]).length (nums .u64 (ys ++ [x]))) (hg : wr.grownBy w6 v12.ownBlock) (hat : v1.ownBlock = v12.ownBlock ∨ ∃ b, v1.ownBlock = some b ∧ wr.heap.size ≤ b) :
    OnInv B b5 b9 w0 p C v9 v11 v1 R l xs (ys ++ [x]) w6 := by
  obtain ⟨f1, f2, f3, f4, f5⟩ := h.far h.r12 hg
  have hap : v12.ownBlock = none ∨ v12.ownBlock ≠ v11.ownBlock := by
    rcases h.apart with e | e
    · rw [e]; cases v12.ownBlock <;> simp
    · exact .inr (Ne.symm e)
  refine ⟨f1, f2, f3, rown_block h.r11 (fun k hk hl => hg.block k hl (fun e => ?_)), hown, ?_, f4, h.ge, f5⟩
  · rcases hap with e2 | e2
    · rw [e2] at e; cases e
    · exact e2 (e.symm.trans hk.symm)
  · rcases hat with e | ⟨b, e, hb⟩
    · rw [e]; exact h.apart
    · rcases h.apart with e2 | e2
      · exact .inl e2
      · right; rw [e]; intro e3
        have := (h.r11.lt b e3).2; omega
theorem OnInv.alloc (h : OnInv B b5 b9 w0 p C v9 v11 v12 R l xs ys wr) (o : Obj) : OnInv B b5 b9 w0 p C v9 v11 v12 R l xs ys (wr.alloc o) := by
  have hs : wr.heap.size ≤ (wr.alloc o).heap.size := (World.grownBy_alloc wr o none).size
  exact ⟨hk_alloc h.team _, ⟨hk_alloc h.ring.ring _, hk_alloc h.ring.slots _, h.ring.ne, h.ring.ok⟩, h.out.alloc _, h.r11.alloc _, h.r12.alloc _, h.apart, h.below.alloc (Nat.le_trans h.b5.1 h.b5.2) _, h.ge, h.b5.1, Nat.le_trans h.b5.2 hs⟩
theorem OnInv.tried (h : OnInv B b5 b9 w0 p C v9 v11 v12 R l xs ys wr) {w6 : World} {R' : RS} (hr : IsRing w6 p.g p.sb R') (hk : Keep (fun i => i = p.g ∨ i = p.sb) wr w6) : OnInv B b5 b9 w0 p C v9 v11 v12 R' l xs ys w6 := by
  have hrow : ∀ {v : Value} {n b s : Nat} {e : TypeId} {zs : List Value}, wr.ownsRow b e s v n zs → e ≠ 69 → e ≠ 71 → w6.ownsRow b e s v n zs := fun hv h1 h2 =>
    rown_block hv (fun k hk1 hl => hk.block k hl (by
      rintro (e | e)
      · subst e; exact rown_ne hv h.ring.ring h1 hk1
      · subst e; exact rown_ne hv h.ring.slots h2 hk1))
  exact ⟨hk.blk h.team (by
      rintro (e | e)
      · exact blk_ne h.team h.ring.ring (by decide) e
      · exact blk_ne h.team h.ring.slots (by decide) e), hr, hrow h.out (by decide) (by decide), hrow h.r11 (by decide) (by decide), hrow h.r12 (by decide) (by decide), h.apart, h.below.trans (hk.ring_below (Nat.le_trans h.b5.1 h.b5.2) h.ge.1 h.ge.2), h.ge, h.b5.1, Nat.le_trans h.b5.2 hk.size⟩
end
def lenOf : Value → Nat
  | .slice _ n _ => n
  | _ => 0
theorem num_form {wr : World} {base : Nat} {v : Value} {xs : List Int} (h : wr.ownsRow base 32 1 v xs.length (nums .u64 xs)) :
    ∃ A cap, v = .slice A xs.length cap ∧ (∀ k, k < xs.length → ∃ g, A = some ⟨g, 0, none⟩ ∧ wr.cell? ⟨g, k, none⟩ = some (.int .u64 (xs.getD k 0))) ∧ (∀ g, A = some ⟨g, 0, none⟩ → g < wr.heap.size) ∧ xs.length ≤ cap := by
  rcases h.2 with ⟨hv, h0⟩ | ⟨g, cap, cur, hv, hb, hg, hnc, hcm, hcs, htake⟩
  · exact ⟨none, 0, by rw [hv, h0], fun k hk => by omega, (fun g hg => nomatch hg), by omega⟩
  · refine ⟨some ⟨g, 0, none⟩, cap, hv, fun k hk => ⟨g, rfl, ?_⟩, fun g' hg' => by injection hg' with e; injection e with e1; rw [← e1]; exact hk_lt hg, hnc⟩
    rw [hk_cell hg]
    have h1 : (nums .u64 xs)[k]? = some (.int .u64 (xs.getD k 0)) := by simp [nums, hk, List.getD_eq_getElem?_getD]
    rw [← htake, List.getElem?_take_of_lt (by omega)] at h1
    simpa using h1
/-! ### Counts -/
theorem zero3 (w : World) : (zeroValue 3).run Try.prog w = .ok (.int .i64 0) w := by kernel_rfl
noncomputable abbrev Rc : Value → Option (DataW Nat × List MemPlace) := plainElem (H := Nat) Try.prog 3
def CntOk (D : DataW Nat) (f : Int → Int) : Prop := Go.Maps.IsMap D ∧ ∀ x : Int, D.atKey (.int .u64 x) (.lit (.int .i64 0)) = .lit (.int .i64 (f x))
theorem cnt_empty : CntOk (.map []) (fun _ => 0) := ⟨Go.Maps.isMap_empty, fun _ => rfl⟩
theorem cnt_put {D : DataW Nat} {f : Int → Int} (h : CntOk D f) (y c : Int) : CntOk (D.put (.int .u64 y) (.lit (.int .i64 c))) (fun x => if x = y then c else f x) := by
  refine ⟨h.1.put _ _, fun x => ?_⟩
  by_cases e : x = y
  · subst e; rw [Go.Maps.atKey_put_same h.1 (by trivial)]; simp
  · rw [Go.Maps.atKey_put_other (by intro h2; injection h2; contradiction), h.2 x]; simp [e]
theorem cnt_congr {D : DataW Nat} {f g : Int → Int} (h : CntOk D f) (e : ∀ x, f x = g x) : CntOk D g := ⟨h.1, fun x => by rw [h.2 x, e]⟩
theorem look_cnt {w : World} {b n : Nat} {D : DataW Nat} {f : Int → Int} (h : w.ownsMap Try.prog 32 Rc b n D) (hd : CntOk D f) (x : Int) (hx : U64 x) :
    (Instr.lookup 58 (.map (some b)) (.int .u64 x) false).run Try.prog w = .ok (.int .i64 (f x)) w := by
  obtain ⟨c, hrun, hat, _⟩ := h.lookup_int key32 Try.underlying58 Try.underlying3 (zero3 w) (key_u64 x hx)
  rw [hd.2 x] at hat
  have : f x = c := by injection hat with hat; injection hat
  rw [this]; exact hrun
theorem kept_below_c {w w1 : World} {b n : Nat} {D : DataW Nat} {B : Nat} (h : w.ownsMap Try.prog 32 Rc b n D) (hb : Below B w w1) (hB : b < B) : w1.ownsMap Try.prog 32 Rc b n D := by
  obtain ⟨es, clock, hh, r⟩ := h
  exact ⟨es, clock, (hb.block b hB).trans hh, r⟩
def cnt (l : List Int) (x : Int) : Int := (l.count x : Nat)
theorem cnt_nil (x : Int) : cnt [] x = 0 := rfl
theorem cnt_snoc (l : List Int) (y x : Int) : cnt (l ++ [y]) x = if x = y then cnt l y + 1 else cnt l x := by
  unfold cnt
  rw [List.count_append]
  by_cases e : x = y
  · subst e; simp
  · rw [if_neg e, List.count_singleton, if_neg (by simpa using Ne.symm e)]; simp
theorem take_snoc (l : List Int) (k : Nat) (hk : k < l.length) : l.take (k + 1) = l.take k ++ [l.getD k 0] := by
  rw [List.take_succ_eq_append_getElem hk]; simp [hk]
/-- Down to nought, each. -/
theorem cnt_down {xs ys : List Int} (hp : xs.Perm ys) (hn : ys.Nodup) (k : Nat) (hk : k < xs.length) : cnt ys (xs.getD k 0) - cnt (xs.take k) (xs.getD k 0) - 1 = 0 := by
  have hx : xs.Nodup := hp.nodup_iff.2 hn
  have h1 : (xs.take (k + 1)).Nodup := hx.sublist (List.take_sublist _ _)
  rw [take_snoc xs k hk] at h1
  have hm : xs.getD k 0 ∈ xs := by simp [List.getD_eq_getElem?_getD, hk]
  have e1 : ys.count (xs.getD k 0) = 1 := by
    have h2 : ys.count (xs.getD k 0) ≤ 1 := List.nodup_iff_count.1 hn _
    have h3 : 0 < ys.count (xs.getD k 0) := List.count_pos_iff.2 (hp.mem_iff.1 hm)
    omega
  have e2 : (xs.take k).count (xs.getD k 0) = 0 := List.count_eq_zero.2 (fun h => by
    have := (List.nodup_append.1 h1).2.2 _ h _ (List.mem_singleton.2 rfl)
    exact this rfl)
  unfold cnt; rw [e1, e2]; rfl
theorem cnt_bound (l : List Int) (x : Int) : 0 ≤ cnt l x ∧ cnt l x ≤ l.length := by
  unfold cnt
  have := List.count_le_length (a := x) (l := l)
  omega
/-! ### The walk's facts -/
theorem row57_far {w3 w4 : World} {b n : Nat} {v : Value} {xs : List Value} (h : w3.ownsRow b 57 6 v n xs) (hf : ∀ (g : Nat) (cs : Array Value), w3.heap[g]? = some (.cells cs 57) → w4.heap[g]? = some (.cells cs 57)) : w4.ownsRow b 57 6 v n xs := by
  rcases h with ⟨h1, h2⟩
  refine ⟨h1, ?_⟩
  rcases h2 with h2 | ⟨g, cap, cur, hv, hb, hg, r⟩
  · exact .inl h2
  · exact .inr ⟨g, cap, cur, hv, hb, hf _ _ hg, r⟩
theorem w_try {r : RS} {V : Int → Int} (h : WInv r V) : ∃ R A, Solo r popA R A ∧ WInv R V ∧ R.T = r.T ∧ (A.well = true → r.H < r.T ∧ valueOf A = V r.H ∧ R.H = r.H + 1) ∧ (A.well = false → r.H = r.T ∧ R.H = r.T) := by
  by_cases hl : r.H < r.T
  · obtain ⟨R, A, s, hw, hv, hW, hH, hT⟩ := w_pop h hl
    exact ⟨R, A, s, hW, hT, fun _ => ⟨hl, hv, hH⟩, fun e => by rw [hw] at e; exact absurd e (by decide)⟩
  · have := h.hT
    obtain ⟨A, s, hw, _⟩ := w_empty h (by omega)
    exact ⟨r, A, s, h, rfl, fun e => by rw [hw] at e; exact absurd e (by decide), fun _ => ⟨by omega, by omega⟩⟩
/-- j values have been taken; the next one, if any, is at hand. -/
structure TryAt (r0 : RS) (V : Int → Int) (N j : Nat) (b : Bool) (v : Int) (R : RS) : Prop where
  w : WInv R V
  T : R.T = r0.T
  yes : b = true → j < N ∧ v = V (r0.H + j) ∧ R.H = r0.H + j + 1
  no : b = false → j = N ∧ R.H = r0.T
theorem try_first {r0 : RS} {V : Int → Int} {N : Nat} (hN : N = (r0.T - r0.H).toNat) (h : WInv r0 V) : ∃ R A, Solo r0 popA R A ∧ TryAt r0 V N 0 A.well (valueOf A) R := by
  obtain ⟨R, A, s, hW, hT, hy, hn⟩ := w_try h
  have := h.hT
  refine ⟨R, A, s, hW, hT, fun e => ?_, fun e => ?_⟩
  · obtain ⟨h1, h2, h3⟩ := hy e
    exact ⟨by omega, by simpa using h2, by omega⟩
  · obtain ⟨h1, h2⟩ := hn e
    exact ⟨by omega, h2⟩
theorem try_next {r0 R0 : RS} {V : Int → Int} {N j : Nat} {v : Int} (hN : N = (r0.T - r0.H).toNat) (hT0 : r0.H ≤ r0.T) (h : TryAt r0 V N j true v R0) : ∃ R A, Solo R0 popA R A ∧ TryAt r0 V N (j + 1) A.well (valueOf A) R := by
  obtain ⟨g1, g2, g3⟩ := h.yes rfl
  obtain ⟨R, A, s, hW, hT, hy, hn⟩ := w_try h.w
  have hT2 := h.T
  refine ⟨R, A, s, hW, hT.trans h.T, fun e => ?_, fun e => ?_⟩
  · obtain ⟨h1, h2, h3⟩ := hy e
    refine ⟨by omega, ?_, by rw [h3, g3]; push_cast; omega⟩
    rw [h2, g3]; congr 1; push_cast; omega
  · obtain ⟨h1, h2⟩ := hn e
    exact ⟨by omega, by omega⟩
theorem upto_take (n j : Nat) (f : Int → Int) (hj : j < n) : ((upto n).map f).take (j + 1) = ((upto n).map f).take j ++ [f j] := by
  have hl : j < ((upto n).map f).length := by simp [upto, hj]
  rw [take_snoc _ j hl]
  congr 2
  simp [upto, List.getD_eq_getElem?_getD, hj]
theorem kinds_run {ps : List PK} {c : Nat} (hc : c = 2 ∨ c = 4 ∨ c = 8) : ∀ k : Nat, k ≤ 1000 → ∀ d ∈ (runTo ps k (openU c)).out, d.kind = 0 ∨ d.kind = 2 := by
  intro k
  induction k with
  | zero => intro _ d hd; simp [runTo, openU] at hd
  | succ k ih =>
    intro hk d hd
    have hkv := kv_run (ps := ps) hc k (by omega)
    unfold runTo pickStep at hd
    split at hd
    · exact ih (by omega) d hd
    · rename_i a ha
      rcases doStep_out _ _ _ _ _ hd with hd | ⟨_, rfl⟩
      · exact ih (by omega) d hd
      · rw [endD_kind, (hkv _ _ ha).1]; unfold kindOf; split <;> simp
theorem rest_lens {u : US} (h : AtRest 320 200 u) {L F : List DS} (ho : u.out = L ++ F) : (popsOf F).length ≤ 320 ∧ (pushesOf F).length ≤ 320 := by
  have hr := h.inv.ring
  have hH := hr.h0; have hT := hr.hT; have htc := hr.tc
  obtain ⟨v1, v2⟩ := h.values
  have q2 := (h.perm false u.r.T.toNat (by simp [endOf]; omega)).length_eq
  have q1 := (h.perm true u.r.H.toNat (by simp [endOf]; omega)).length_eq
  have l1 : (upto u.r.T.toNat).length = u.r.T.toNat := by simp [upto]
  have l2 : (upto u.r.H.toNat).length = u.r.H.toNat := by simp [upto]
  have a1 : popsOf u.out = popsOf L ++ popsOf F := by rw [ho]; simp [popsOf]
  have a2 : pushesOf u.out = pushesOf L ++ pushesOf F := by rw [ho]; simp [pushesOf]
  have b1 := congrArg List.length (a1.symm.trans v1)
  have b2 := congrArg List.length (a2.symm.trans v2)
  rw [List.length_append, List.length_map] at b1 b2
  omega
theorem once_vals {u : US} (h : AtRest 320 200 u) {L F : List DS} (ho : u.out = L ++ F) {xs : List Int} (hp : xs.Perm (pushesOf F ++ pushesOf L)) : ∀ x ∈ xs, U64 x := by
  intro x hx
  have h1 := hp.mem_iff.1 hx
  have a2 : pushesOf u.out = pushesOf L ++ pushesOf F := by rw [ho]; simp [pushesOf]
  have h2 : x ∈ pushesOf u.out := by rw [a2]; simp at h1 ⊢; exact h1.symm
  rw [h.values.2, List.mem_map] at h2
  obtain ⟨p, hp2, rfl⟩ := h2
  have h3 := (h.mem false p).1 hp2
  have h4 := h.va.i1 p h3.1 (by simpa [endOf] using h3.2)
  unfold U64; omega
end Go.Proofs.Ytepbggoeajihbaa.Ring
