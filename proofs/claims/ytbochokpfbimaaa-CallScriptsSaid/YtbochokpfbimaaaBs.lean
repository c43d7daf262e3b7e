/- Slices of bytes: what they read as, and append onto one that is full or one's own. -/
import Derived.Test.YtbochokpfbimaaaWMore
import Derived.Test.YtbochokpfbimaaaWLast
import Derived.Test.YtbochokpfbimaaaHk
import Derived.ArgAppend
import Derived.Deep.Onto
set_option linter.unusedVariables false
set_option linter.unusedSimpArgs false
namespace Go.Proofs.YtbochokpfbimaaaBs
open Go.RowKit Go.Proofs.YtbochokpfbimaaaW.PrintWords Go.Proofs.YtbochokpfbimaaaW.PrintLast Go.Proofs.YtbochokpfbimaaaW.PrintMore Go.Proofs.YtbochokpfbimaaaHk

/-- The slice's bytes. -/
def Rb (w : World) (A : Option Addr) (xs : List Int) : Prop := ReadsInt w .u8 A xs.length xs
theorem Rb.C {w : World} {A : Option Addr} {xs : List Int} (h : Rb w A xs) : (Kd.int .u8).C w A xs.length xs := Kd.C_of_reads (d := (0 : Int)) (h1 := fun _ => rfl) h
theorem rb_of_C {w : World} {A : Option Addr} {xs : List Int} (h : (Kd.int .u8).C w A xs.length xs) : Rb w A xs := by
  refine ⟨rfl, Kd.C_max h, fun hp => ?_⟩
  obtain ⟨ad, rfl, _⟩ := Kd.at_int h 0 (by omega) (by omega)
  refine ⟨ad, rfl, fun j hj => ?_⟩
  obtain ⟨ad', he, hc⟩ := Kd.at_int h j (by omega) (by omega)
  injection he with he; subst he
  simpa [rd] using hc
theorem Rb.below {w w1 : World} {A : Option Addr} {xs : List Int} (h : Rb w A xs) (hb : Below w.heap.size w w1) : Rb w1 A xs := ReadsInt.below h hb
theorem rb_nil (w : World) : Rb w none [] := ⟨rfl, by simp, fun h => by simp at h⟩
theorem Rb.some {w : World} {A : Option Addr} {xs : List Int} (h : Rb w A xs) (hp : 0 < xs.length) : ∃ ad, A = Option.some ad ∧ ∀ j, j < xs.length → w.cell? (ad.add j) = Option.some (.int .u8 (xs.getD j 0)) := h.2.2 hp
theorem Rb.addr {w : World} {A : Option Addr} {xs : List Int} (h : Rb w A xs) (hp : 0 < xs.length) : ∃ b o, A = Option.some ⟨b, o, none⟩ ∧ ∀ j, j < xs.length → w.cell? ⟨b, o + j, none⟩ = Option.some (.int .u8 (xs.getD j 0)) := by
  obtain ⟨⟨b, o, sp⟩, rfl, hc⟩ := h.some hp
  have hs : sp = none := by
    have h2 := hc 0 hp
    simp [Addr.add, World.cell?] at h2
    split at h2
    · split at h2
      · cases h2
      · rename_i hn; simpa using hn
    · cases h2
  subst hs
  refine ⟨b, o, rfl, fun j hj => ?_⟩
  have := hc j hj
  have e : (⟨b, o, none⟩ : Addr).add j = ⟨b, o + j, none⟩ := by unfold Addr.add; split <;> simp_all
  rwa [e] at this
theorem own_rb {w : World} {base c : Nat} {e : TypeId} {A : Option Addr} {xs : List Int} (h : w.ownsRow base e 1 (.slice A xs.length c) xs.length (nums .u8 xs)) : Rb w A xs := own_reads' h
/-- Full, or one's own. -/
structure Gb (base : Nat) (e : TypeId) (w : World) (A : Option Addr) (c : Nat) (zs : List Int) : Prop where
  reads : Rb w A zs
  le : zs.length ≤ c
  nil : A = none → zs.length = 0 ∧ c = 0
  free : c = zs.length ∨ w.ownsRow base e 1 (.slice A zs.length c) zs.length (nums .u8 zs)
theorem Gb.below {base : Nat} {e : TypeId} {w w1 : World} {A : Option Addr} {c : Nat} {zs : List Int} (h : Gb base e w A c zs) (hb : Below w.heap.size w w1) : Gb base e w1 A c zs :=
  ⟨h.reads.below hb, h.le, h.nil, h.free.imp id fun ho => pw_own_below ho hb⟩
theorem gb_of_own {base : Nat} {e : TypeId} {w : World} {v : Value} {n : Nat} {zs : List Int} (hn : n = zs.length) (h : w.ownsRow base e 1 v n (nums .u8 zs)) : ∃ A c, v = .slice A zs.length c ∧ Gb base e w A c zs := by
  subst hn
  rcases h.2 with ⟨rfl, h0⟩ | ⟨g, cap, cur, rfl, h1, h2, h3, h4, h5, h6⟩
  · exact ⟨none, 0, by rw [h0], ⟨own_rb (c := 0) (by rw [h0] at h ⊢; exact h), by omega, fun _ => ⟨h0, rfl⟩, .inl h0.symm⟩⟩
  · exact ⟨_, cap, rfl, ⟨own_rb h, h3, (fun h => by cases h), .inr h⟩⟩

section
variable {P : Program} {ops : Array Oper} {rest : List Oper} {o : Oper} {a : Act} {Q : Exit → Act → World → Prop}
/-- append(v, y): behind 'at_builtin', in the world with the box of y. -/
theorem gb_append {w0 W : World} (base : Nat) (hgd : o.guard = none) (s x : Operand) (t e : TypeId)
    (ho : o.op = .call { callee := .builtin .append, args := #[s, x], argTypes := #[t, t] })
    (ht : P.underlying t = some (.slice e)) (hinfo : (P.info? e).map (fun i => (i.zero, i.size, i.bytes)) = some (some (.int .u8 0), 1, 1))
    (A : Option Addr) (c : Nat) (zs : List Int) (y : Int) (hs : a.eval s = .slice A zs.length c) (hx : a.eval x = .slice (some ⟨W.heap.size, 0, none⟩) 1 1)
    (H : Gb base e W A c zs) (HB : Below base w0 W) (hbase : base ≤ W.heap.size) (hl : zs.length + 1 ≤ 140737488355328)
    (h : ∀ A1 c1 w1, Gb base e w1 A1 c1 (zs ++ [y]) → Below base w0 w1 → wpList P ops Q rest (a.put o.dst (.slice A1 (zs ++ [y]).length c1)) w1) :
    wpList P ops Q (o :: rest) a (W.alloc (.cells #[.int .u8 y] e)) := by
  rcases H.free with hc | hown
  · obtain ⟨i0, hi, hzz⟩ := Option.map_eq_some_iff.1 hinfo
    simp only [Prod.mk.injEq] at hzz
    obtain ⟨hz0, hz1, hz2⟩ := hzz
    refine wpList_append_grows (W.alloc (.cells #[.int .u8 y] e)) hgd s x t ho e i0 (.int .u8 0) 1 1 ht hi hz0 hz1 hz2 rfl (by decide) A zs.length c (nums .u8 zs) hs H.nil (by simp [nums]) (fun b hb j u hj => ?_)
      ⟨W.heap.size, 0, none⟩ 1 1 [.int .u8 y] hx rfl (World.news_of_block (cs := #[.int .u8 y]) (t := e) (fr := (0, 0)) (heap_alloc_new W _)) (by simp [Value.oneCell']) (by omega) (by simp only [maxLen]; omega) (by omega) ?_
    · subst hb
      have hjl : j < zs.length := by
        rcases Nat.lt_or_ge j zs.length with h | h
        · exact h
        · simp [nums, List.getElem?_eq_none h] at hj
      obtain ⟨ad, he, hcell⟩ := H.reads.some (by omega)
      injection he with he; subst he
      have h1 := hcell j hjl
      have h2 : (W.alloc (.cells #[.int .u8 y] e)).cell? (b.add j) = W.cell? (b.add j) := by
        have hb := (Below.refl W.heap.size W).alloc (Nat.le_refl _) (.cells #[.int .u8 y] e)
        exact hb.cell (World.block_lt_of_cell? W _ h1)
      rw [h2, h1]
      simp [nums, List.getElem?_eq_getElem hjl] at hj
      rw [← hj]; simp [List.getElem?_eq_getElem hjl]
    · intro v' w' hown hg
      have hb2 : Below base w0 w' := (HB.alloc hbase _).grown hg (by simp; omega) (fun k hk => by cases hk)
      have hown' : w'.ownsRow base e 1 v' (zs.length + 1) (nums .u8 (zs ++ [y])) := by
        have h1 := World.ownsRow.mono hown (by simp; omega : base ≤ _)
        simpa [nums] using h1
      obtain ⟨A1, c1, rfl, hgb⟩ := gb_of_own (zs := zs ++ [y]) (by simp) hown'
      exact h A1 c1 w' hgb hb2
  · refine print_append_num base hgd s x t e .u8 1 ho ht hinfo (by decide) (.slice A zs.length c) zs y hs hx hown HB hbase (by omega) ?_
    intro v1 w1 hown1 hb1 hg1 _
    obtain ⟨A1, c1, rfl, hgb⟩ := gb_of_own (zs := zs ++ [y]) rfl hown1
    exact h A1 c1 w1 hgb hb1
/-- append(v, ys...), ys not empty. -/
theorem gb_append_row {w0 W : World} (base : Nat) (hgd : o.guard = none) (s x : Operand) (t e : TypeId)
    (ho : o.op = .call { callee := .builtin .append, args := #[s, x], argTypes := #[t, t] })
    (ht : P.underlying t = some (.slice e)) (hinfo : (P.info? e).map (fun i => (i.zero, i.size, i.bytes)) = some (some (.int .u8 0), 1, 1))
    (A : Option Addr) (c : Nat) (zs ys : List Int) (B : Option Addr) (cb : Nat) (hs : a.eval s = .slice A zs.length c) (hx : a.eval x = .slice B ys.length cb)
    (H : Gb base e W A c zs) (HR : Rb W B ys) (hp : 0 < ys.length) (HB : Below base w0 W) (hbase : base ≤ W.heap.size) (hl : zs.length + ys.length ≤ 140737488355328)
    (h : ∀ A1 c1 w1, Gb base e w1 A1 c1 (zs ++ ys) → Below base w0 w1 → wpList P ops Q rest (a.put o.dst (.slice A1 (zs ++ ys).length c1)) w1) :
    wpList P ops Q (o :: rest) a W := by
  rcases H.free with hc | hown
  · obtain ⟨i0, hi, hzz⟩ := Option.map_eq_some_iff.1 hinfo
    simp only [Prod.mk.injEq] at hzz
    obtain ⟨hz0, hz1, hz2⟩ := hzz
    obtain ⟨bd, rfl, hcells⟩ := HR.some hp
    refine wpList_append_grows W hgd s x t ho e i0 (.int .u8 0) 1 1 ht hi hz0 hz1 hz2 rfl (by decide) A zs.length c (nums .u8 zs) hs H.nil (by simp [nums]) (fun b hb j u hj => ?_)
      bd ys.length cb (nums .u8 ys) hx (by simp [nums]) (fun j u hj => ?_) (by intro u hu; simp only [nums, List.mem_map] at hu; obtain ⟨q, _, rfl⟩ := hu; rfl) (by omega) (by simp only [maxLen]; omega) (by omega) ?_
    · subst hb
      have hjl : j < zs.length := by
        rcases Nat.lt_or_ge j zs.length with h | h
        · exact h
        · simp [nums, List.getElem?_eq_none h] at hj
      obtain ⟨ad, he, hcell⟩ := H.reads.some (by omega)
      injection he with he; subst he
      rw [hcell j hjl]
      simp [nums, List.getElem?_eq_getElem hjl] at hj
      rw [← hj]; simp [List.getElem?_eq_getElem hjl]
    · have hjl : j < ys.length := by
        rcases Nat.lt_or_ge j ys.length with h | h
        · exact h
        · simp [nums, List.getElem?_eq_none h] at hj
      rw [hcells j hjl]
      simp [nums, List.getElem?_eq_getElem hjl] at hj
      rw [← hj]; simp [List.getElem?_eq_getElem hjl]
    · intro v' w' hown hg
      have hb2 : Below base w0 w' := HB.grown hg hbase (fun k hk => by cases hk)
      have hown' : w'.ownsRow base e 1 v' (zs.length + ys.length) (nums .u8 (zs ++ ys)) := by
        have h1 := World.ownsRow.mono hown hbase
        simpa [nums] using h1
      obtain ⟨A1, c1, rfl, hgb⟩ := gb_of_own (zs := zs ++ ys) (by simp) hown'
      exact h A1 c1 w' hgb hb2
  · refine print_append_row base hgd s x t e .u8 1 ho ht hinfo (by decide) (.slice A zs.length c) zs ys B ys.length cb hs hx hown HR HB hbase (by omega) ?_
    intro v1 w1 hown1 hb1 hg1 _
    obtain ⟨A1, c1, rfl, hgb⟩ := gb_of_own (zs := zs ++ ys) rfl hown1
    exact h A1 c1 w1 hgb hb1
end
end Go.Proofs.YtbochokpfbimaaaBs
