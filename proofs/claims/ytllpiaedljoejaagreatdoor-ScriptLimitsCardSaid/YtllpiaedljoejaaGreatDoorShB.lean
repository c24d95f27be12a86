/- A strings.Builder: one byte is written; its text; bytes as a text of digits. Conditions: none. -/
import Derived.Test.YtllpiaedljoejaaGreatDoorShA
import Derived.Test.YtllpiaedljoejaaGreatDoorXCk
import Derived.Test.YtllpiaedljoejaaGreatDoorShelf
import Derived.Test.YtllpiaedljoejaaGreatDoorSc2
import Derived.Test.YtllpiaedljoejaaGreatDoorSc7
namespace Go.Proofs.YtllpiaedljoejaaGreatDoor
open Go.Vc Go.Lib
set_option linter.unusedSimpArgs false
set_option linter.unusedVariables false
set_option maxRecDepth 100000
theorem elU8 : ElT Tryz.prog 28 5 (Enc.int .u8) 1 := by
  refine ⟨by kernel_rfl, ?_⟩
  have h : (Tryz.prog.info? 5).map (fun i => (i.zero.isSome, i.size, i.bytes, (i.zero.getD .nilIface).cells.size)) = some (true, 1, 1, 1) := by kernel_rfl
  cases hi : Tryz.prog.info? 5 with
  | none => rw [hi] at h; cases h
  | some i =>
    rw [hi] at h
    simp only [Option.map_some, Option.some.injEq, Prod.mk.injEq] at h
    obtain ⟨h1, h2, h3, h4⟩ := h
    obtain ⟨z, hz⟩ := Option.isSome_iff_exists.1 h1
    exact ⟨i, z, rfl, hz, h2, h3, by rw [hz] at h4; exact h4⟩
def bldP (b : Nat) (p : Value) : Prop := p = .pointer none ∨ p = .pointer (some ⟨b, 0, none⟩)
/-- Block b is a builder of these bytes. -/
def bld (b : Nat) (xs : List Int) : HP := fun h => ∃ (p : Value) (a : Option Addr) (c : Nat), bldP b p ∧ Sep [row b 41 [p, .slice a xs.length c], own (Enc.int .u8) 5 a c xs] h
theorem St.base {e w : World} {m : Hp} {L : List HP} {b : Nat} {o : Obj} (H : St e m w (blk b o :: L)) : m b = none := by
  obtain ⟨B, h1, h2, h3, h4⟩ := H.mem
  obtain ⟨a, r, ha, hr, hd, hab, hrb⟩ := h2
  rcases h3 b with h | h
  · exact h
  · have := hab b o ha
    rw [h] at this; cases this
theorem own_base {e w : World} {m : Hp} {L : List HP} {α : Type} {E : Enc α} {t : TypeId} {a : Option Addr} {c B : Nat} {xs : List α} (H : St e m w (own E t a c xs :: L)) (hB : ∀ i, m i = none → B ≤ i) : Own E t B w a c xs := by
  have ho := H.ownOut
  obtain ⟨B', h1, h2, h3, h4⟩ := H.mem
  obtain ⟨a0, r, ha, hr, hd, hab, hrb⟩ := h2
  unfold Own at ho ⊢
  refine ⟨ho.1, ?_⟩
  rcases ho.2 with h | ⟨g, cap, cur, hv, _, hg, hrest⟩
  · exact .inl h
  · refine .inr ⟨g, cap, cur, hv, hB g ?_, hg, hrest⟩
    rcases ha with ⟨hn, _⟩ | ⟨g', cur', hg', hc', _⟩
    · rw [hn] at hv; cases hv
    · rw [hg'] at hv
      simp only [Value.slice.injEq, Option.some.injEq, Addr.mk.injEq, and_true] at hv
      obtain ⟨rfl, _⟩ := hv
      rcases h3 g' with h | h
      · exact h
      · have := hab g' _ hc'; rw [h] at this; cases this
section
variable {e w : World} {m : Hp} {L : List HP}
theorem check_sp {b : Nat} {p u : Value} (H : St e m w (row b 41 [p, u] :: L)) (hp : bldP b p) : Calls Tryz.prog 33 #[.pointer (some ⟨b, 0, none⟩)] w (Ret fun v w' => v = .tuple #[] ∧ St e m w' (row b 41 [.pointer (some ⟨b, 0, none⟩), u] :: L)) := by
  have hr := H.rowAt
  rcases hp with rfl | rfl
  · have h2 : w.heap[b]? = some (.cells #[.pointer none, u] 41 (0, 0)) := hr
    have hsh : w.shape? b = some (41, 2) := by simp only [World.shape?, h2]; rfl
    refine (check_fresh b w (hr.cell rfl) hsh (hr.frozen 0)).mono ?_
    rintro _ w' ⟨rfl, rfl⟩
    refine ⟨_, rfl, rfl, ?_⟩
    have H2 := H.store (o := 0) (vs := [.pointer (some ⟨b, 0, none⟩)]) (by simp)
    simpa [World.setCells, splice] using H2
  · refine (check_used b w (hr.cell rfl)).mono ?_
    rintro _ w' ⟨rfl, rfl⟩
    exact ⟨_, rfl, rfl, H⟩
theorem WriteByte_sp {b : Nat} {xs : List Int} (H : St e m w (bld b xs :: L)) (c : Int) (hx : xs.length ≤ 1000000) : Calls Tryz.prog 17 #[.pointer (some ⟨b, 0, none⟩), .int .u8 c] w (Ret fun v w' => v = .nilIface ∧ St e m w' (bld b (xs ++ [c]) :: L)) := by
  apply strings_Builder_WriteByte.calls
  unfold strings_Builder_WriteByte.F
  obtain ⟨p, H⟩ := H.ex
  obtain ⟨a, H⟩ := H.ex
  obtain ⟨c0, H⟩ := H.ex
  obtain ⟨hp, H⟩ := H.pure
  have H := H.flat
  refine Calls.ret (check_sp H hp) ?_
  rintro v w1 ⟨rfl, H⟩
  refine ⟨rfl, ?_⟩
  refine ⟨_, _, _, St.ld H, ?_⟩
  refine St.app1 H elU8 c (fun b1 a' c' w2 H => ?_)
  refine St.st H fun w3 H => ?_
  refine ⟨rfl, ?_⟩
  have H2 := St.re (L' := row b 41 (splice [.pointer (some ⟨b, 0, none⟩), .slice a xs.length c0] (0 + 1) [.slice a' (xs ++ [c]).length c']) :: own (Enc.int .u8) 5 a' c' (xs ++ [c]) :: L) H
  have H3 := St.join (L1 := [row b 41 (splice [.pointer (some ⟨b, 0, none⟩), .slice a xs.length c0] (0 + 1) [.slice a' (xs ++ [c]).length c']), own (Enc.int .u8) 5 a' c' (xs ++ [c])]) H2
  exact H3.imp fun h hh => ⟨_, a', c', .inr rfl, hh⟩
end
theorem bytes_of (l : List UInt8) : (Enc.int .u8).flat (ints l) = byteCells l := by
  unfold Enc.flat ints byteCells Enc.int
  induction l with
  | nil => rfl
  | cons x r ih => simp at ih ⊢; exact ih
/-- The builder's text, where all that was there ahead of it is held. -/
theorem String_sp {w0 w : World} {b : Nat} {l : List UInt8} (H : St w0 (hpOf w0) w [bld b (ints l)]) : Calls Tryz.prog 16 #[.pointer (some ⟨b, 0, none⟩)] w (Ret fun v w' => v = .string ⟨l.toArray⟩ ∧ Ch [] w0 w') := by
  have hch := H.fin (hle_refl _)
  obtain ⟨p, H⟩ := H.ex
  obtain ⟨a, H⟩ := H.ex
  obtain ⟨c0, H⟩ := H.ex
  obtain ⟨hp, H⟩ := H.pure
  have H := H.flat
  have hb : w0.heap.size ≤ b := hpOf_none.1 (St.base H)
  have hrow : w.heap[b]? = some (.cells #[p, .slice a (ints l).length c0] 41 (0, 0)) := H.rowAt
  have hil : (ints l).length = l.length := by simp [ints]
  have hB : ∃ v, w.heap[b]? = some (.cells #[p, v] 41 (0, 0)) ∧ w.ownsRow w0.heap.size 5 1 v (byteCells l).length (byteCells l) ∧ v.ownBlock ≠ some b := by
    have hbl : (byteCells l).length = l.length := by simp [byteCells]
    refine ⟨_, hrow, ?_⟩
    have H3 := St.re (L' := [own (Enc.int .u8) 5 a c0 (ints l)]) H
    have ho := own_base H3 (fun i hi => hpOf_none.1 hi)
    unfold Own at ho
    rw [bytes_of] at ho
    rw [hbl, ← hil]
    refine ⟨ho, ?_⟩
    obtain ⟨_, ho⟩ := ho
    rcases ho with ⟨h1, _⟩ | ⟨g, cap, cur, h1, h2, h3, _⟩
    · rw [h1]; simp [Value.ownBlock]
    · rw [h1]
      simp only [Value.ownBlock, ne_eq, Option.some.injEq]
      intro e
      subst e
      rw [hrow] at h3
      simp only [Option.some.injEq, Obj.cells.injEq] at h3
      exact absurd h3.2.1 (by decide)
  refine (Tryz.Builder_String_any w0.heap.size b l w ?_ hch.size).mono ?_
  · obtain ⟨v, h1, h2, h3⟩ := hB
    rcases hp with rfl | rfl
    · exact .inl ⟨hb, v, h1, h2, h3⟩
    · exact .inr ⟨hb, v, h1, h2, h3⟩
  · rintro _ w' ⟨rfl, hbl⟩
    exact ⟨_, rfl, rfl, hbl.os.trans hch.os, hbl.tape.trans hch.tape, hbl.output.trans hch.output, Nat.le_trans hch.size hbl.size, fun i hi _ => (hbl.block i hi).trans (hch.block i hi (by simp))⟩
end Go.Proofs.YtllpiaedljoejaaGreatDoor
