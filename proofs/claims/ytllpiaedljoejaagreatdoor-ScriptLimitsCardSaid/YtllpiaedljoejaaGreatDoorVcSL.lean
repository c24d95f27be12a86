/- Separated memory: a state is parts that lie apart, beside what never changes. Conditions: none. -/
import Derived.Test.YtllpiaedljoejaaGreatDoorVcMem
namespace Go.Vc
set_option linter.unusedSimpArgs false
set_option linter.unusedVariables false

abbrev Hp := Nat → Option Obj
def hpOf (w : World) : Hp := fun b => w.heap[b]?
def hle (a b : Hp) : Prop := ∀ i o, a i = some o → b i = some o
def hdis (a b : Hp) : Prop := ∀ i, a i = none ∨ b i = none
def hun (a b : Hp) : Hp := fun i => match a i with | some o => some o | none => b i
def hemp : Hp := fun _ => none
abbrev HP := Hp → Prop
/-- The parts hold apart from each other. -/
def Sep : List HP → HP
  | [], _ => True
  | A :: L, h => ∃ a b : Hp, A a ∧ Sep L b ∧ hdis a b ∧ hle a h ∧ hle b h

theorem hle_refl (a : Hp) : hle a a := fun _ _ h => h
theorem hle_trans {a b c : Hp} (h : hle a b) (h2 : hle b c) : hle a c := fun i o e => h2 i o (h i o e)
theorem hle_none {a b : Hp} (h : hle a b) {i : Nat} (e : b i = none) : a i = none := by
  cases ha : a i with
  | none => rfl
  | some o => rw [h i o ha] at e; cases e
theorem hdis_mono {a b c d : Hp} (h : hdis a b) (h1 : hle c a) (h2 : hle d b) : hdis c d := fun i => (h i).imp (hle_none h1) (hle_none h2)
theorem hdis_symm {a b : Hp} (h : hdis a b) : hdis b a := fun i => (h i).symm
theorem hle_hun (a b : Hp) : hle a (hun a b) := fun i o h => by simp [hun, h]
theorem hle_hun2 {a b : Hp} (h : hdis a b) : hle b (hun a b) := fun i o e => by
  rcases h i with h | h
  · simp [hun, h, e]
  · rw [h] at e; cases e
theorem hun_le {a b h : Hp} (h1 : hle a h) (h2 : hle b h) : hle (hun a b) h := fun i o e => by
  unfold hun at e
  cases ha : a i with
  | none => rw [ha] at e; exact h2 i o e
  | some o' => rw [ha] at e; simp at e; subst e; exact h1 i _ ha
theorem hun_none {a b : Hp} {i : Nat} (h1 : a i = none) (h2 : b i = none) : hun a b i = none := by simp [hun, h1, h2]
theorem hdis_hun {a b c : Hp} (h1 : hdis a b) (h2 : hdis a c) : hdis a (hun b c) := fun i => by
  rcases h1 i with h | h
  · exact .inl h
  · rcases h2 i with h' | h'
    · exact .inl h'
    · exact .inr (hun_none h h')
theorem Sep.le {L : List HP} {h h' : Hp} (hs : Sep L h) (hl : hle h h') : Sep L h' := by
  cases L with
  | nil => trivial
  | cons A L => obtain ⟨a, b, h1, h2, h3, h4, h5⟩ := hs; exact ⟨a, b, h1, h2, h3, hle_trans h4 hl, hle_trans h5 hl⟩

inductive Foc : List HP → HP → List HP → Prop
  | hd {A : HP} {L : List HP} : Foc (A :: L) A L
  | tl {A B : HP} {L L' : List HP} (h : Foc L A L') : Foc (B :: L) A (B :: L')
theorem Sep.foc {L L' : List HP} {A : HP} (hf : Foc L A L') : ∀ {h : Hp}, Sep L h → Sep (A :: L') h := by
  induction hf with
  | hd => intro h hs; exact hs
  | tl _ ih =>
    intro h ⟨b0, r, h1, h2, h3, h4, h5⟩
    obtain ⟨a, r', k1, k2, k3, k4, k5⟩ := ih h2
    refine ⟨a, hun b0 r', k1, ⟨b0, r', h1, k2, hdis_mono h3 (hle_refl _) k5, hle_hun _ _, hle_hun2 (hdis_mono h3 (hle_refl _) k5)⟩, ?_, hle_trans k4 h5, hun_le h4 (hle_trans k5 h5)⟩
    exact hdis_hun (hdis_symm (hdis_mono h3 (hle_refl _) k4)) k3
theorem Sep.flat {L1 L : List HP} : ∀ {a r : Hp}, Sep L1 a → Sep L r → hdis a r → Sep (L1 ++ L) (hun a r) := by
  induction L1 with
  | nil => intro a r _ h hd; exact h.le (hle_hun2 hd)
  | cons A L1 ih =>
    intro a r ⟨a1, a2, h1, h2, h3, h4, h5⟩ hr hd
    have hd2 := hdis_mono hd h5 (hle_refl r)
    refine ⟨a1, hun a2 r, h1, ih h2 hr hd2, hdis_hun h3 (hdis_mono hd h4 (hle_refl r)), hle_trans h4 (hle_hun _ _), hun_le (hle_trans h5 (hle_hun _ _)) (hle_hun2 hd)⟩
theorem Sep.join {L1 L : List HP} : ∀ {B : Hp}, Sep (L1 ++ L) B → ∃ a r, Sep L1 a ∧ Sep L r ∧ hdis a r ∧ hle a B ∧ hle r B := by
  induction L1 with
  | nil => intro B h; exact ⟨hemp, B, trivial, h, fun _ => .inl rfl, fun _ _ h => (by cases h), hle_refl _⟩
  | cons A L1 ih =>
    intro B ⟨a1, b, h1, h2, h3, h4, h5⟩
    obtain ⟨a2, r, k1, k2, k3, k4, k5⟩ := ih h2
    have d := hdis_mono h3 (hle_refl _) k4
    refine ⟨hun a1 a2, r, ⟨a1, a2, h1, k1, d, hle_hun _ _, hle_hun2 d⟩, k2, ?_, hun_le h4 (hle_trans k4 h5), hle_trans k5 h5⟩
    exact hdis_symm (hdis_hun (hdis_symm (hdis_mono h3 (hle_refl _) k5)) (hdis_symm k3))

/-- The state: what never changes (m), and parts that lie apart. e: the world whose other features it has. -/
structure St (e : World) (m : Hp) (w : World) (L : List HP) : Prop where
  os : w.os = e.os
  tape : w.tape = e.tape
  output : w.output = e.output
  mem : ∃ B : Hp, hle m (hpOf w) ∧ Sep L B ∧ hdis m B ∧ hle B (hpOf w)

section
variable {e w w' : World} {m : Hp} {L L' L1 : List HP} {A A' B : HP}

theorem St.foc (H : St e m w L) (hf : Foc L A L') : St e m w (A :: L') :=
  ⟨H.os, H.tape, H.output, by obtain ⟨B, h1, h2, h3, h4⟩ := H.mem; exact ⟨B, h1, h2.foc hf, h3, h4⟩⟩
theorem St.drop (H : St e m w (A :: L)) : St e m w L :=
  ⟨H.os, H.tape, H.output, by obtain ⟨B, h1, ⟨a, b, k1, k2, k3, k4, k5⟩, h3, h4⟩ := H.mem; exact ⟨B, h1, k2.le k5, h3, h4⟩⟩
theorem St.get (H : St e m w (A :: L)) : ∃ a, A a ∧ hle a (hpOf w) := by
  obtain ⟨B, h1, ⟨a, b, k1, k2, k3, k4, k5⟩, h3, h4⟩ := H.mem; exact ⟨a, k1, hle_trans k4 h4⟩
theorem St.imp (H : St e m w (A :: L)) (h : ∀ a, A a → A' a) : St e m w (A' :: L) :=
  ⟨H.os, H.tape, H.output, by obtain ⟨B, h1, ⟨a, b, k1, k⟩, h3⟩ := H.mem; exact ⟨B, h1, ⟨a, b, h a k1, k⟩, h3⟩⟩
theorem St.ex {α : Sort _} {A : α → HP} (H : St e m w ((fun h => ∃ x, A x h) :: L)) : ∃ x, St e m w (A x :: L) := by
  obtain ⟨B, h1, ⟨a, b, ⟨x, k1⟩, k⟩, h3⟩ := H.mem
  exact ⟨x, H.os, H.tape, H.output, B, h1, ⟨a, b, k1, k⟩, h3⟩
theorem St.pure {p : Prop} (H : St e m w ((fun h => p ∧ A h) :: L)) : p ∧ St e m w (A :: L) := by
  obtain ⟨B, h1, ⟨a, b, ⟨x, k1⟩, k⟩, h3⟩ := H.mem
  exact ⟨x, H.os, H.tape, H.output, B, h1, ⟨a, b, k1, k⟩, h3⟩
theorem St.flat (H : St e m w (Sep L1 :: L)) : St e m w (L1 ++ L) :=
  ⟨H.os, H.tape, H.output, by
    obtain ⟨B, h1, ⟨a, b, k1, k2, k3, k4, k5⟩, h3, h4⟩ := H.mem
    exact ⟨B, h1, (Sep.flat k1 k2 k3).le (hun_le k4 k5), h3, h4⟩⟩
theorem St.join (H : St e m w (L1 ++ L)) : St e m w (Sep L1 :: L) :=
  ⟨H.os, H.tape, H.output, by
    obtain ⟨B, h1, h2, h3, h4⟩ := H.mem
    obtain ⟨a, r, k1, k2, k3, k4, k5⟩ := Sep.join h2
    exact ⟨B, h1, ⟨a, r, k1, k2, k3, k4, k5⟩, h3, h4⟩⟩
theorem St.both (H : St e m w (A :: B :: L)) : St e m w (Sep [A, B] :: L) := St.join (L1 := [A, B]) H
theorem St.cut (H : St e m w (L1 ++ L)) : St e m w L := H.join.drop
/-- One part and the world change. -/
theorem St.step (H : St e m w (A :: L)) (ho : w'.os = w.os) (ht : w'.tape = w.tape) (hu : w'.output = w.output)
    (h : ∀ a, A a → hle a (hpOf w) → ∃ a', A' a' ∧ hle a' (hpOf w') ∧ (∀ i, a' i ≠ none → a i ≠ none ∨ hpOf w i = none) ∧ (∀ i, a i = none → hpOf w i ≠ none → hpOf w' i = hpOf w i)) : St e m w' (A' :: L) := by
  obtain ⟨B, h1, ⟨a, r, k1, k2, k3, k4, k5⟩, h3, h4⟩ := H.mem
  obtain ⟨a', p1, p2, p3, p4⟩ := h a k1 (hle_trans k4 h4)
  have hr := hle_trans k5 h4
  have d1 : hdis a' r := fun i => by
    rcases Option.eq_none_or_eq_some (a' i) with h | ⟨o, h⟩
    · exact .inl h
    · right
      rcases p3 i (by rw [h]; simp) with q | q
      · exact (k3 i).resolve_left q
      · exact hle_none hr q
  have d2 : hdis m a' := fun i => by
    rcases Option.eq_none_or_eq_some (a' i) with h | ⟨o, h⟩
    · exact .inr h
    · left
      rcases p3 i (by rw [h]; simp) with q | q
      · exact (h3 i).resolve_right fun e => q (hle_none k4 e)
      · exact hle_none h1 q
  refine ⟨ho.trans H.os, ht.trans H.tape, hu.trans H.output, hun a' r, ?_, ⟨a', r, p1, k2, d1, hle_hun _ _, hle_hun2 d1⟩, hdis_hun d2 (hdis_mono h3 (hle_refl _) k5), hun_le p2 ?_⟩
  · intro i o hi
    rw [p4 i ?_ (by rw [h1 i o hi]; simp)]
    · exact h1 i o hi
    · exact hle_none k4 ((h3 i).resolve_left (by rw [hi]; simp))
  · intro i o hi
    rw [p4 i ?_ (by rw [hr i o hi]; simp)]
    · exact hr i o hi
    · exact (k3 i).resolve_right (by rw [hi]; simp)

def emp : HP := fun h => ∀ i, h i = none
theorem St.emp (H : St e m w L) : St e m w (emp :: L) :=
  ⟨H.os, H.tape, H.output, by obtain ⟨B, h1, h2, h3, h4⟩ := H.mem; exact ⟨B, h1, ⟨hemp, B, fun _ => rfl, h2, fun _ => .inl rfl, fun _ _ h => (by cases h), hle_refl _⟩, h3, h4⟩⟩
theorem hpOf_none {i : Nat} : hpOf w i = none ↔ w.heap.size ≤ i := by
  unfold hpOf; rw [Array.getElem?_eq_none_iff]
theorem hpOf_some {i : Nat} : hpOf w i ≠ none ↔ i < w.heap.size := by rw [Ne, hpOf_none]; omega
/-- The same, told by the blocks that may have changed. -/
theorem St.ch {D : List Nat} (H : St e m w (A :: L)) (hc : Ch D w w')
    (h : ∀ a, A a → hle a (hpOf w) → (∀ b ∈ D, a b ≠ none ∨ w.heap.size ≤ b) ∧ ∃ a', A' a' ∧ hle a' (hpOf w') ∧ ∀ i, a' i ≠ none → a i ≠ none ∨ w.heap.size ≤ i) : St e m w' (A' :: L) := by
  refine H.step hc.os hc.tape hc.output fun a ha hl => ?_
  obtain ⟨hD, a', p1, p2, p3⟩ := h a ha hl
  refine ⟨a', p1, p2, fun i hi => (p3 i hi).imp id fun h => hpOf_none.2 h, fun i hi hw => ?_⟩
  have hlt := hpOf_some.1 hw
  exact hc.block i hlt fun hm => by
    rcases hD i hm with h | h
    · exact h hi
    · omega
theorem St.ch0 (H : St e m w L) (hc : Ch [] w w') : St e m w' L :=
  (St.ch (A' := Go.Vc.emp) H.emp hc fun a ha _ => ⟨by simp, hemp, fun _ => rfl, (by intro i o h; cases h), fun i hi => absurd rfl hi⟩).drop

/-! ### Blocks -/
def blk (b : Nat) (o : Obj) : HP := fun h => h b = some o
def row (b : Nat) (t : TypeId) (cs : List Value) : HP := blk b (.cells cs.toArray t (0, 0))
def hone (b : Nat) (o : Obj) : Hp := fun i => if i = b then some o else none
theorem hone_self (b : Nat) (o : Obj) : hone b o b = some o := by simp [hone]
theorem hone_le {b : Nat} {o : Obj} {h : Hp} (e : h b = some o) : hle (hone b o) h := fun i o' hi => by
  unfold hone at hi; split at hi
  · rename_i he; subst he; rw [← hi]; exact e
  · cases hi
theorem hone_ne {b i : Nat} {o : Obj} (h : hone b o i ≠ none) : i = b := by
  unfold hone at h; split at h
  · assumption
  · exact absurd rfl h
theorem St.blkAt {b : Nat} {o : Obj} (H : St e m w (blk b o :: L)) : w.heap[b]? = some o := by
  obtain ⟨a, h1, h2⟩ := H.get; exact h2 b o h1
theorem St.rowAt {b : Nat} {t : TypeId} {cs : List Value} (H : St e m w (row b t cs :: L)) : Row w b t cs := H.blkAt
theorem St.newObj (H : St e m w L) (o : Obj) : St e m (w.alloc o) (blk w.heap.size o :: L) :=
  St.ch H.emp (Ch.alloc w o) fun a ha _ => ⟨by simp, hone w.heap.size o, hone_self _ _, hone_le (heap_alloc w o), fun i hi => .inr (by rw [hone_ne hi]; exact Nat.le_refl _)⟩
theorem St.new {cs : List Value} {t : TypeId} {K : Nat → World → Prop} (H : St e m w L) (h : ∀ b w', St e m w' (row b t cs :: L) → K b w') : newBlk w (.cells cs.toArray t (0, 0)) K :=
  h _ _ (H.newObj _)
theorem St.newMap {es : Array MapEntry} {n : Nat} {K : Nat → World → Prop} (H : St e m w L) (h : ∀ b w', St e m w' (blk b (.map es n) :: L) → K b w') : newBlk w (.map es n) K :=
  h _ _ (H.newObj _)
theorem St.store {b o : Nat} {t : TypeId} {cs vs : List Value} (H : St e m w (row b t cs :: L)) (ho : o + vs.length ≤ cs.length) : St e m (w.setCells b o vs) (row b t (splice cs o vs) :: L) := by
  have hr := H.rowAt
  refine St.ch H (Ch.setCells w b o vs) fun a ha _ => ⟨by simp; left; rw [show a b = _ from ha]; simp, hone b _, hone_self _ _, hone_le (Row.set vs o cs w hr ho), fun i hi => .inl ?_⟩
  rw [hone_ne hi, show a b = _ from ha]; simp
theorem St.drw {K : World → Prop} (H : St e m w L) (h : ∀ w', St e m w' L → K w') : drawC w K := h _ (H.ch0 (Ch.drew w))
theorem St.drwS (S : World → Prop) {K : (World → Prop) → World → Prop} (H : St e m w L) (hS : ∀ w', St e m w' L → S w') (h : ∀ w', St e m w' L → K S w') : ∃ S : World → Prop, S w.drew ∧ drawC w (K S) :=
  ⟨S, hS _ (H.ch0 (Ch.drew w)), h _ (H.ch0 (Ch.drew w))⟩

/-- The parts of L' are some of L. -/
inductive Sub : List HP → List HP → Prop
  | rfl {L : List HP} : Sub L L
  | nil {L : List HP} : Sub [] L
  | cons {A : HP} {L L' L1 : List HP} (h : Foc L A L1) (h2 : Sub L' L1) : Sub (A :: L') L
  | skip {B : HP} {L L' : List HP} (h : Sub L' L) : Sub L' (B :: L)
theorem Sep.sub {L L' : List HP} (hs : Sub L' L) : ∀ {h : Hp}, Sep L h → Sep L' h := by
  induction hs with
  | rfl => intro h hs; exact hs
  | nil => intro h _; trivial
  | cons hf _ ih =>
    intro h hs
    obtain ⟨a, b, k1, k2, k3⟩ := hs.foc hf
    exact ⟨a, b, k1, ih k2, k3⟩
  | skip _ ih =>
    intro h ⟨a, b, k1, k2, k3, k4, k5⟩
    exact (ih k2).le k5
theorem St.re (H : St e m w L) (hs : Sub L' L := by repeat (first | exact Sub.rfl | exact Sub.nil | refine Sub.cons (by (first | exact .hd | exact .tl .hd | exact .tl (.tl .hd) | exact .tl (.tl (.tl .hd)) | exact .tl (.tl (.tl (.tl .hd))) | exact .tl (.tl (.tl (.tl (.tl .hd)))) | exact .tl (.tl (.tl (.tl (.tl (.tl .hd))))) | exact .tl (.tl (.tl (.tl (.tl (.tl (.tl .hd)))))) | exact .tl (.tl (.tl (.tl (.tl (.tl (.tl (.tl .hd))))))) | exact .tl (.tl (.tl (.tl (.tl (.tl (.tl (.tl (.tl .hd)))))))) | exact .tl (.tl (.tl (.tl (.tl (.tl (.tl (.tl (.tl (.tl .hd))))))))) | exact .tl (.tl (.tl (.tl (.tl (.tl (.tl (.tl (.tl (.tl (.tl .hd)))))))))) | exact .tl (.tl (.tl (.tl (.tl (.tl (.tl (.tl (.tl (.tl (.tl (.tl .hd))))))))))) | exact .tl (.tl (.tl (.tl (.tl (.tl (.tl (.tl (.tl (.tl (.tl (.tl (.tl .hd)))))))))))) | exact .tl (.tl (.tl (.tl (.tl (.tl (.tl (.tl (.tl (.tl (.tl (.tl (.tl (.tl .hd))))))))))))) | exact .tl (.tl (.tl (.tl (.tl (.tl (.tl (.tl (.tl (.tl (.tl (.tl (.tl (.tl (.tl .hd)))))))))))))))) ?_ | refine Sub.skip ?_)) : St e m w L' :=
  ⟨H.os, H.tape, H.output, by obtain ⟨B, h1, h2, h3, h4⟩ := H.mem; exact ⟨B, h1, h2.sub hs, h3, h4⟩⟩
end
end Go.Vc
