/- Separated memory: slices of one's own, what never changes, and what another way of telling said. Conditions: none. -/
import Derived.Test.YtllpiaedljoejaaGreatDoorVcSL
namespace Go.Vc
set_option linter.unusedSimpArgs false
set_option linter.unusedVariables false

section
variable {e w w' : World} {m m' : Hp} {L L' L1 L2 : List HP} {A A' B A1 A2 A3 : HP}

theorem St.at_ (H : St e m w L) (hf : Foc L A L' := by (first | exact .hd | exact .tl .hd | exact .tl (.tl .hd) | exact .tl (.tl (.tl .hd)) | exact .tl (.tl (.tl (.tl .hd))) | exact .tl (.tl (.tl (.tl (.tl .hd)))) | exact .tl (.tl (.tl (.tl (.tl (.tl .hd))))) | exact .tl (.tl (.tl (.tl (.tl (.tl (.tl .hd)))))) | exact .tl (.tl (.tl (.tl (.tl (.tl (.tl (.tl .hd))))))) | exact .tl (.tl (.tl (.tl (.tl (.tl (.tl (.tl (.tl .hd)))))))) | exact .tl (.tl (.tl (.tl (.tl (.tl (.tl (.tl (.tl (.tl .hd))))))))) | exact .tl (.tl (.tl (.tl (.tl (.tl (.tl (.tl (.tl (.tl (.tl .hd)))))))))) | exact .tl (.tl (.tl (.tl (.tl (.tl (.tl (.tl (.tl (.tl (.tl (.tl .hd))))))))))) | exact .tl (.tl (.tl (.tl (.tl (.tl (.tl (.tl (.tl (.tl (.tl (.tl (.tl .hd)))))))))))) | exact .tl (.tl (.tl (.tl (.tl (.tl (.tl (.tl (.tl (.tl (.tl (.tl (.tl (.tl .hd))))))))))))) | exact .tl (.tl (.tl (.tl (.tl (.tl (.tl (.tl (.tl (.tl (.tl (.tl (.tl (.tl (.tl .hd)))))))))))))))) : St e m w (A :: L') := H.foc hf
theorem St.at2 (H : St e m w L) (hf : Foc L A1 L1 := by (first | exact .hd | exact .tl .hd | exact .tl (.tl .hd) | exact .tl (.tl (.tl .hd)) | exact .tl (.tl (.tl (.tl .hd))) | exact .tl (.tl (.tl (.tl (.tl .hd)))) | exact .tl (.tl (.tl (.tl (.tl (.tl .hd))))) | exact .tl (.tl (.tl (.tl (.tl (.tl (.tl .hd)))))) | exact .tl (.tl (.tl (.tl (.tl (.tl (.tl (.tl .hd))))))) | exact .tl (.tl (.tl (.tl (.tl (.tl (.tl (.tl (.tl .hd)))))))) | exact .tl (.tl (.tl (.tl (.tl (.tl (.tl (.tl (.tl (.tl .hd))))))))) | exact .tl (.tl (.tl (.tl (.tl (.tl (.tl (.tl (.tl (.tl (.tl .hd)))))))))) | exact .tl (.tl (.tl (.tl (.tl (.tl (.tl (.tl (.tl (.tl (.tl (.tl .hd))))))))))) | exact .tl (.tl (.tl (.tl (.tl (.tl (.tl (.tl (.tl (.tl (.tl (.tl (.tl .hd)))))))))))) | exact .tl (.tl (.tl (.tl (.tl (.tl (.tl (.tl (.tl (.tl (.tl (.tl (.tl (.tl .hd))))))))))))) | exact .tl (.tl (.tl (.tl (.tl (.tl (.tl (.tl (.tl (.tl (.tl (.tl (.tl (.tl (.tl .hd)))))))))))))))) (hf2 : Foc L1 A2 L2 := by (first | exact .hd | exact .tl .hd | exact .tl (.tl .hd) | exact .tl (.tl (.tl .hd)) | exact .tl (.tl (.tl (.tl .hd))) | exact .tl (.tl (.tl (.tl (.tl .hd)))) | exact .tl (.tl (.tl (.tl (.tl (.tl .hd))))) | exact .tl (.tl (.tl (.tl (.tl (.tl (.tl .hd)))))) | exact .tl (.tl (.tl (.tl (.tl (.tl (.tl (.tl .hd))))))) | exact .tl (.tl (.tl (.tl (.tl (.tl (.tl (.tl (.tl .hd)))))))) | exact .tl (.tl (.tl (.tl (.tl (.tl (.tl (.tl (.tl (.tl .hd))))))))) | exact .tl (.tl (.tl (.tl (.tl (.tl (.tl (.tl (.tl (.tl (.tl .hd)))))))))) | exact .tl (.tl (.tl (.tl (.tl (.tl (.tl (.tl (.tl (.tl (.tl (.tl .hd))))))))))) | exact .tl (.tl (.tl (.tl (.tl (.tl (.tl (.tl (.tl (.tl (.tl (.tl (.tl .hd)))))))))))) | exact .tl (.tl (.tl (.tl (.tl (.tl (.tl (.tl (.tl (.tl (.tl (.tl (.tl (.tl .hd))))))))))))) | exact .tl (.tl (.tl (.tl (.tl (.tl (.tl (.tl (.tl (.tl (.tl (.tl (.tl (.tl (.tl .hd)))))))))))))))) : St e m w (A1 :: A2 :: L2) :=
  ((H.foc hf).foc (.tl hf2)).foc (.tl .hd)
theorem St.ld {b o : Nat} {t : TypeId} {cs : List Value} {v : Value} (H : St e m w L) (hf : Foc L (row b t cs) L' := by (first | exact .hd | exact .tl .hd | exact .tl (.tl .hd) | exact .tl (.tl (.tl .hd)) | exact .tl (.tl (.tl (.tl .hd))) | exact .tl (.tl (.tl (.tl (.tl .hd)))) | exact .tl (.tl (.tl (.tl (.tl (.tl .hd))))) | exact .tl (.tl (.tl (.tl (.tl (.tl (.tl .hd)))))) | exact .tl (.tl (.tl (.tl (.tl (.tl (.tl (.tl .hd))))))) | exact .tl (.tl (.tl (.tl (.tl (.tl (.tl (.tl (.tl .hd)))))))) | exact .tl (.tl (.tl (.tl (.tl (.tl (.tl (.tl (.tl (.tl .hd))))))))) | exact .tl (.tl (.tl (.tl (.tl (.tl (.tl (.tl (.tl (.tl (.tl .hd)))))))))) | exact .tl (.tl (.tl (.tl (.tl (.tl (.tl (.tl (.tl (.tl (.tl (.tl .hd))))))))))) | exact .tl (.tl (.tl (.tl (.tl (.tl (.tl (.tl (.tl (.tl (.tl (.tl (.tl .hd)))))))))))) | exact .tl (.tl (.tl (.tl (.tl (.tl (.tl (.tl (.tl (.tl (.tl (.tl (.tl (.tl .hd))))))))))))) | exact .tl (.tl (.tl (.tl (.tl (.tl (.tl (.tl (.tl (.tl (.tl (.tl (.tl (.tl (.tl .hd)))))))))))))))) (hv : cs[o]? = some v := by rfl) : w.cell? ⟨b, o, none⟩ = some v :=
  (H.foc hf).rowAt.cell hv
theorem St.st {b o : Nat} {t : TypeId} {cs vs : List Value} {K : World → Prop} (H : St e m w L) (h : ∀ w', St e m w' (row b t (splice cs o vs) :: L') → K w')
    (hf : Foc L (row b t cs) L' := by (first | exact .hd | exact .tl .hd | exact .tl (.tl .hd) | exact .tl (.tl (.tl .hd)) | exact .tl (.tl (.tl (.tl .hd))) | exact .tl (.tl (.tl (.tl (.tl .hd)))) | exact .tl (.tl (.tl (.tl (.tl (.tl .hd))))) | exact .tl (.tl (.tl (.tl (.tl (.tl (.tl .hd)))))) | exact .tl (.tl (.tl (.tl (.tl (.tl (.tl (.tl .hd))))))) | exact .tl (.tl (.tl (.tl (.tl (.tl (.tl (.tl (.tl .hd)))))))) | exact .tl (.tl (.tl (.tl (.tl (.tl (.tl (.tl (.tl (.tl .hd))))))))) | exact .tl (.tl (.tl (.tl (.tl (.tl (.tl (.tl (.tl (.tl (.tl .hd)))))))))) | exact .tl (.tl (.tl (.tl (.tl (.tl (.tl (.tl (.tl (.tl (.tl (.tl .hd))))))))))) | exact .tl (.tl (.tl (.tl (.tl (.tl (.tl (.tl (.tl (.tl (.tl (.tl (.tl .hd)))))))))))) | exact .tl (.tl (.tl (.tl (.tl (.tl (.tl (.tl (.tl (.tl (.tl (.tl (.tl (.tl .hd))))))))))))) | exact .tl (.tl (.tl (.tl (.tl (.tl (.tl (.tl (.tl (.tl (.tl (.tl (.tl (.tl (.tl .hd)))))))))))))))) (ho : o + vs.length ≤ cs.length := by simp) : storeC w b o vs K :=
  ⟨(H.foc hf).rowAt.room ho, h _ ((H.foc hf).store ho)⟩

/-! ### Told by worlds -/
def asW (D : List Nat) (P : World → Prop) : HP := fun h => ∃ w, P w ∧ ∀ b ∈ D, h b = w.heap[b]? ∧ b < w.heap.size
def LocP (D : List Nat) (P : World → Prop) : Prop := ∀ w w' : World, P w → (∀ b ∈ D, w'.heap[b]? = w.heap[b]?) → P w'
theorem St.asOut {D : List Nat} {P : World → Prop} (H : St e m w (asW D P :: L)) (hl : LocP D P) : P w := by
  obtain ⟨a, ⟨w0, h1, h2⟩, h3⟩ := H.get
  refine hl w0 w h1 fun b hb => ?_
  obtain ⟨h4, h5⟩ := h2 b hb
  rw [Array.getElem?_eq_getElem h5] at h4 ⊢
  exact h3 b _ h4
theorem as_part {D D' : List Nat} {P : World → Prop} {w : World} (hP : P w) (hD : ∀ b ∈ D', b < w.heap.size) : ∃ a' : Hp, asW D' P a' ∧ hle a' (hpOf w) ∧ ∀ i, a' i ≠ none → i ∈ D' := by
  refine ⟨fun i => if i ∈ D' then w.heap[i]? else none, ⟨w, hP, fun b hb => ⟨by simp [hb], hD b hb⟩⟩, fun i o hi => ?_, fun i hi => ?_⟩
  · simp only at hi
    split at hi
    · exact hi
    · cases hi
  · simp only at hi
    split at hi
    · assumption
    · exact absurd rfl hi
theorem as_dom {D : List Nat} {P : World → Prop} {a : Hp} (h : asW D P a) : ∀ b ∈ D, a b ≠ none := by
  obtain ⟨w0, _, h2⟩ := h
  intro b hb
  obtain ⟨h4, h5⟩ := h2 b hb
  rw [h4, Array.getElem?_eq_getElem h5]; simp
theorem St.asIn {D D' D2 : List Nat} {P P' : World → Prop} (H : St e m w (asW D P :: L)) (hc : Ch D2 w w') (hP : P' w') (h2 : ∀ b ∈ D2, b ∈ D ∨ w.heap.size ≤ b) (hD : ∀ b ∈ D', (b ∈ D ∨ w.heap.size ≤ b) ∧ b < w'.heap.size) : St e m w' (asW D' P' :: L) := by
  refine St.ch H hc fun a ha hl => ⟨fun b hb => (h2 b hb).imp (as_dom ha b) id, ?_⟩
  obtain ⟨a', p1, p2, p3⟩ := as_part (D := D') (D' := D') hP (fun b hb => (hD b hb).2)
  exact ⟨a', p1, p2, fun i hi => (hD i (p3 i hi)).1.imp (as_dom ha i) id⟩
theorem St.asNew {D' : List Nat} {P' : World → Prop} (H : St e m w L) (hc : Ch [] w w') (hP : P' w') (hD : ∀ b ∈ D', w.heap.size ≤ b ∧ b < w'.heap.size) : St e m w' (asW D' P' :: L) := by
  refine St.ch H.emp hc fun a ha hl => ⟨by simp, ?_⟩
  obtain ⟨a', p1, p2, p3⟩ := as_part (D := D') (D' := D') hP (fun b hb => (hD b hb).2)
  exact ⟨a', p1, p2, fun i hi => .inr (hD i (p3 i hi)).1⟩

/-! ### What never changes -/
def mcell (m : Hp) (b o : Nat) : Option Value :=
  match m b with
  | some (.cells c _ _) => c[o]?
  | _ => none
theorem mcell_le {b o : Nat} {v : Value} (hl : hle m m') (h : mcell m b o = some v) : mcell m' b o = some v := by
  unfold mcell at h
  cases hb : m b with
  | none => rw [hb] at h; cases h
  | some x => rw [hb] at h; unfold mcell; rw [hl b x hb]; exact h
theorem mcell_hpOf (w : World) (b o : Nat) : mcell (hpOf w) b o = w.cell? ⟨b, o, none⟩ := by
  unfold mcell hpOf World.cell?
  cases h : w.heap[b]? with
  | none => rfl
  | some x => cases x <;> simp
def SlI {α : Type} (E : Enc α) (m : Hp) (a : Option Addr) (xs : List α) : Prop :=
  ∀ i x, xs[i]? = some x → ∃ b o, a = some ⟨b, o, none⟩ ∧ ∀ j v, (E.f x)[j]? = some v → mcell m b (o + i * E.k + j) = some v
variable {α : Type} {E : Enc α} {a : Option Addr} {c : Nat} {xs ys : List α} {t : TypeId}
theorem SlI.mono (h : SlI E m a xs) (hl : hle m m') : SlI E m' a xs := fun i x hx => by
  obtain ⟨b, o, h1, h2⟩ := h i x hx
  exact ⟨b, o, h1, fun j v hv => mcell_le hl (h2 j v hv)⟩
theorem SlI.nil : SlI E m a [] := fun i x h => by simp at h
theorem SlI.take {n : Nat} (h : SlI E m a xs) : SlI E m a (xs.take n) := fun i x hx => by
  rw [List.getElem?_take] at hx
  split at hx
  · exact h i x hx
  · cases hx
theorem SlI.cut {l : Nat} (h : SlI E m a xs) (hc : xs.length ≤ c) : SlI E m (cutBase a l c E.k) (xs.drop l) := by
  intro i x hx
  rw [List.getElem?_drop] at hx
  have hlt := (List.getElem?_eq_some_iff.1 hx).1
  obtain ⟨b, o, rfl, hcell⟩ := h _ x hx
  refine ⟨b, o + l * E.k, ?_, fun j v hv => ?_⟩
  · unfold cutBase; rw [if_neg (by omega)]; simp [addr_add]
  · have := hcell j v hv
    rw [Nat.add_mul] at this
    rw [show o + l * E.k + i * E.k + j = o + (l * E.k + i * E.k) + j by omega]; exact this
theorem SlR.sli (h : SlR E w a xs) : SlI E (hpOf w) a xs := fun i x hx => by
  obtain ⟨b, o, h1, h2⟩ := h i x hx
  exact ⟨b, o, h1, fun j v hv => by rw [mcell_hpOf]; exact h2 j v hv⟩
theorem SlR.of_le (h : SlI E m a xs) (hl : hle m (hpOf w)) : SlR E w a xs := fun i x hx => by
  obtain ⟨b, o, h1, h2⟩ := h i x hx
  exact ⟨b, o, h1, fun j v hv => by rw [← mcell_hpOf]; exact mcell_le hl (h2 j v hv)⟩
theorem St.le (H : St e m w L) : hle m (hpOf w) := by obtain ⟨B, h, _⟩ := H.mem; exact h
theorem St.sli (H : St e m w L) (h : SlI E m a xs) : SlR E w a xs := SlR.of_le h H.le
theorem St.mc {b o : Nat} {v : Value} (H : St e m w L) (h : mcell m b o = some v) : w.cell? ⟨b, o, none⟩ = some v := by
  rw [← mcell_hpOf]; exact mcell_le H.le h
theorem St.init (w : World) : St w (hpOf w) w [] := ⟨rfl, rfl, rfl, hemp, hle_refl _, trivial, fun _ => .inr rfl, fun _ _ h => by cases h⟩
theorem St.fin (H : St e m w L) (hm : hle (hpOf e) m) : Ch [] e w := by
  have hl := hle_trans hm H.le
  have hsz : e.heap.size ≤ w.heap.size := by
    rcases Nat.lt_or_ge w.heap.size e.heap.size with h | h
    · have h1 : hpOf e w.heap.size ≠ none := hpOf_some.2 h
      obtain ⟨o, ho⟩ := Option.ne_none_iff_exists'.1 h1
      have := hl _ _ ho
      have h2 : hpOf w w.heap.size = none := hpOf_none.2 (Nat.le_refl _)
      rw [h2] at this; cases this
    · exact h
  refine ⟨H.os, H.tape, H.output, hsz, fun b hb _ => ?_⟩
  have h1 : hpOf e b ≠ none := hpOf_some.2 hb
  obtain ⟨o, ho⟩ := Option.ne_none_iff_exists'.1 h1
  have := hl _ _ ho
  unfold hpOf at this ho
  rw [this, ho]
theorem St.freeze (H : St e m w (A :: L)) : ∃ m' a, A a ∧ hle a m' ∧ hle m m' ∧ St e m' w L := by
  obtain ⟨B, h1, ⟨a, r, k1, k2, k3, k4, k5⟩, h3, h4⟩ := H.mem
  have d := hdis_mono h3 (hle_refl _) k4
  refine ⟨hun m a, a, k1, hle_hun2 d, hle_hun _ _, H.os, H.tape, H.output, r, hun_le h1 (hle_trans k4 h4), k2, ?_, hle_trans k5 h4⟩
  exact hdis_symm (hdis_hun (hdis_symm (hdis_mono h3 (hle_refl _) k5)) (hdis_symm k3))
theorem St.rowFreeze {b : Nat} {cs : List Value} (H : St e m w (row b t cs :: L)) : ∃ m', hle m m' ∧ (∀ o v, cs[o]? = some v → mcell m' b o = some v) ∧ St e m' w L := by
  obtain ⟨m', a, h1, h2, h3, h4⟩ := H.freeze
  refine ⟨m', h3, fun o v hv => ?_, h4⟩
  unfold mcell
  rw [h2 b _ h1]; simpa using hv
theorem SlI.row {b : Nat} (h : ∀ o v, (E.flat xs)[o]? = some v → mcell m b o = some v) : SlI E m (some ⟨b, 0, none⟩) xs :=
  fun i x hx => ⟨b, 0, rfl, fun j v hv => by rw [Nat.zero_add]; exact h _ _ (E.flat_get xs i j x v hx hv)⟩

/-! ### A slice that one may let grow -/
def own {α : Type} (E : Enc α) (t : TypeId) (a : Option Addr) (c : Nat) (xs : List α) : HP := fun h =>
  (a = none ∧ c = 0 ∧ xs = []) ∨ ∃ g cur, a = some ⟨g, 0, none⟩ ∧ h g = some (.cells cur t (0, 0)) ∧ xs.length ≤ c ∧ c ≤ maxLen ∧ cur.size = c * E.k ∧ cur.toList.take (xs.length * E.k) = E.flat xs
theorem own_le {h h' : Hp} (ho : own E t a c xs h) (hl : hle h h') : own E t a c xs h' := by
  rcases ho with ho | ⟨g, cur, h1, h2, h3⟩
  · exact .inl ho
  · exact .inr ⟨g, cur, h1, hl _ _ h2, h3⟩
theorem own_Own (h : own E t a c xs (hpOf w)) : Own E t 0 w a c xs := by
  refine ⟨E.flat_length xs, ?_⟩
  rcases h with ⟨rfl, rfl, rfl⟩ | ⟨g, cur, rfl, h2, h3, h4, h5, h6⟩
  · exact .inl ⟨rfl, rfl⟩
  · exact .inr ⟨g, c, cur, rfl, Nat.zero_le _, h2, h3, h4, h5, h6⟩
theorem Own_own {base : Nat} (h : Own E t base w a c xs) : own E t a c xs (hpOf w) := by
  obtain ⟨_, h | ⟨g, cap, cur, hv, hb, h2, h3, h4, h5, h6⟩⟩ := h
  · simp only [Value.slice.injEq] at h
    exact .inl ⟨h.1.1, h.1.2.2, List.eq_nil_of_length_eq_zero h.2⟩
  · simp only [Value.slice.injEq] at hv
    obtain ⟨rfl, _, rfl⟩ := hv
    exact .inr ⟨g, cur, rfl, h2, h3, h4, h5, h6⟩
theorem St.ownOut (H : St e m w (own E t a c xs :: L)) : Own E t 0 w a c xs := by
  obtain ⟨p, h1, h2⟩ := H.get
  exact own_Own (own_le h1 h2)
theorem own_part (h : own E t a c xs (hpOf w)) : ∃ a', own E t a c xs a' ∧ hle a' (hpOf w) ∧ ∀ i, a' i ≠ none → a ≠ none ∧ i = pb a := by
  rcases h with h | ⟨g, cur, rfl, h2, h3⟩
  · exact ⟨hemp, .inl h, fun i o h => (by cases h), fun i hi => absurd rfl hi⟩
  · exact ⟨hone g _, .inr ⟨g, cur, rfl, hone_self _ _, h3⟩, hone_le h2, fun i hi => ⟨by simp, hone_ne hi⟩⟩
theorem St.ownIn {base : Nat} (H : St e m w L) (hc : Ch [] w w') (ho : Own E t base w' a c xs) (hb : w.heap.size ≤ base) : St e m w' (own E t a c xs :: L) := by
  refine St.ch H.emp hc fun p hp hl => ⟨by simp, ?_⟩
  obtain ⟨a', p1, p2, p3⟩ := own_part (Own_own ho)
  refine ⟨a', p1, p2, fun i hi => .inr ?_⟩
  obtain ⟨h1, rfl⟩ := p3 i hi
  exact Nat.le_trans hb (ho.base.resolve_left h1)
theorem St.ownNil (H : St e m w L) (E : Enc α) (t : TypeId) : St e m w (own E t none 0 [] :: L) := H.emp.imp fun _ _ => .inl ⟨rfl, rfl, rfl⟩
theorem own_row {b : Nat} {h : Hp} (hr : row b t (E.flat xs) h) (hl : xs.length ≤ maxLen) : own E t (some ⟨b, 0, none⟩) xs.length xs h :=
  .inr ⟨b, (E.flat xs).toArray, rfl, hr, Nat.le_refl _, hl, by simp [E.flat_length], by simp [← E.flat_length]⟩
theorem St.rowOwn {b : Nat} (H : St e m w (row b t (E.flat xs) :: L)) (hl : xs.length ≤ maxLen) : St e m w (own E t (some ⟨b, 0, none⟩) xs.length xs :: L) :=
  H.imp fun h hr => own_row hr hl
theorem own_cap {h : Hp} (ho : own E t a c xs h) : xs.length ≤ c := by
  rcases ho with ⟨_, _, rfl⟩ | ⟨g, cur, _, _, h3, _⟩
  · exact Nat.zero_le _
  · exact h3
theorem St.ownCap (H : St e m w (own E t a c xs :: L)) : xs.length ≤ c := by
  obtain ⟨p, h1, h2⟩ := H.get; exact own_cap h1
theorem St.ownFreeze (H : St e m w (own E t a c xs :: L)) : ∃ m', hle m m' ∧ SlI E m' a xs ∧ xs.length ≤ c ∧ St e m' w L := by
  obtain ⟨m', p, h1, h2, h3, h4⟩ := H.freeze
  refine ⟨m', h3, ?_, own_cap h1, h4⟩
  rcases own_le h1 h2 with ⟨_, _, rfl⟩ | ⟨g, cur, rfl, hg, hle, _, hs, ht⟩
  · exact SlI.nil
  · intro i x hx
    refine ⟨g, 0, rfl, fun j v hv => ?_⟩
    have := E.flat_get xs i j x v hx hv
    rw [← ht] at this
    have hlt : i * E.k + j < xs.length * E.k := by
      have h1 := (List.getElem?_eq_some_iff.1 this).1
      simp at h1; omega
    rw [List.getElem?_take, if_pos hlt] at this
    unfold mcell
    rw [hg, Nat.zero_add]; simpa using this
theorem St.osl (H : St e m w L) (hf : Foc L (own E t a c xs) L' := by (first | exact .hd | exact .tl .hd | exact .tl (.tl .hd) | exact .tl (.tl (.tl .hd)) | exact .tl (.tl (.tl (.tl .hd))) | exact .tl (.tl (.tl (.tl (.tl .hd)))) | exact .tl (.tl (.tl (.tl (.tl (.tl .hd))))) | exact .tl (.tl (.tl (.tl (.tl (.tl (.tl .hd)))))) | exact .tl (.tl (.tl (.tl (.tl (.tl (.tl (.tl .hd))))))) | exact .tl (.tl (.tl (.tl (.tl (.tl (.tl (.tl (.tl .hd)))))))) | exact .tl (.tl (.tl (.tl (.tl (.tl (.tl (.tl (.tl (.tl .hd))))))))) | exact .tl (.tl (.tl (.tl (.tl (.tl (.tl (.tl (.tl (.tl (.tl .hd)))))))))) | exact .tl (.tl (.tl (.tl (.tl (.tl (.tl (.tl (.tl (.tl (.tl (.tl .hd))))))))))) | exact .tl (.tl (.tl (.tl (.tl (.tl (.tl (.tl (.tl (.tl (.tl (.tl (.tl .hd)))))))))))) | exact .tl (.tl (.tl (.tl (.tl (.tl (.tl (.tl (.tl (.tl (.tl (.tl (.tl (.tl .hd))))))))))))) | exact .tl (.tl (.tl (.tl (.tl (.tl (.tl (.tl (.tl (.tl (.tl (.tl (.tl (.tl (.tl .hd)))))))))))))))) : SlR E w a xs := (H.foc hf).ownOut.slr
theorem St.ownNone (H : St e m w (own E t none c xs :: L)) : c = 0 ∧ xs = [] := by
  obtain ⟨p, h1, h2⟩ := H.get
  rcases h1 with ⟨_, h⟩ | ⟨g, cur, h, _⟩
  · exact h
  · cases h
/-- The row that it lies in; what is behind its elements stays. -/
theorem St.ownRow (H : St e m w (own E t a c xs :: L)) (hne : xs ≠ []) : ∃ g tl, a = some ⟨g, 0, none⟩ ∧ tl.length = (c - xs.length) * E.k ∧ xs.length ≤ c ∧ c ≤ maxLen ∧ St e m w (row g t (E.flat xs ++ tl) :: L) := by
  have h2 : St e m w ((fun h => ∃ p : Nat × List Value, a = some ⟨p.1, 0, none⟩ ∧ (p.2.length = (c - xs.length) * E.k ∧ (xs.length ≤ c ∧ (c ≤ maxLen ∧ row p.1 t (E.flat xs ++ p.2) h)))) :: L) := by
    refine H.imp fun h ho => ?_
    rcases ho with ⟨_, _, rfl⟩ | ⟨g, cur, rfl, hg, h3, h4, h5, h6⟩
    · exact absurd rfl hne
    · refine ⟨(g, cur.toList.drop (xs.length * E.k)), rfl, ?_, h3, h4, ?_⟩
      · simp [h5, Nat.sub_mul]
      · unfold row blk
        rw [hg, ← h6, List.take_append_drop]
  obtain ⟨⟨g, tl⟩, h2⟩ := h2.ex
  obtain ⟨p1, h2⟩ := h2.pure
  obtain ⟨p2, h2⟩ := h2.pure
  obtain ⟨p3, h2⟩ := h2.pure
  obtain ⟨p4, h2⟩ := h2.pure
  exact ⟨g, tl, p1, p2, p3, p4, h2⟩
theorem St.rowOwn2 {g : Nat} {tl : List Value} (H : St e m w (row g t (E.flat xs ++ tl) :: L)) (ht : tl.length = (c - xs.length) * E.k) (h1 : xs.length ≤ c) (h2 : c ≤ maxLen) : St e m w (own E t (some ⟨g, 0, none⟩) c xs :: L) :=
  H.imp fun h hr => .inr ⟨g, (E.flat xs ++ tl).toArray, rfl, hr, h1, h2, by simp [E.flat_length, ht, ← Nat.add_mul]; congr 1; omega, by simp [← E.flat_length]⟩
/-- An element is set anew, or a part of it. -/
theorem St.setEl {g i j o : Nat} {x x' : α} {vs : List Value} {K : World → Prop} (H : St e m w (own E t (some ⟨g, 0, none⟩) c xs :: L)) (hx : xs[i]? = some x) (ho : o = i * E.k + j)
    (hj : j + vs.length ≤ E.k) (hs : splice (E.f x) j vs = E.f x') (h : ∀ w', St e m w' (own E t (some ⟨g, 0, none⟩) c (xs.set i x') :: L) → K w') : storeC w g o vs K := by
  subst ho
  obtain ⟨hlt, he⟩ := List.getElem?_eq_some_iff.1 hx
  obtain ⟨g', tl, hg, p2, p3, p4, H⟩ := H.ownRow (by intro e; subst e; simp at hx)
  simp at hg; subst hg
  have hk := E.pos
  have hb : (i + 1) * E.k ≤ xs.length * E.k := Nat.mul_le_mul_right _ hlt
  rw [Nat.add_mul, Nat.one_mul] at hb
  have hfit : i * E.k + j + vs.length ≤ (E.flat xs ++ tl).length := by rw [List.length_append, E.flat_length]; omega
  refine ⟨H.rowAt.room hfit, h _ ?_⟩
  have H2 := H.store hfit
  have e2 : splice (E.flat xs ++ tl) (i * E.k + j) vs = E.flat (xs.set i x') ++ tl := by
    rw [← E.flat_set hlt x' tl, ← hs]
    have hxl : (E.f x).length = E.k := E.len x
    have h0 : (E.flat xs ++ tl).length = xs.length * E.k + tl.length := by rw [List.length_append, E.flat_length]
    apply List.ext_getElem?
    intro n
    have gx : ∀ q, q < E.k → (E.flat xs ++ tl)[i * E.k + q]? = (E.f x)[q]? := fun q hq => by
      obtain ⟨v, hv⟩ : ∃ v, (E.f x)[q]? = some v := ⟨(E.f x)[q]'(by omega), List.getElem?_eq_getElem _⟩
      rw [hv]
      have := E.flat_get xs i q x v hx hv
      rw [List.getElem?_append_left ((List.getElem?_eq_some_iff.1 this).1)]; exact this
    have sp : ∀ (l : List Value) (o : Nat) (vs : List Value) (n : Nat), o + vs.length ≤ l.length → (splice l o vs)[n]? = if n < o then l[n]? else if n < o + vs.length then vs[n - o]? else l[n]? := by
      intro l o vs n hl
      unfold splice
      have hto : (l.take o).length = o := by simp; omega
      by_cases h1 : n < o
      · rw [if_pos h1, List.append_assoc, List.getElem?_append_left (by omega), List.getElem?_take, if_pos h1]
      · rw [if_neg h1]
        by_cases h2 : n < o + vs.length
        · rw [if_pos h2, List.append_assoc, List.getElem?_append_right (by omega), hto, List.getElem?_append_left (by omega)]
        · rw [if_neg h2, List.getElem?_append_right (by simp; omega), List.getElem?_drop]
          congr 1; simp; omega
    have hsl : (splice (E.f x) j vs).length = E.k := by rw [hs]; exact E.len x'
    rw [sp _ _ _ _ hfit, sp _ _ _ _ (by rw [hsl, h0]; omega), hsl]
    have sp2 := sp (E.f x) j vs (n - i * E.k) (by rw [hxl]; exact hj)
    by_cases h1 : n < i * E.k
    · rw [if_pos h1, if_pos (show n < i * E.k + j by omega)]
    · rw [if_neg h1]
      by_cases h2 : n < i * E.k + E.k
      · rw [if_pos h2, sp2]
        have eq : n = i * E.k + (n - i * E.k) := by omega
        by_cases h3 : n < i * E.k + j
        · rw [if_pos h3, if_pos (show n - i * E.k < j by omega)]
          rw [← gx _ (by omega), ← eq]
        · rw [if_neg h3, if_neg (show ¬ n - i * E.k < j by omega)]
          by_cases h4 : n < i * E.k + j + vs.length
          · rw [if_pos h4, if_pos (show n - i * E.k < j + vs.length by omega)]; congr 1; omega
          · rw [if_neg h4, if_neg (show ¬ n - i * E.k < j + vs.length by omega), ← gx _ (by omega), ← eq]
      · rw [if_neg h2, if_neg (show ¬ n < i * E.k + j by omega), if_neg (show ¬ n < i * E.k + j + vs.length by omega)]
  rw [e2] at H2
  exact H2.rowOwn2 (by simpa using p2) (by simpa using p3) p4
end

section
variable {e w : World} {m : Hp} {L L' : List HP} {α : Type} {E : Enc α} {a a2 : Option Addr} {c c2 : Nat} {xs ys : List α} {t st : TypeId} {P : Program}
theorem own_app {ty : TypeId} {bytes : Nat} (hT : ElT P st t E bytes) (H : St e m w (own E t a c xs :: L)) (hy : SlR E w a2 ys) (hn : xs.length + ys.length ≤ 1000000000) (hb : bytes ≤ 100000) :
    ∃ a' c' w', (Builtin.append_ #[st, st] ty #[.slice a xs.length c, .slice a2 ys.length c2]).run P w = .ok (.slice a' (xs.length + ys.length) c') w' ∧ St e m w' (own E t a' c' (xs ++ ys) :: L) := by
  have hown := H.ownOut
  have hcap := H.ownCap
  have hmx : xs.length + ys.length ≤ maxLen := by simp only [maxLen]; omega
  have hby : (xs.length + ys.length) * bytes ≤ 140737488355328 := Nat.le_trans (Nat.mul_le_mul hn hb) (by decide)
  obtain ⟨ht, i, z, hi, hz, hsz, hby2, hzc⟩ := hT
  have nil : ys = [] → ∃ a' c' w', (Builtin.append_ #[st, st] ty #[.slice a xs.length c, .slice a2 ys.length c2]).run P w = .ok (.slice a' (xs.length + ys.length) c') w' ∧ St e m w' (own E t a' c' (xs ++ ys) :: L) := by
    rintro rfl
    refine ⟨a, c, w, ?_, by simpa using H⟩
    cases a2 with
    | none => cases a <;> simp [Builtin.append_, run_underlying ht, sizeOf, typeInfo, hi, Builtin.lenOf, Builtin.firstCells, hcap, storeCells]
    | some ad => cases a <;> simp [Builtin.append_, run_underlying ht, sizeOf, typeInfo, hi, Builtin.lenOf, Builtin.firstCells, loadCells, loadCellsFrom, hcap, storeCells]
  by_cases hy0 : ys = []
  · exact nil hy0
  obtain ⟨y, hyy⟩ : ∃ y, ys[0]? = some y := by cases ys with | nil => exact absurd rfl hy0 | cons y r => exact ⟨y, rfl⟩
  obtain ⟨b, o, rfl, _⟩ := hy 0 y hyy
  have hk := E.pos
  have news : ∀ j u, (E.flat ys)[j]? = some u → w.cell? ((⟨b, o, none⟩ : Addr).add j) = some u := fun j u hu => by
    have hlt := (List.getElem?_eq_some_iff.1 hu).1
    rw [E.flat_length] at hlt
    have hi' : j / E.k < ys.length := (Nat.div_lt_iff_lt_mul hk).2 hlt
    obtain ⟨b', o', ha, hc⟩ := hy (j / E.k) ys[j / E.k] (by simp [hi'])
    simp only [Option.some.injEq, Addr.mk.injEq, and_true] at ha
    obtain ⟨rfl, rfl⟩ := ha
    have hmod : j % E.k < (E.f ys[j / E.k]).length := by rw [E.len]; exact Nat.mod_lt _ hk
    have hg := E.flat_get ys (j / E.k) (j % E.k) ys[j / E.k] (E.f ys[j / E.k])[j % E.k] (by simp [hi']) (by simp [hmod])
    rw [Nat.div_add_mod' j E.k] at hg
    rw [hu] at hg
    have := hc (j % E.k) _ (List.getElem?_eq_some_iff.2 ⟨hmod, rfl⟩)
    rw [← Option.some.inj hg] at this
    rw [addr_add, show o + j = o + j / E.k * E.k + j % E.k by rw [Nat.add_assoc, Nat.div_add_mod' j E.k]]
    exact this
  have hyl : (E.flat ys).length = ys.length * i.size := by rw [hsz]; exact E.flat_length ys
  have hylen : 0 < ys.length := by cases ys with | nil => exact absurd rfl hy0 | cons y r => simp
  -- into a new block
  have grown : ∀ (old : Nat), old < xs.length + ys.length →
      St e m (w.drew.alloc (.cells ((E.flat xs).toArray ++ (E.flat ys).toArray ++ Builtin.zeroCells z.cells (grownCap w (xs.length + ys.length) old t - (xs.length + ys.length))) t))
        (own E t (some ⟨w.heap.size, 0, none⟩) (grownCap w (xs.length + ys.length) old t) (xs ++ ys) :: L) := by
    intro old ho
    have hge := grownCap_ge w (xs.length + ys.length) old t
    have hcm : grownCap w (xs.length + ys.length) old t ≤ maxLen := grownCap_le_maxLen w (xs.length + ys.length) old t hmx
    refine ((H.drop.ch0 (Ch.drew w)).newObj _).imp fun h hb => .inr ⟨w.heap.size, _, rfl, hb, by simpa using hge, hcm, ?_, ?_⟩
    · simp only [Array.size_append, List.size_toArray, size_zeroCells, hzc, E.flat_length, ← Nat.add_mul]
      congr 1; omega
    · have hl : (xs ++ ys).length * E.k = (E.flat xs ++ E.flat ys).length := by rw [← E.flat_append, E.flat_length]
      rw [hl, E.flat_append]
      simp only [Array.toList_append, List.append_assoc]
      rw [← List.append_assoc]
      exact List.take_left
  obtain ⟨_, hnil | ⟨g, cap, cur, hv, _, hg, hnc, hcm, hcs, htake⟩⟩ := hown
  · simp only [Value.slice.injEq] at hnil
    obtain ⟨⟨rfl, _, rfl⟩, hx0⟩ := hnil
    have hx : xs = [] := List.eq_nil_of_length_eq_zero hx0
    subst hx
    have hr := run_append_nil (P := P) w st ty t i z ht hi hz ⟨b, o, none⟩ ys.length c2 (E.flat ys) hyl news hylen (by simp only [maxLen] at hmx; simp at hmx; omega) (by rw [hby2]; simp at hby; omega)
    have hgr := grown 0 (by simpa using hylen)
    simp only [List.length_nil, Nat.zero_add, List.nil_append, Enc.flat, List.flatMap_nil, Array.empty_append] at hgr hr ⊢
    exact ⟨_, _, _, hr, by simpa using hgr⟩
  · simp only [Value.slice.injEq] at hv
    obtain ⟨rfl, _, rfl⟩ := hv
    by_cases hroom : xs.length + ys.length ≤ c
    · have hfit : xs.length * i.size + (E.flat ys).length ≤ cur.size := by rw [hyl, hcs, hsz, ← Nat.add_mul]; exact Nat.mul_le_mul_right _ hroom
      have hr := run_append_room (P := P) w st ty t i ht hi g xs.length c cur hg ⟨b, o, none⟩ ys.length c2 (E.flat ys) hyl news (E.flat_one ys) hroom hfit
      refine ⟨_, _, _, hr, ?_⟩
      refine St.step H rfl rfl rfl fun p hp hl => ?_
      have hpg : p g = some (.cells cur t (0, 0)) := by
        rcases hp with ⟨h, _⟩ | ⟨g', cur', h1, h2, _⟩
        · cases h
        · simp at h1; subst h1
          have := hl _ _ h2
          unfold hpOf at this
          rw [hg] at this
          rw [h2, this]
      refine ⟨hone g _, .inr ⟨g, _, rfl, hone_self _ _, by simpa using hroom, hcm, ?_, ?_⟩, hone_le (setRow_heap w g cur _ t _ hg), fun i hi => .inl ?_, fun i hi hw => ?_⟩
      · simp only [List.size_toArray, List.length_append, List.length_take, List.length_drop, Array.length_toList]
        omega
      · have hl : (xs ++ ys).length * E.k = (E.flat xs ++ E.flat ys).length := by rw [← E.flat_append, E.flat_length]
        rw [hl, E.flat_append]
        rw [hsz, htake]
        exact List.take_left
      · rw [hone_ne hi, hpg]; simp
      · exact setRow_other w g i _ (fun e => by subst e; rw [hpg] at hi; cases hi)
    · have holds : ∀ j u, (E.flat xs)[j]? = some u → w.cell? ((⟨g, 0, none⟩ : Addr).add j) = some u := by
        intro j u hu
        rw [addr_add, Nat.zero_add]
        rw [← htake, List.getElem?_take] at hu
        split at hu
        · simp only [World.cell?, hg]; simpa using hu
        · cases hu
      have hr := run_append_grow (P := P) w st ty t i z ht hi hz ⟨g, 0, none⟩ xs.length c (E.flat xs) (by rw [hsz]; exact E.flat_length xs) holds ⟨b, o, none⟩ ys.length c2 (E.flat ys) hyl news (by omega) (by simp only [maxLen] at hmx; omega) (growslice_fits (by omega) (by rw [hby2]; exact hby))
      exact ⟨_, _, _, hr, grown c (by omega)⟩

/-- append, as a formula has it. -/
theorem St.app {ty : TypeId} {bytes n n2 : Nat} {K : Option Addr → Nat → Nat → World → Prop} (H : St e m w L) (hT : ElT P st t E bytes) (hy : SlR E w a2 ys)
    (h : ∀ a' c' w', St e m w' (own E t a' c' (xs ++ ys) :: L') → K a' (xs ++ ys).length c' w')
    (hf : Foc L (own E t a c xs) L' := by (first | exact .hd | exact .tl .hd | exact .tl (.tl .hd) | exact .tl (.tl (.tl .hd)) | exact .tl (.tl (.tl (.tl .hd))) | exact .tl (.tl (.tl (.tl (.tl .hd)))) | exact .tl (.tl (.tl (.tl (.tl (.tl .hd))))) | exact .tl (.tl (.tl (.tl (.tl (.tl (.tl .hd)))))) | exact .tl (.tl (.tl (.tl (.tl (.tl (.tl (.tl .hd))))))) | exact .tl (.tl (.tl (.tl (.tl (.tl (.tl (.tl (.tl .hd)))))))) | exact .tl (.tl (.tl (.tl (.tl (.tl (.tl (.tl (.tl (.tl .hd))))))))) | exact .tl (.tl (.tl (.tl (.tl (.tl (.tl (.tl (.tl (.tl (.tl .hd)))))))))) | exact .tl (.tl (.tl (.tl (.tl (.tl (.tl (.tl (.tl (.tl (.tl (.tl .hd))))))))))) | exact .tl (.tl (.tl (.tl (.tl (.tl (.tl (.tl (.tl (.tl (.tl (.tl (.tl .hd)))))))))))) | exact .tl (.tl (.tl (.tl (.tl (.tl (.tl (.tl (.tl (.tl (.tl (.tl (.tl (.tl .hd))))))))))))) | exact .tl (.tl (.tl (.tl (.tl (.tl (.tl (.tl (.tl (.tl (.tl (.tl (.tl (.tl (.tl .hd)))))))))))))))) (hn : xs.length + ys.length ≤ 1000000000 := by first | omega | (simp; done) | (simp; omega)) (hb : bytes ≤ 100000 := by decide) (h1 : n = xs.length := by first | rfl | (simp; done) | (simp; omega)) (h2 : n2 = ys.length := by first | rfl | (simp; done) | (simp; omega)) :
    ∃ (A : Option Addr) (N C : Nat) (w2 : World), (Builtin.append_ #[st, st] ty #[.slice a n c, .slice a2 n2 c2]).run P w = .ok (.slice A N C) w2 ∧ K A N C w2 := by
  subst h1; subst h2
  obtain ⟨a', c', w', hr, H2⟩ := own_app (ty := ty) (c2 := c2) hT (H.foc hf) hy hn hb
  exact ⟨a', _, c', w', hr, by have := h a' c' w' H2; rw [List.length_append] at this; exact this⟩
/-- append of one element. -/
theorem St.app1 {ty : TypeId} {bytes n : Nat} {K : Nat → Option Addr → Nat → Nat → World → Prop} (H : St e m w L) (hT : ElT P st t E bytes) (x : α)
    (h : ∀ b a' c' w', St e m w' (own E t a' c' (xs ++ [x]) :: L') → K b a' (xs ++ [x]).length c' w')
    (hf : Foc L (own E t a c xs) L' := by (first | exact .hd | exact .tl .hd | exact .tl (.tl .hd) | exact .tl (.tl (.tl .hd)) | exact .tl (.tl (.tl (.tl .hd))) | exact .tl (.tl (.tl (.tl (.tl .hd)))) | exact .tl (.tl (.tl (.tl (.tl (.tl .hd))))) | exact .tl (.tl (.tl (.tl (.tl (.tl (.tl .hd)))))) | exact .tl (.tl (.tl (.tl (.tl (.tl (.tl (.tl .hd))))))) | exact .tl (.tl (.tl (.tl (.tl (.tl (.tl (.tl (.tl .hd)))))))) | exact .tl (.tl (.tl (.tl (.tl (.tl (.tl (.tl (.tl (.tl .hd))))))))) | exact .tl (.tl (.tl (.tl (.tl (.tl (.tl (.tl (.tl (.tl (.tl .hd)))))))))) | exact .tl (.tl (.tl (.tl (.tl (.tl (.tl (.tl (.tl (.tl (.tl (.tl .hd))))))))))) | exact .tl (.tl (.tl (.tl (.tl (.tl (.tl (.tl (.tl (.tl (.tl (.tl (.tl .hd)))))))))))) | exact .tl (.tl (.tl (.tl (.tl (.tl (.tl (.tl (.tl (.tl (.tl (.tl (.tl (.tl .hd))))))))))))) | exact .tl (.tl (.tl (.tl (.tl (.tl (.tl (.tl (.tl (.tl (.tl (.tl (.tl (.tl (.tl .hd)))))))))))))))) (hn : xs.length + 1 ≤ 1000000000 := by first | omega | (simp; done) | (simp; omega)) (hb : bytes ≤ 100000 := by decide) (h1 : n = xs.length := by first | rfl | (simp; done) | (simp; omega)) {cs : Array Value} (hcs : cs = (E.f x).toArray := by rfl) :
    newBlk w (.cells cs t (0, 0)) fun b w1 => ∃ (A : Option Addr) (N C : Nat) (w2 : World), (Builtin.append_ #[st, st] ty #[.slice a n c, .slice (some ⟨b, 0, none⟩) 1 1]).run P w1 = .ok (.slice A N C) w2 ∧ K b A N C w2 := by
  subst hcs
  refine H.new fun b w1 H => ?_
  have hr := H.rowAt
  refine St.app (ys := [x]) (L' := L') H.drop hT (SlR.one hr) (fun a' c' w' H => h b a' c' w' H) hf hn hb h1 rfl
end

section
variable {e w w' : World} {m : Hp} {L : List HP} {α : Type} {E : Enc α} {a : Option Addr} {xs : List α}
/-- All that came new may be held for ever. -/
theorem St.newAll (H : St e m w L) (hc : Ch [] w w') : ∃ m', hle m m' ∧ (∀ i, w.heap.size ≤ i → m' i = hpOf w' i) ∧ St e m' w' L := by
  obtain ⟨B, h1, h2, h3, h4⟩ := H.mem
  have old : ∀ i o, hpOf w i = some o → i < w.heap.size ∧ hpOf w' i = some o := fun i o hi => by
    have hlt := hpOf_some.1 (show hpOf w i ≠ none by rw [hi]; simp)
    exact ⟨hlt, (hc.block i hlt (by simp)).trans hi⟩
  refine ⟨fun i => if i < w.heap.size then m i else hpOf w' i, fun i o hi => ?_, fun i hi => ?_, hc.os.trans H.os, hc.tape.trans H.tape, hc.output.trans H.output, B, fun i o hi => ?_, h2, fun i => ?_, fun i o hi => (old i o (h4 i o hi)).2⟩
  · simp only; rw [if_pos (old i o (h1 i o hi)).1]; exact hi
  · simp only; rw [if_neg (by omega)]
  · simp only at hi
    split at hi
    · exact (old i o (h1 i o hi)).2
    · exact hi
  · simp only
    split
    · exact h3 i
    · rename_i hlt
      exact .inr (hle_none h4 (hpOf_none.2 (by omega)))
theorem SlI.of_new {m' : Hp} {k : Nat} (h : ∀ i, k ≤ i → m' i = hpOf w' i) (hs : SlR E w' a xs) (hn : xs = [] ∨ k ≤ pb a) : SlI E m' a xs := by
  rcases hn with rfl | hn
  · exact SlI.nil
  · intro i x hx
    obtain ⟨b, o, rfl, h2⟩ := hs i x hx
    refine ⟨b, o, rfl, fun j v hv => ?_⟩
    have := h2 j v hv
    rw [← mcell_hpOf] at this
    unfold mcell at this ⊢
    rw [h b (by simpa using hn)]; exact this
end
end Go.Vc
