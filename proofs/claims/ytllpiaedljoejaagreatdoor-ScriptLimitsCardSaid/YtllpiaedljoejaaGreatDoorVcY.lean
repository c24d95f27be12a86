/- Closed runs by computation: values of the machine and of the model. Conditions: none. -/
import Derived.Test.YtllpiaedljoejaaGreatDoorVcX
namespace Go.Vc
set_option linter.unusedSimpArgs false
set_option linter.unusedVariables false

/-! ### Trees -/
theorem sel_upd {α : Type} {i j : Nat} (hi : i < 8) (hj : j < 8) (y t : T8 α) : T8.sel i (T8.upd j y t) = if i = j then y else T8.sel i t := by
  have h1 : i = 0 ∨ i = 1 ∨ i = 2 ∨ i = 3 ∨ i = 4 ∨ i = 5 ∨ i = 6 ∨ i = 7 := by omega
  have h2 : j = 0 ∨ j = 1 ∨ j = 2 ∨ j = 3 ∨ j = 4 ∨ j = 5 ∨ j = 6 ∨ j = 7 := by omega
  cases t <;> rcases h1 with h | h | h | h | h | h | h | h <;> rcases h2 with g | g | g | g | g | g | g | g <;> subst h <;> subst g <;> rfl
noncomputable def leafX {α : Type} (t : T8 α) : Option α := T8.leaf t
theorem get_set {α : Type} (x : T8 α) : ∀ (d k j : Nat) (t : T8 α), T8.get d k (T8.set x d j t) = if k = j ∧ j < 8 ^ d then leafX x else T8.get d k t
  | 0, k, j, t => by
    rw [T8.get_zero, T8.get_zero, T8.set_zero]
    by_cases hj : j = 0
    · subst hj
      by_cases hk : k = 0
      · subst hk; simp [leafX]
      · simp [hk]
    · have h1 : ¬ (k = j ∧ j < 8 ^ 0) := by rintro ⟨_, h⟩; simp at h; exact hj h
      rw [if_neg h1, if_neg hj]
  | d + 1, k, j, t => by
    rw [T8.get_succ, T8.set_succ, T8.get_succ]
    rw [sel_upd (Nat.mod_lt _ (by decide)) (Nat.mod_lt _ (by decide))]
    have hp : j < 8 ^ (d + 1) ↔ j / 8 < 8 ^ d := by rw [Nat.pow_succ, Nat.div_lt_iff_lt_mul (by decide)]
    by_cases hm : k % 8 = j % 8
    · rw [if_pos hm, get_set x d (k / 8) (j / 8)]
      by_cases hd : k / 8 = j / 8
      · have : k = j := by omega
        subst this
        simp only [true_and, hp]
      · have : k ≠ j := fun e => hd (by rw [e])
        rw [if_neg (fun e => hd e.1), if_neg (fun e => this e.1), hm]
    · have : k ≠ j := fun e => hm (by rw [e])
      rw [if_neg hm, if_neg (fun e => this e.1)]

/-! ### Values -/
abbrev RM := Nat → Option (Nat × Nat)
mutual
inductive VR (ρ : RM) : Value → Value → Prop
  | plain {v : Value} : plain1 v = true → VR ρ v v
  | ptr {k o b c : Nat} : ρ k = some (b, c) → VR ρ (.pointer (some ⟨k, o, none⟩)) (.pointer (some ⟨b, o, none⟩))
  | slice {k o n l b c : Nat} : ρ k = some (b, c) → n + l ≤ c → VR ρ (.slice (some ⟨k, o, none⟩) n l) (.slice (some ⟨b, o, none⟩) n (c - l))
  | empty {k o s l : Nat} {a : Option Addr} {c : Nat} : VR ρ (.slice (some ⟨k, o, some s⟩) 0 l) (.slice a 0 c)
  | map {k b c : Nat} : ρ k = some (b, c) → VR ρ (.map (some k)) (.map (some b))
  | iface {t : TypeId} {x y : Value} : VR ρ x y → VR ρ (.iface t x) (.iface t y)
  | agg {a b : Array Value} : VRs ρ a.toList b.toList → VR ρ (.agg a) (.agg b)
  | tuple {a b : Array Value} : VRs ρ a.toList b.toList → VR ρ (.tuple a) (.tuple b)
  | func {f : Fn} {a b c d : Array Value} : VRs ρ a.toList b.toList → VRs ρ c.toList d.toList → VR ρ (.func f a c) (.func f b d)
inductive VRs (ρ : RM) : List Value → List Value → Prop
  | nil : VRs ρ [] []
  | cons {x y : Value} {xs ys : List Value} : VR ρ x y → VRs ρ xs ys → VRs ρ (x :: xs) (y :: ys)
end
def RM.le (ρ ρ' : RM) : Prop := ∀ k p, ρ k = some p → ρ' k = some p
theorem RM.le_refl (ρ : RM) : RM.le ρ ρ := fun _ _ h => h
theorem RM.le_trans {a b c : RM} (h : RM.le a b) (h' : RM.le b c) : RM.le a c := fun k p e => h' k p (h k p e)

theorem VR.mono {ρ ρ' : RM} (h : RM.le ρ ρ') {v v' : Value} (hv : VR ρ v v') : VR ρ' v v' :=
  VR.rec (motive_1 := fun a b _ => VR ρ' a b) (motive_2 := fun a b _ => VRs ρ' a b)
    (fun p => .plain p) (fun e => .ptr (h _ _ e)) (fun e l => .slice (h _ _ e) l) .empty (fun e => .map (h _ _ e)) (fun _ i => .iface i) (fun _ i => .agg i) (fun _ i => .tuple i) (fun _ _ i j => .func i j)
    .nil (fun _ _ i j => .cons i j) hv
theorem VRs.mono {ρ ρ' : RM} (h : RM.le ρ ρ') : ∀ {v v' : List Value}, VRs ρ v v' → VRs ρ' v v'
  | _, _, .nil => .nil
  | _, _, .cons a b => .cons (a.mono h) (b.mono h)

section
variable {ρ : RM}
theorem VR.of_plain {v v' : Value} (hp : plain1 v = true) (h : VR ρ v v') : v' = v := by
  cases h <;> first | rfl | (simp [plain1] at hp)
theorem VRs.of_plain : ∀ {v v' : List Value}, v.all plain1 = true → VRs ρ v v' → v' = v
  | _, _, _, .nil => rfl
  | _, _, hp, .cons a b => by
    simp only [List.all_cons, Bool.and_eq_true] at hp
    rw [a.of_plain hp.1, VRs.of_plain hp.2 b]
theorem VRs.plain : ∀ {v : List Value}, v.all plain1 = true → VRs ρ v v
  | [], _ => .nil
  | x :: r, hp => by
    simp only [List.all_cons, Bool.and_eq_true] at hp
    exact .cons (.plain hp.1) (VRs.plain hp.2)
theorem VR.of_plainV {v v' : Value} (hp : plainV v = true) (h : VR ρ v v') : v' = v := by
  cases h with
  | plain _ => rfl
  | agg h => simp only [plainV] at hp; have := h.of_plain hp; rw [← Array.toList_inj.1 this]
  | tuple h => simp only [plainV] at hp; have := h.of_plain hp; rw [← Array.toList_inj.1 this]
  | @func f a b c d h1 h2 =>
    simp only [plainV, Bool.and_eq_true, beq_iff_eq] at hp
    have ha : a = #[] := Array.eq_empty_of_size_eq_zero hp.1
    have hc : c = #[] := Array.eq_empty_of_size_eq_zero hp.2
    subst ha; subst hc
    have e1 : b = #[] := by cases b with | mk l => cases h1; rfl
    have e2 : d = #[] := by cases d with | mk l => cases h2; rfl
    rw [e1, e2]
  | _ => simp [plainV, plain1] at hp
theorem VR.plainV {v : Value} (hp : Go.Vc.plainV v = true) : VR ρ v v := by
  cases v with
  | agg cs => exact .agg (.plain hp)
  | tuple cs => exact .tuple (.plain hp)
  | func f a b =>
    simp only [Go.Vc.plainV, Bool.and_eq_true, beq_iff_eq] at hp
    have ha : a = #[] := Array.eq_empty_of_size_eq_zero hp.1
    have hc : b = #[] := Array.eq_empty_of_size_eq_zero hp.2
    subst ha; subst hc
    exact .func .nil .nil
  | _ => exact .plain hp
theorem VRs.length : ∀ {v v' : List Value}, VRs ρ v v' → v'.length = v.length
  | _, _, .nil => rfl
  | _, _, .cons _ b => by simp [b.length]
theorem VRs.get : ∀ {v v' : List Value} {i : Nat} {x : Value}, VRs ρ v v' → v[i]? = some x → ∃ y, v'[i]? = some y ∧ VR ρ x y
  | _, _, _, _, .nil, h => by simp at h
  | _, _, 0, _, .cons a b, h => by simp at h; subst h; exact ⟨_, rfl, a⟩
  | _, _, i + 1, _, .cons a b, h => by simp only [List.getElem?_cons_succ] at h ⊢; exact b.get h
theorem VRs.drop : ∀ {v v' : List Value} (n : Nat), VRs ρ v v' → VRs ρ (v.drop n) (v'.drop n)
  | _, _, 0, h => h
  | _, _, n + 1, .nil => .nil
  | _, _, n + 1, .cons a b => b.drop n
theorem VRs.take : ∀ {v v' : List Value} (n : Nat), VRs ρ v v' → VRs ρ (v.take n) (v'.take n)
  | _, _, 0, h => by simp; exact .nil
  | _, _, n + 1, .nil => .nil
  | _, _, n + 1, .cons a b => .cons a (b.take n)
theorem VRs.append : ∀ {a a' b b' : List Value}, VRs ρ a a' → VRs ρ b b' → VRs ρ (a ++ b) (a' ++ b')
  | _, _, _, _, .nil, h => h
  | _, _, _, _, .cons x r, h => .cons x (r.append h)
theorem VRs.set : ∀ {v v' : List Value} {x y : Value} (i : Nat), VRs ρ v v' → VR ρ x y → VRs ρ (v.set i x) (v'.set i y)
  | _, _, _, _, _, .nil, _ => .nil
  | _, _, _, _, 0, .cons a b, h => .cons h b
  | _, _, _, _, i + 1, .cons a b, h => .cons a (b.set i h)
theorem VRs.splice {v v' x y : List Value} (o : Nat) (h : VRs ρ v v') (hx : VRs ρ x y) : VRs ρ (splice v o x) (splice v' o y) := by
  unfold Go.Vc.splice
  rw [hx.length]
  exact ((h.take o).append hx).append (h.drop _)
theorem VR.one {x y : Value} (h : VR ρ x y) : y.oneCell' = x.oneCell' := by
  cases h <;> rfl
theorem VRs.one : ∀ {v v' : List Value}, VRs ρ v v' → v'.all one1 = v.all one1
  | _, _, .nil => rfl
  | _, _, .cons a b => by simp only [List.all_cons, Go.Vc.one1, a.one, b.one]
theorem VR.cells {x y : Value} (h : VR ρ x y) : VRs ρ x.cells.toList y.cells.toList := by
  cases h with
  | agg h => exact h
  | plain h =>
    have : ∀ v : Value, plain1 v = true → v.cells = #[v] := fun v hv => by cases v <;> first | rfl | (simp [plain1] at hv)
    rw [this _ h]; exact .cons (.plain h) .nil
  | ptr h => exact .cons (.ptr h) .nil
  | slice h l => exact .cons (.slice h l) .nil
  | empty => exact .cons .empty .nil
  | map h => exact .cons (.map h) .nil
  | iface h => exact .cons (.iface h) .nil
  | tuple h => exact .cons (.tuple h) .nil
  | func h1 h2 => exact .cons (.func h1 h2) .nil

/-! ### What is told equal is equal -/
theorem eqLs_sound {f : Value → Value → Bool} (hf : ∀ a b, f a b = true → a = b) : ∀ {a b : List Value}, eqLs f a b = true → a = b
  | [], [], _ => rfl
  | x :: r, y :: s, h => by
    simp only [eqLs, Bool.and_eq_true] at h
    rw [hf _ _ h.1, eqLs_sound hf h.2]
  | [], _ :: _, h => by simp [eqLs] at h
  | _ :: _, [], h => by simp [eqLs] at h
theorem ba_of_list {a b : ByteArray} (h : a.data.toList = b.data.toList) : a = b := by
  cases a; cases b; simp at h; rw [h]
theorem veq1_sound {a b : Value} (h : veq1 a b = true) : a = b := by
  unfold veq1 at h
  split at h
  case h_1 a b => revert h; cases a <;> cases b <;> simp
  case h_2 k a k' b => simp only [Bool.and_eq_true, decide_eq_true_eq] at h; rw [h.1, h.2]
  case h_3 a b => simp only [decide_eq_true_eq] at h; rw [ba_of_list h]
  case h_4 => rfl
  case h_5 => rfl
  case h_6 => rfl
  case h_7 k o k' o' => simp only [Bool.and_eq_true, Nat.beq_eq] at h; rw [h.1, h.2]
  case h_8 n c m d => simp only [Bool.and_eq_true, Nat.beq_eq] at h; rw [h.1, h.2]
  case h_9 k o n c k' o' m d => simp only [Bool.and_eq_true, Nat.beq_eq] at h; obtain ⟨⟨⟨h1, h2⟩, h3⟩, h4⟩ := h; rw [h1, h2, h3, h4]
  case h_10 a b => simp only [decide_eq_true_eq] at h; rw [h]
  all_goals cases h
theorem eqV_sound : ∀ (n : Nat) {a b : Value}, eqV n a b = true → a = b
  | 0, _, _, h => by simp [eqV] at h
  | n + 1, a, b, h => by
    unfold eqV at h
    split at h
    · rename_i e; cases e
    · rename_i n' a b e
      have e := Nat.succ.inj e; subst e
      exact congrArg Value.agg (Array.toList_inj.1 (eqLs_sound (fun _ _ h => eqV_sound _ h) h))
    · rename_i n' a b e
      have e := Nat.succ.inj e; subst e
      exact congrArg Value.tuple (Array.toList_inj.1 (eqLs_sound (fun _ _ h => eqV_sound _ h) h))
    · rename_i n' f a b g c d e
      have e := Nat.succ.inj e; subst e
      simp only [Bool.and_eq_true, decide_eq_true_eq] at h
      rw [h.1.1, Array.toList_inj.1 (eqLs_sound (fun _ _ h => eqV_sound _ h) h.1.2), Array.toList_inj.1 (eqLs_sound (fun _ _ h => eqV_sound _ h) h.2)]
    · rename_i n' t a u b e
      have e := Nat.succ.inj e; subst e
      simp only [Bool.and_eq_true, Nat.beq_eq] at h
      rw [h.1, eqV_sound _ h.2]
    · exact veq1_sound h
theorem eqT_sound {α : Type} {f : α → α → Bool} (hf : ∀ a b, f a b = true → a = b) : ∀ {a b : T8 α}, eqT f a b = true → a = b
  | .e, .e, _ => rfl
  | .l a, .l b, h => by rw [hf _ _ h]
  | .n a b c d j g h i, .n a' b' c' d' j' g' h' i', e => by
    simp only [eqT, Bool.and_eq_true] at e
    obtain ⟨⟨⟨⟨⟨⟨⟨e1, e2⟩, e3⟩, e4⟩, e5⟩, e6⟩, e7⟩, e8⟩ := e
    rw [eqT_sound hf e1, eqT_sound hf e2, eqT_sound hf e3, eqT_sound hf e4, eqT_sound hf e5, eqT_sound hf e6, eqT_sound hf e7, eqT_sound hf e8]
  | .e, .l _, h | .e, .n .., h | .l _, .e, h | .l _, .n .., h | .n .., .e, h | .n .., .l _, h => by simp [eqT] at h
theorem eqXO_sound {a b : XO} (h : eqXO a b = true) : a = b := by
  unfold eqXO at h
  split at h
  · simp only [Bool.and_eq_true, Nat.beq_eq] at h; rw [h.1.1, h.1.2, eqLs_sound (fun _ _ h => eqV_sound _ h) h.2]
  · rw [eqLs_sound (fun _ _ h => eqV_sound _ h) h]
  · rfl
  · simp only [Bool.and_eq_true, Nat.beq_eq, decide_eq_true_eq] at h; rw [ba_of_list h.1, h.2]
  · rw [Nat.beq_eq] at h; rw [h]
  · rfl
  · cases h
theorem eqSt_sound {a b : FX × XH} (h : eqSt a b = true) : a = b := by
  simp only [eqSt, Bool.and_eq_true, Nat.beq_eq] at h
  obtain ⟨⟨h1, h2⟩, h3⟩ := h
  obtain ⟨l, t, n⟩ := a
  obtain ⟨l', t', n'⟩ := b
  simp only at h1 h2 h3
  rw [eqT_sound (fun _ _ h => eqV_sound _ h) h1, h2, eqT_sound (fun _ _ h => eqXO_sound h) h3]

/-- Values that are told equal: their likes are equal. -/
theorem eqLs_det {ρ' : RM} (hl : RM.le ρ ρ') {f : Value → Value → Bool} (hf : ∀ a b x y, f a b = true → VR ρ a x → VR ρ' b y → x = y) : ∀ {a b x y : List Value}, eqLs f a b = true → VRs ρ a x → VRs ρ' b y → x = y
  | [], [], _, _, _, .nil, .nil => rfl
  | u :: r, v :: s, _, _, h, .cons p q, .cons p' q' => by
    simp only [eqLs, Bool.and_eq_true] at h
    rw [hf _ _ _ _ h.1 p p', eqLs_det hl hf h.2 q q']
  | [], _ :: _, _, _, h, _, _ => by simp [eqLs] at h
  | _ :: _, [], _, _, h, _, _ => by simp [eqLs] at h
theorem veq1_det {ρ' : RM} (hl : RM.le ρ ρ') {a b x y : Value} (h : veq1 a b = true) (hx : VR ρ a x) (hy : VR ρ' b y) : x = y := by
  have e := veq1_sound h
  subst e
  cases hx with
  | plain hp => exact (hy.of_plain hp).symm
  | ptr e =>
    cases hy with
    | plain hp => simp [plain1] at hp
    | ptr e' => have := hl _ _ e; rw [this] at e'; cases e'; rfl
  | slice e l =>
    cases hy with
    | plain hp => simp [plain1] at hp
    | slice e' l' => have := hl _ _ e; rw [this] at e'; cases e'; rfl
  | map e =>
    cases hy with
    | plain hp => simp [plain1] at hp
    | map e' => have := hl _ _ e; rw [this] at e'; cases e'; rfl
  | empty => simp [veq1] at h
  | iface _ => simp [veq1] at h
  | agg _ => simp [veq1] at h
  | tuple _ => simp [veq1] at h
  | func _ _ => simp [veq1] at h
theorem eqV_det {ρ' : RM} (hl : RM.le ρ ρ') : ∀ (n : Nat) {a b x y : Value}, eqV n a b = true → VR ρ a x → VR ρ' b y → x = y
  | 0, _, _, _, _, h, _, _ => by simp [eqV] at h
  | n + 1, a, b, x, y, h, hx, hy => by
    have IH : ∀ a b x y, eqV n a b = true → VR ρ a x → VR ρ' b y → x = y := fun a b x y h p q => eqV_det hl n h p q
    unfold eqV at h
    split at h
    · rename_i e; cases e
    · rename_i n' a b e
      have e := Nat.succ.inj e; subst e
      cases hx with
      | plain hp => simp [plain1] at hp
      | agg p => cases hy with
        | plain hp => simp [plain1] at hp
        | agg q => exact congrArg Value.agg (Array.toList_inj.1 (eqLs_det hl IH h p q))
    · rename_i n' a b e
      have e := Nat.succ.inj e; subst e
      cases hx with
      | plain hp => simp [plain1] at hp
      | tuple p => cases hy with
        | plain hp => simp [plain1] at hp
        | tuple q => exact congrArg Value.tuple (Array.toList_inj.1 (eqLs_det hl IH h p q))
    · rename_i n' f a b g c d e
      have e := Nat.succ.inj e; subst e
      simp only [Bool.and_eq_true, decide_eq_true_eq] at h
      cases hx with
      | plain hp => simp [plain1] at hp
      | func p p' => cases hy with
        | plain hp => simp [plain1] at hp
        | func q q' => rw [h.1.1, Array.toList_inj.1 (eqLs_det hl IH h.1.2 p q), Array.toList_inj.1 (eqLs_det hl IH h.2 p' q')]
    · rename_i n' t a u b e
      have e := Nat.succ.inj e; subst e
      simp only [Bool.and_eq_true, Nat.beq_eq] at h
      cases hx with
      | plain hp => simp [plain1] at hp
      | iface p => cases hy with
        | plain hp => simp [plain1] at hp
        | iface q => rw [h.1, IH _ _ _ _ h.2 p q]
    · exact veq1_det hl h hx hy
end
end Go.Vc
