/- The engine over a region whose order is drawn: one order stands for all. Conditions: none. -/
import Derived.Test.YtllpiaedljoejaaGreatDoorVcRun
namespace Go.Vc
set_option linter.unusedSimpArgs false
set_option linter.unusedVariables false

section
variable {P : Program} {ops : Array Oper} {S : Sp} {K : Fr → World → Prop}

/-- One operation, whichever it is. -/
def opR (P : Program) (ops : Array Oper) (S : Sp) (i : Nat) (l : Fr) (w : World) (Kn : Fr → World → Prop) : Prop :=
  match ops[i]? with
  | none => Kn l w
  | some o =>
    if Region.wanted o (yielded ops (act l).tmps) then
      if stillO P o then ∃ v, (execOp (ev l) o).run P w = .ok (.value v) w ∧ Kn (put l o.dst v) w
      else doneOp P o l w (fun v w' => sP S w' ∧ Kn (put l o.dst v) w')
    else Kn (put l o.dst undef) w

def anyR (P : Program) (ops : Array Oper) (S : Sp) (K : Fr → World → Prop) : Nat → Array Bool → Fr → World → Prop
  | 0, listed, l, w => Region.ready .any ops listed = [] ∧ K l w
  | n + 1, listed, l, w =>
    (Region.ready .any ops listed = [] → K l w) ∧
    ∀ i ∈ Region.ready .any ops listed, opR P ops (cut S i) i l w (fun l' w' => anyR P ops (cut S i) K n (listed.setIfInBounds i true) l' w')

theorem opR_mono {i : Nat} {l : Fr} {w : World} {Kn Kn' : Fr → World → Prop} (h : ∀ l w, Kn l w → Kn' l w) (hh : opR P ops S i l w Kn) : opR P ops S i l w Kn' := by
  unfold opR at *
  split
  · rename_i ho; simp only [ho] at hh; exact h _ _ hh
  · rename_i o ho
    simp only [ho] at hh
    split
    · rename_i hw
      simp only [hw, if_true] at hh
      split
      · rename_i hs; simp only [hs, if_true] at hh; obtain ⟨v, hr, hk⟩ := hh; exact ⟨v, hr, h _ _ hk⟩
      · rename_i hs; simp only [hs] at hh; exact Done.mono (fun v w ⟨a, b⟩ => ⟨a, h _ _ b⟩) hh
    · rename_i hw; simp only [hw] at hh; exact h _ _ hh

theorem wpOp_of_opR {Q : Exit → Act → World → Prop} {i : Nat} {l : Fr} {w : World} {Kn : Fr → World → Prop} {K' : Act → World → Prop} (h : ∀ l w, Kn l w → K' (act l) w) (hh : opR P ops S i l w Kn) :
    wpOp P ops Q i K' (act l) w := by
  unfold opR at hh
  unfold wpOp
  split
  · rename_i ho; simp only [ho] at hh; exact h _ _ hh
  · rename_i o ho
    simp only [ho] at hh
    split
    · rename_i hw
      simp only [hw, if_true] at hh
      refine .inl ?_
      split at hh
      · obtain ⟨v, hr, hk⟩ := hh
        exact wp_of_done (K := fun u w' => u = v ∧ w' = w) (by unfold doneOp; rw [hr]; exact ⟨rfl, rfl⟩) (fun u w' ⟨e1, e2⟩ => by subst e1; subst e2; exact h _ _ hk)
      · exact wp_of_done hh (fun v w' ⟨_, hk⟩ => h _ _ hk)
    · rename_i hw; simp only [hw] at hh; rw [put_eq]; exact h _ _ hh

theorem wpAny_of_anyR {Q : Exit → Act → World → Prop} (hK : ∀ l w, K l w → Q .normal (act l) w) : ∀ (n : Nat) (S : Sp) (listed : Array Bool) (l : Fr) (w : World),
    anyR P ops S K n listed l w → wpAny P .any ops Q n listed (act l) w
  | 0, _, _, _, _, h => ⟨h.1, hK _ _ h.2⟩
  | n + 1, _, _, _, _, h => ⟨fun h0 => hK _ _ (h.1 h0), fun i hi => wpOp_of_opR (fun l' w' h' => wpAny_of_anyR hK n _ _ l' w' h') (h.2 i hi)⟩

/-! ### Two operations apart -/
theorem ev_put (o : Oper) (hs : ∀ cs b, o.op ≠ .select cs b) (l : Fr) (dst : Option Tmp) (v : Value) (h : ∀ d, dst = some d → d ∉ o.looksAt ops) :
    execOp (ev (put l dst v)) o = execOp (ev l) o := by
  have := execOp_put (ops := ops) o hs (act l) dst v h
  rwa [put_eq, ev_eq, ev_eq] at this
theorem want_put (o : Oper) (l : Fr) (dst : Option Tmp) (v : Value) (h : ∀ d, dst = some d → d ∉ o.looksAt ops) :
    Region.wanted o (yielded ops (act (put l dst v)).tmps) = Region.wanted o (yielded ops (act l).tmps) := by
  have := wanted_put (ops := ops) o (act l) dst v h
  rwa [put_eq] at this
theorem act_inj {l l' : Fr} (h : act l = act l') : l = l' := by
  have : l.toArray = l'.toArray := congrArg Act.tmps h
  simpa using this
theorem put_comm (l : Fr) {x y : Option Tmp} (v u : Value) (h : ∀ d, x = some d → y ≠ some d) : put (put l x v) y u = put (put l y u) x v := by
  have := Act.put_comm (act l) v u h
  rw [put_eq, put_eq, put_eq, put_eq] at this
  exact act_inj this

/-- In frame l, in each world of C, the operation comes to v and changes nothing. -/
def Yld (P : Program) (ops : Array Oper) (C : World → Prop) (o : Oper) (v : Value) (l : Fr) : Prop :=
  (Region.wanted o (yielded ops (act l).tmps) = true ∧ ∀ w, C w → (execOp (ev l) o).run P w = .ok (.value v) w) ∨
  (Region.wanted o (yielded ops (act l).tmps) = false ∧ v = undef)

variable {C : World → Prop}

theorem Yld.opR {i : Nat} {o : Oper} {v : Value} {l : Fr} {w : World} (hi : ops[i]? = some o) (hs : stillO P o = true) (hw : C w) (hy : Yld P ops C o v l) {Kn : Fr → World → Prop} (h : Kn (put l o.dst v) w) :
    opR P ops S i l w Kn := by
  unfold Go.Vc.opR
  simp only [hi]
  rcases hy with ⟨hw', hv⟩ | ⟨hw', rfl⟩
  · simp only [hw', if_true, hs]; exact ⟨v, hv w hw, h⟩
  · simp only [hw', Bool.false_eq_true, if_false]; exact h

theorem opR_put {j : Nat} {oi oj : Oper} {v : Value} (hj : ops[j]? = some oj) (hap : oi.apart ops oj = true)
    (hsi : ∀ cs b, oi.op ≠ .select cs b) (hsj : ∀ cs b, oj.op ≠ .select cs b) {Kn : Fr → World → Prop} {l : Fr} {w : World}
    (hy : Yld P ops C oi v l) (hC : C w) (hkeep : stillO P oj = true ∨ ∀ w', sP S w' → C w') (h : opR P ops S j (put l oi.dst v) w Kn) :
    opR P ops S j l w (fun l' w' => Yld P ops C oi v l' ∧ C w' ∧ Kn (put l' oi.dst v) w') := by
  obtain ⟨h1, h2, h3⟩ := Oper.apart_spec hap
  have keep : ∀ u, Yld P ops C oi v (put l oj.dst u) := fun u => by
    unfold Yld at *
    rw [ev_put (ops := ops) oi hsi l oj.dst u h3, want_put oi l oj.dst u h3]
    exact hy
  unfold opR at *
  simp only [hj] at *
  rw [want_put oj l oi.dst v h1] at h
  split
  · rename_i hw
    simp only [hw, if_true] at h
    split
    · rename_i hst
      simp only [hst, if_true] at h
      obtain ⟨u, hr, hk⟩ := h
      rw [ev_put (ops := ops) oj hsj l oi.dst v h1] at hr
      exact ⟨u, hr, keep u, hC, by rw [← put_comm l v u h2]; exact hk⟩
    · rename_i hst
      simp only [hst] at h
      have hS := hkeep.resolve_left hst
      unfold doneOp at *
      rw [ev_put (ops := ops) oj hsj l oi.dst v h1] at h
      exact Done.mono (fun u w' ⟨ha, hb⟩ => ⟨ha, keep u, hS _ ha, by rw [← put_comm l v u h2]; exact hb⟩) h
  · rename_i hw
    simp only [hw] at h
    exact ⟨keep undef, hC, by rw [← put_comm l v undef h2]; exact h⟩

/-- An operation that may come now may be taken first. 'Inv': what holds of the listed operations as long as it has not come. -/
theorem take_first {i : Nat} {oi : Oper} {v : Value} (hi : ops[i]? = some oi) (hst : stillO P oi = true) (hsel : ∀ (j : Nat) (o : Oper) cs b, ops[j]? = some o → o.op ≠ .select cs b)
    (Inv : Array Bool → Prop)
    (hInv : ∀ listed j oj, Inv listed → ops[j]? = some oj → j ≠ i → j ∈ Region.ready .any ops listed → (stillO P oj = true ∨ ∀ w', sP S w' → C w') ∧ cut S j = S ∧ Inv (listed.setIfInBounds j true))
    (hcut : cut S i = S) :
    ∀ (n : Nat) (listed : Array Bool) (l : Fr) (w : World),
      (∀ j oj, ops[j]? = some oj → j ≠ i → listed.getD j true = false → (∀ e ∈ oj.after, Region.binds .any e = true → e.on ≠ i) → oi.apart ops oj = true) →
      Inv listed → C w → i ∈ Region.ready .any ops listed → Yld P ops C oi v l →
      anyR P ops S K n (listed.setIfInBounds i true) (put l oi.dst v) w → anyR P ops S K (n + 1) listed l w := by
  intro n
  induction n with
  | zero =>
    intro listed l w _ _ hC hr hy H
    refine ⟨fun h => (by rw [h] at hr; cases hr), fun j hj => ?_⟩
    by_cases hji : j = i
    · subst hji; rw [hcut]; exact hy.opR hi hst hC H
    · have := ready_mono hj hji
      rw [H.1] at this
      cases this
  | succ n ih =>
    intro listed l w hfree hinv hC hr hy H
    refine ⟨fun h => (by rw [h] at hr; cases hr), fun j hj => ?_⟩
    by_cases hji : j = i
    · subst hji; rw [hcut]; exact hy.opR hi hst hC H
    · have h1 := H.2 j (ready_mono hj hji)
      obtain ⟨hjun, oj, hoj, hall⟩ := mem_ready.1 hj
      have hnot : ∀ e ∈ oj.after, Region.binds .any e = true → e.on ≠ i := fun e he hb heq => by
        have h1 := hall e he hb
        have h0 := (mem_ready.1 hr).1
        rw [heq] at h1
        rcases Nat.lt_or_ge i listed.size with h' | h'
        · simp [h'] at h0 h1; rw [h0] at h1; cases h1
        · simp [Array.getElem?_eq_none h'] at h1
      obtain ⟨hkeep, hcj, hinv'⟩ := hInv listed j oj hinv hoj hji hj
      rw [hcj] at h1 ⊢
      have h2 := opR_put hoj (hfree j oj hoj hji hjun hnot) (fun cs b => hsel i oi cs b hi) (fun cs b => hsel j oj cs b hoj) hy hC hkeep h1
      have hfree' : ∀ k ok, ops[k]? = some ok → k ≠ i → (listed.setIfInBounds j true).getD k true = false →
          (∀ e ∈ ok.after, Region.binds .any e = true → e.on ≠ i) → oi.apart ops ok = true := fun k ok hk hki hun hno => by
        refine hfree k ok hk hki ?_ hno
        by_cases hjk : j = k
        · subst hjk; exact hjun
        · rw [getD_set_ne true hjk] at hun; exact hun
      refine opR_mono (fun l' w' h3 => ih (listed.setIfInBounds j true) l' w' hfree' hinv' h3.2.1 (ready_mono hr (Ne.symm hji)) h3.1 ?_) h2
      rw [Array.setIfInBounds_comm _ _ hji]
      exact h3.2.2

/-! ### The mask of the listed -/
/-- The mask L says which of the operations are listed. -/
def Lst (ops : Array Oper) (L : Nat) (listed : Array Bool) : Prop := listed.size = ops.size ∧ ∀ j, j < ops.size → listed.getD j true = L.testBit j

theorem testBit_or_pow (L i j : Nat) : (L ||| 2 ^ i).testBit j = (L.testBit j || decide (i = j)) := by
  rw [Nat.testBit_or, Nat.testBit_two_pow]

theorem Lst.set {L i : Nat} {listed : Array Bool} (h : Lst ops L listed) : Lst ops (L ||| 2 ^ i) (listed.setIfInBounds i true) := by
  refine ⟨by simpa using h.1, fun j hj => ?_⟩
  rw [testBit_or_pow]
  have := h.2 j hj
  have hjl : j < listed.size := by rw [h.1]; exact hj
  by_cases hij : i = j
  · subst hij
    simp [hjl]
  · rw [getD_set_ne true hij, this]; simp [hij]
end
end Go.Vc
