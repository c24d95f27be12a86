/- The engine's second half: an operation that acts does what its formula says. Conditions: none. -/
import Derived.Test.YtllpiaedljoejaaGreatDoorVcStill
namespace Go.Vc
set_option linter.unusedSimpArgs false
set_option linter.unusedVariables false

/-- What is asked of an operation's outcome: no panic. -/
def Done (P : Program) (K : Value → World → Prop) : Result Next → Prop
  | .ok (.value v) w' => K v w'
  | .ok .skip w' => K undef w'
  | .ok (.enter f args) w' => Calls P f args w' (fun e w'' => ∃ v, e = .returned v ∧ K v w'')
  | _ => False

def doneOp (P : Program) (o : Oper) (l : Fr) (w : World) (K : Value → World → Prop) : Prop := Done P K ((execOp (ev l) o).run P w)

theorem Done.mono {P : Program} {K K' : Value → World → Prop} {r : Result Next} (hk : ∀ v w, K v w → K' v w) (h : Done P K r) : Done P K' r := by
  unfold Done at *
  split at h
  · exact hk _ _ h
  · exact hk _ _ h
  · exact h.mono fun e w ⟨v, he, hv⟩ => ⟨v, he, hk _ _ hv⟩
  · exact h.elim

theorem retK_calls {P : Program} {f : FuncId} {args : Array Value} {w : World} {s : RSh} {K : Value → World → Prop} (h : Calls P f args w (retK s K)) :
    Calls P f args w (fun e w'' => ∃ v, e = .returned v ∧ K v w'') :=
  h.mono fun e w' he => exR_ex he

section
variable {P : Program} {o : Oper} {l : Fr} {w : World} {K : Value → World → Prop}

theorem storeVC_sound {t : TypeId} {addr val : Value} {K : World → Prop} (h : storeVC P t addr val w K) :
    ∃ w', (Instr.storeAt t addr val).run P w = .ok () w' ∧ K w' := by
  unfold storeVC at h
  split at h
  case h_2 => exact h.elim
  obtain ⟨b, k, rfl, h⟩ := okP_ex h
  simp only [pb_some, po_some] at h
  have agg : ∀ cs : Array Value, val = .agg cs → (P.info? t).map (·.size) = some cs.size → (cs.toList.all (·.oneCell')) = true → room w b k cs.size →
      (Instr.storeAt t (.pointer (some ⟨b, k, none⟩)) val).run P w = .ok () (w.setCells b k cs.toList) := by
    rintro cs rfl hs h1 hr
    cases hinfo : P.info? t with
    | none => rw [hinfo] at hs; simp at hs
    | some i =>
      rw [hinfo] at hs
      have hsz : i.size = cs.size := by simpa using hs
      have := run_storeCells_cells (P := P) b k cs.toList 0 w (fun j hj => (hr j (by simpa using hj)).1) (fun j hj => (hr j (by simpa using hj)).2) (fun v hv => by
        have := List.all_eq_true.1 h1 v hv; simpa using this)
      simp [Instr.storeAt, Instr.sureAddr, storeVar, sizeOf, typeInfo, hinfo, hsz, Value.cells]
      simpa using this
  split at h
  · split at h
    · rename_i cs _
      obtain ⟨hs, h⟩ := gd_iff.1 h
      obtain ⟨h1, hr, h⟩ := gd_iff.1 h
      exact ⟨_, agg cs rfl (eq_of_beq hs) h1 hr, h⟩
    · exact h.elim
  · split at h
    · rename_i cs _
      obtain ⟨hs, h⟩ := gd_iff.1 h
      obtain ⟨h1, hr, h⟩ := gd_iff.1 h
      exact ⟨_, agg cs rfl (eq_of_beq hs) h1 hr, h⟩
    · exact h.elim
  · obtain ⟨hs, h⟩ := gd_iff.1 h
    obtain ⟨h1, hr, h⟩ := gd_iff.1 h
    refine ⟨_, ?_, h⟩
    have hs := eq_of_beq hs
    cases hinfo : P.info? t with
    | none => rw [hinfo] at hs; simp at hs
    | some i =>
      rw [hinfo] at hs
      have hsz : i.size = 1 := by simpa using hs
      have hc : val.cells = #[val] := by cases val <;> simp [Value.oneCell'] at h1 <;> rfl
      have := run_storeCells_cells (P := P) b k [val] 0 w (fun j hj => (hr j (by simpa using hj)).1) (fun j hj => (hr j (by simpa using hj)).2) (fun v hv => by
        simp at hv; rw [hv]; exact h1)
      simp [Instr.storeAt, Instr.sureAddr, storeVar, sizeOf, typeInfo, hinfo, hsz, hc]
      simpa [World.setCells] using this
  · exact h.elim

theorem callVC_sound {c : Call} (ho : o.op = .call c) (h : callVC P o c l w K) : doneOp P o l w K := by
  have he : execOp (ev l) o = (do let d ← resolve (ev l) c o.type; invoke d.target d.args) := by simp [execOp, ho]
  unfold doneOp
  rw [he]
  obtain ⟨callee, args, ts⟩ := c
  unfold callVC at h
  split at h
  · rename_i f hf
    simp only at hf
    subst hf
    split at h
    · rename_i f' args' w' hr
      have e1 : (do let d ← resolve (ev l) ⟨.value (.func f), args, ts⟩ o.type; invoke d.target d.args : Sem Next).run P w = .ok (.enter f' args') w' := by
        simp only [resolve, ev, Deferred.ofValue, Sem.run_bind, Sem.run_pure, Result.andThen, invoke]
        simpa using hr
      rw [e1]
      exact retK_calls h
    · exact h.elim
  · rename_i x _ hf
    simp only at hf
    subst hf
    obtain ⟨f', args', w', hr, h⟩ := h
    have e1 : (do let d ← resolve (ev l) ⟨.value x, args, ts⟩ o.type; invoke d.target d.args : Sem Next).run P w = .ok (.enter f' args') w' := by
      simpa only [resolve] using hr
    rw [e1]
    exact retK_calls h
  · rename_i r m hf
    simp only at hf
    subst hf
    obtain ⟨f', args', w', hr, h⟩ := h
    have e1 : (do let d ← resolve (ev l) ⟨.invoke r m, args, ts⟩ o.type; invoke d.target d.args : Sem Next).run P w = .ok (.enter f' args') w' := by
      simp only [resolve, Sem.run_bind, Sem.run_pure, Result.andThen, invoke]
      have h0 : (#[ev l r] ++ Array.map (ev l) args)[0]? = some (ev l r) := by rw [Array.getElem?_append_left (by simp)]; rfl
      simp only [h0]
      have h1 : (Array.map (ev l) args).extract 0 args.size = Array.map (ev l) args := by
        simp
      simp only [Array.extract_append]
      simpa [h1] using hr
    rw [e1]
    exact retK_calls h
  · rename_i hf
    simp only at hf
    subst hf
    obtain ⟨v, w', hr, h⟩ := exSh_ex h
    have e1 : (do let d ← resolve (ev l) ⟨.builtin .append, args, ts⟩ o.type; invoke d.target d.args : Sem Next).run P w = .ok (.value v) w' := by
      simp only [resolve, Sem.run_bind, Sem.run_pure, Result.andThen, invoke, builtin]
      simp only at hr
      rw [hr]
    rw [e1]
    exact h
  · rename_i hf
    simp only at hf
    subst hf
    obtain ⟨v, w', hr, h⟩ := exSh_ex h
    have e1 : (do let d ← resolve (ev l) ⟨.builtin .copy, args, ts⟩ o.type; invoke d.target d.args : Sem Next).run P w = .ok (.value v) w' := by
      simp only [resolve, Sem.run_bind, Sem.run_pure, Result.andThen, invoke, builtin]
      simp only at hr
      rw [hr]
    rw [e1]
    exact h
  · rename_i hf
    simp only at hf
    subst hf
    obtain ⟨w', hr, h⟩ := h
    have e1 : (do let d ← resolve (ev l) ⟨.builtin .delete, args, ts⟩ o.type; invoke d.target d.args : Sem Next).run P w = .ok (.value (.tuple #[])) w' := by
      simp only [resolve, Sem.run_bind, Sem.run_pure, Result.andThen, invoke, builtin]
      simp only at hr
      rw [hr]
    rw [e1]
    exact h
  · exact h.elim

theorem eff_sound (h : effVC P o l w K) : doneOp P o l w K := by
  have go : ∀ (s : Sem Value) (v : Value) (w' : World), execOp (ev l) o = (do pure (.value (← s))) → s.run P w = .ok v w' → K v w' → doneOp P o l w K := by
    intro s v w' he hr hk
    unfold doneOp
    rw [he]
    simp only [Sem.run_bind, hr, Result.andThen, Sem.run_pure]
    exact hk
  unfold effVC at h
  split at h
  · rename_i t a x ho
    obtain ⟨w', hr, hk⟩ := storeVC_sound h
    unfold doneOp
    have : (execOp (ev l) o).run P w = .ok .skip w' := by simp [execOp, ho, hr]
    rw [this]
    exact hk
  · rename_i c ho
    exact callVC_sound ho h
  · rename_i t m k x ho
    obtain ⟨w', hr, hk⟩ := h
    unfold doneOp
    have : (execOp (ev l) o).run P w = .ok .skip w' := by simp [execOp, ho, hr]
    rw [this]
    exact hk
  · rename_i t x ho
    obtain ⟨v, w', hr, hk⟩ := exSh_ex h
    exact go _ v w' (by simp [execOp, ho]) hr hk
  · rename_i it s ho
    rcases h with ⟨w', hr, hk⟩ | h
    · exact go _ _ w' (by simp [execOp, ho]) hr hk
    · split at h
      · obtain ⟨i, c, w', hr, hk⟩ := h
        exact go _ _ w' (by simp [execOp, ho]) hr hk
      · obtain ⟨k, v, w', hr, hk⟩ := h
        exact go _ _ w' (by simp [execOp, ho]) hr hk

  · rename_i s d x ho
    obtain ⟨v, w', hr, hk⟩ := exT_ex h
    exact go _ v w' (by simp [execOp, ho]) hr hk
  · rename_i t n c ho
    obtain ⟨v, w', hr, hk⟩ := exSh_ex h
    exact go _ v w' (by simp [execOp, ho]) hr hk
  · rename_i x t a c ho
    obtain ⟨v, w', hr, hk⟩ := exR_ex h
    exact go _ v w' (by simp [execOp, ho]) hr hk
  · split at h
    · rename_i v w' hr
      unfold doneOp
      rw [hr]
      exact h
    · exact h.elim
end
end Go.Vc
