/- Calls: what a call has, and why one may not be. Conditions: none. -/
import Derived.Test.YtmihgfhpmnomoaaDoorCaA
namespace Go.Proofs.YtmihgfhpmnomoaaDoor
open Go.Vc
set_option linter.unusedSimpArgs false
set_option linter.unusedVariables false
set_option maxRecDepth 100000

/-- What the program's variables hold. -/
structure Vars (m : Hp) : Prop where
  two : ∀ o v, [Value.bool true, .bool true, .bool false][o]? = some v → mcell m 0 o = some v
  texts : ∀ o v, [Value.bool true, .bool false, .bool true][o]? = some v → mcell m 1 o = some v
  nothing : ∀ o v, [Value.bool false, .bool false, .bool false][o]? = some v → mcell m 2 o = some v
  one : ∀ o v, [Value.bool true, .bool false, .bool false][o]? = some v → mcell m 3 o = some v
theorem Vars.mono {m m' : Hp} (h : Vars m) (hl : hle m m') : Vars m' := ⟨fun o v e => mcell_le hl (h.two o v e), fun o v e => mcell_le hl (h.texts o v e), fun o v e => mcell_le hl (h.nothing o v e), fun o v e => mcell_le hl (h.one o v e)⟩

def fA (op : Int) : Bool := !(decide (op = 9 ∨ op = 16 ∨ op = 17 ∨ op = 18 ∨ op = 19 ∨ op = 20 ∨ op = 21 ∨ op = 29))
def fB (op : Int) : Bool := decide (op = 1 ∨ op = 4 ∨ op = 14)
def fS (op : Int) : Bool := decide (op = 23 ∨ op = 25)
theorem has_of {op : Int} (h1 : 1 ≤ op) (h2 : op ≤ 30) : fA op = !(hasN op == 0) ∧ fB op = (hasN op == 2) ∧ fS op = (hasN op == 3) :=
  op30 (p := fun op => fA op = !(hasN op == 0) ∧ fB op = (hasN op == 2) ∧ fS op = (hasN op == 3)) (by decide +kernel) h1 h2

section
variable {e w : World} {m : Hp} {L : List HP}
theorem call_fields_sp (H : St e m w L) (hv : Vars m) (op : Int) : Calls Tryd.prog 21 #[.int .i64 op] w (Ret fun v w' => v = .agg #[.bool (fA op), .bool (fB op), .bool (fS op)] ∧ St e m w' L) := by
  apply call_fields.calls
  unfold call_fields.F
  refine H.new fun b w H => ?_
  obtain ⟨R, hR⟩ : ∃ R : Value → World → Prop, R = fun v w' => v = .agg #[.bool (fA op), .bool (fB op), .bool (fS op)] ∧ St e m w' L := ⟨_, rfl⟩
  rw [← hR]
  have fin : ∀ {x y z : Bool}, fA op = x → fB op = y → fS op = z → storeC w b 0 [.bool x, .bool y, .bool z] fun w7 =>
      ∃ r6 : Bool, w7.cell? ⟨b, 0, none⟩ = some (.bool r6) ∧ ∃ r7 : Bool, w7.cell? ⟨b, 1, none⟩ = some (.bool r7) ∧ ∃ r8 : Bool, w7.cell? ⟨b, 2, none⟩ = some (.bool r8) ∧ R (.agg #[.bool r6, .bool r7, .bool r8]) w7 := by
    intro x y z h1 h2 h3
    refine H.st fun w H => ?_
    refine ⟨_, H.ld, _, H.ld, _, H.ld, ?_⟩
    rw [hR, h1, h2, h3]
    exact ⟨rfl, H.drop⟩
  have k0 : ∀ c : Bool, (c = true ↔ (op = 9 ∨ op = 16 ∨ op = 17 ∨ op = 18 ∨ op = 19 ∨ op = 20 ∨ op = 21 ∨ op = 29)) → ¬ (op = 1 ∨ op = 4 ∨ op = 14) → ¬ (op = 23 ∨ op = 25) → call_fields.K0 R b c w := by
    intro c hc h1 h2
    unfold call_fields.K0
    have e2 : fB op = false := by unfold fB; simpa using h1
    have e3 : fS op = false := by unfold fS; simpa using h2
    refine br_intro (fun h => ?_) fun h => ?_
    · refine ⟨_, H.mc (hv.nothing 0 _ rfl), _, H.mc (hv.nothing 1 _ rfl), _, H.mc (hv.nothing 2 _ rfl), fin ?_ e2 e3⟩
      unfold fA; rw [decide_eq_true (hc.1 h)]; rfl
    · refine ⟨_, H.mc (hv.one 0 _ rfl), _, H.mc (hv.one 1 _ rfl), _, H.mc (hv.one 2 _ rfl), fin ?_ e2 e3⟩
      unfold fA; rw [decide_eq_false (fun hn => by rw [hc.2 hn] at h; cases h)]; rfl
  have k1 : ∀ c : Bool, (c = true ↔ (op = 23 ∨ op = 25)) → ¬ (op = 1 ∨ op = 4 ∨ op = 14) → call_fields.K1 op R b c w := by
    intro c hc h1
    unfold call_fields.K1
    have e2 : fB op = false := by unfold fB; simpa using h1
    refine br_intro (fun h => ?_) fun h => ?_
    · have h := hc.1 h
      refine ⟨_, H.mc (hv.texts 0 _ rfl), _, H.mc (hv.texts 1 _ rfl), _, H.mc (hv.texts 2 _ rfl), fin ?_ e2 ?_⟩
      · unfold fA; rw [decide_eq_false (by omega)]; rfl
      · unfold fS; exact decide_eq_true h
    · have h2 : ¬ (op = 23 ∨ op = 25) := fun hn => by rw [hc.2 hn] at h; cases h
      refine br_intro (fun h => k0 _ ?_ h1 h2) fun n1 => br_intro (fun h => k0 _ ?_ h1 h2) fun n2 => br_intro (fun h => k0 _ ?_ h1 h2) fun n3 => br_intro (fun h => k0 _ ?_ h1 h2) fun n4 => br_intro (fun h => k0 _ ?_ h1 h2) fun n5 => br_intro (fun h => k0 _ ?_ h1 h2) fun n6 => br_intro (fun h => k0 _ ?_ h1 h2) fun n7 => k0 _ ?_ h1 h2
      all_goals simp at *
      all_goals omega
  have k2 : ∀ c : Bool, (c = true ↔ (op = 1 ∨ op = 4 ∨ op = 14)) → call_fields.K2 op R b c w := by
    intro c hc
    unfold call_fields.K2
    refine br_intro (fun h => ?_) fun h => ?_
    · have h := hc.1 h
      refine ⟨_, H.mc (hv.two 0 _ rfl), _, H.mc (hv.two 1 _ rfl), _, H.mc (hv.two 2 _ rfl), fin ?_ ?_ ?_⟩
      · unfold fA; rw [decide_eq_false (by omega)]; rfl
      · unfold fB; exact decide_eq_true h
      · unfold fS; exact decide_eq_false (by omega)
    · have h1 : ¬ (op = 1 ∨ op = 4 ∨ op = 14) := fun hn => by rw [hc.2 hn] at h; cases h
      refine br_intro (fun h => k1 _ ?_ h1) fun n1 => k1 _ ?_ h1
      all_goals simp at *
      all_goals omega
  refine br_intro (fun h => k2 _ ?_) fun n1 => br_intro (fun h => k2 _ ?_) fun n2 => k2 _ ?_
  all_goals simp at *
  all_goals omega

/-- Why a call may not be, by itself. -/
def rightE (op a b : Int) (s : ByteArray) : Int :=
  if nameB op = ⟨#[]⟩ then 211 else if (fA op = false ∧ a ≠ 0) ∨ (fB op = false ∧ b ≠ 0) ∨ (fS op = false ∧ s ≠ ⟨#[]⟩) then 220 else 0
theorem call_right_sp (H : St e m w L) (hv : Vars m) (op a b : Int) (s : ByteArray) : Calls Tryd.prog 20 #[.agg #[.int .i64 op, .int .i64 a, .int .i64 b, .string s]] w (Ret fun v w' => v = .int .i64 (rightE op a b s) ∧ St e m w' L) := by
  apply call_right.calls
  unfold call_right.F
  refine H.new fun bk w H => ⟨_, H.ld, ?_⟩
  refine Calls.ret (call_fields_sp H hv op) ?_
  rintro v w2 ⟨rfl, H⟩
  refine ⟨_, _, _, rfl, ?_⟩
  refine H.new fun b1 w H => ?_
  refine H.st fun w H => ?_
  refine ⟨_, H.ld, ?_⟩
  refine Calls.ret (call_Name_sp H op) ?_
  rintro v w3 ⟨rfl, rfl⟩
  refine ⟨_, rfl, ?_⟩
  rw [ba_beq]
  unfold rightE
  refine br_dec (fun h => ⟨by rw [if_pos h], H.drop.drop⟩) fun h => ?_
  rw [if_neg h]
  have H' := H.drop.drop
  have ok : ¬ ((fA op = false ∧ a ≠ 0) ∨ (fB op = false ∧ b ≠ 0) ∨ (fS op = false ∧ s ≠ ⟨#[]⟩)) → (Value.int .i64 0 = .int .i64 (if (fA op = false ∧ a ≠ 0) ∨ (fB op = false ∧ b ≠ 0) ∨ (fS op = false ∧ s ≠ ⟨#[]⟩) then 220 else 0) ∧ St e m w3 L) := fun h => ⟨by rw [if_neg h], H'⟩
  have no : ((fA op = false ∧ a ≠ 0) ∨ (fB op = false ∧ b ≠ 0) ∨ (fS op = false ∧ s ≠ ⟨#[]⟩)) → (Value.int .i64 220 = .int .i64 (if (fA op = false ∧ a ≠ 0) ∨ (fB op = false ∧ b ≠ 0) ∨ (fS op = false ∧ s ≠ ⟨#[]⟩) then 220 else 0) ∧ St e m w3 L) := fun h => ⟨by rw [if_pos h], H'⟩
  have lA : w3.cell? ⟨b1, 0, none⟩ = some (.bool (fA op)) := H.ld
  have lB : w3.cell? ⟨b1, 1, none⟩ = some (.bool (fB op)) := H.ld
  have lS : w3.cell? ⟨b1, 2, none⟩ = some (.bool (fS op)) := H.ld
  have la : w3.cell? ⟨bk, 1, none⟩ = some (.int .i64 a) := H.ld
  have lb : w3.cell? ⟨bk, 2, none⟩ = some (.int .i64 b) := H.ld
  have ls : w3.cell? ⟨bk, 3, none⟩ = some (.string s) := H.ld
  clear H
  refine ⟨by omega, by omega, _, lA, br_intro (fun gA => ⟨_, la, br_intro (fun g => no (.inl ?_)) fun g => ?_⟩) fun gA => ?_⟩
  · exact ⟨by simpa using gA, by simpa using g⟩
  all_goals refine ⟨by omega, by omega, _, lB, br_intro (fun gB => ⟨_, lb, br_intro (fun g2 => no (.inr (.inl ⟨by simpa using gB, by simpa using g2⟩))) fun g2 => ?_⟩) fun gB => ?_⟩
  all_goals refine ⟨by omega, by omega, _, lS, br_intro (fun gS => ⟨_, ls, ?_⟩) fun gS => ok ?_⟩
  all_goals try rw [ba_beq]
  all_goals first
    | (refine br_intro (fun g3 => no (.inr (.inr ⟨by simpa using gS, by simpa using g3⟩))) fun g3 => ok ?_; simp_all; done)
    | (simp_all; done)
theorem ref21_Right_sp (H : St e m w L) (op a b : Int) (s : ByteArray) : Calls Tryd.prog 23 #[.agg #[.int .i64 op, .int .i64 a, .int .i64 b, .string s]] w (Ret fun v w' => v = .int .i64 (rightE op a b s) ∧ St e m w' L) := by
  apply purlinref21_Right.calls
  unfold purlinref21_Right.F
  refine H.new fun bk w H => ⟨_, H.ld, ?_⟩
  refine Calls.ret (ref21_Name_sp H op) ?_
  rintro v w3 ⟨rfl, H⟩
  refine ⟨_, _, rfl, ?_⟩
  rw [ba_beq]
  unfold rightE
  refine br_dec (fun h => ⟨by rw [if_pos h], H.drop⟩) fun h => ?_
  rw [if_neg h]
  have hin : 1 ≤ op ∧ op ≤ 30 := Classical.not_not.1 fun hn => h (nameB_out hn).1
  obtain ⟨eA, eB, eS⟩ := has_of hin.1 hin.2
  rw [eA, eB, eS]
  obtain ⟨z, hz⟩ : ∃ z, z = hasN op := ⟨_, rfl⟩
  rw [← hz]
  have H' := H.drop
  have ok : ¬ (((!(z == 0)) = false ∧ a ≠ 0) ∨ ((z == 2) = false ∧ b ≠ 0) ∨ ((z == 3) = false ∧ s ≠ ⟨#[]⟩)) → (Value.int .i64 0 = .int .i64 (if ((!(z == 0)) = false ∧ a ≠ 0) ∨ ((z == 2) = false ∧ b ≠ 0) ∨ ((z == 3) = false ∧ s ≠ ⟨#[]⟩) then 220 else 0) ∧ St e m w3 L) := fun h => ⟨by rw [if_neg h], H'⟩
  have no : (((!(z == 0)) = false ∧ a ≠ 0) ∨ ((z == 2) = false ∧ b ≠ 0) ∨ ((z == 3) = false ∧ s ≠ ⟨#[]⟩)) → (Value.int .i64 220 = .int .i64 (if ((!(z == 0)) = false ∧ a ≠ 0) ∨ ((z == 2) = false ∧ b ≠ 0) ∨ ((z == 3) = false ∧ s ≠ ⟨#[]⟩) then 220 else 0) ∧ St e m w3 L) := fun h => ⟨by rw [if_pos h], H'⟩
  have la : w3.cell? ⟨bk, 1, none⟩ = some (.int .i64 a) := H.ld
  have lb : w3.cell? ⟨bk, 2, none⟩ = some (.int .i64 b) := H.ld
  have ls : w3.cell? ⟨bk, 3, none⟩ = some (.string s) := H.ld
  clear H
  refine br_intro (fun gA => ⟨_, la, br_intro (fun g => no (.inl ⟨by simpa using gA, by simpa using g⟩)) fun g => ?_⟩) fun gA => ?_
  all_goals refine br_intro (fun gB => ⟨_, lb, br_intro (fun g2 => no (.inr (.inl ⟨by simpa using gB, by simpa using g2⟩))) fun g2 => ?_⟩) fun gB => ?_
  all_goals refine br_intro (fun gS => ⟨_, ls, ?_⟩) fun gS => ok ?_
  all_goals try rw [ba_beq]
  all_goals first
    | (refine br_intro (fun g3 => no (.inr (.inr ⟨by simpa using gS, by simpa using g3⟩))) fun g3 => ok ?_; simp_all; done)
    | (simp_all; done)
end
end Go.Proofs.YtmihgfhpmnomoaaDoor
