/- Calls: the document's Check; CallChecks. Conditions: none. -/
import Derived.Test.YtmihgfhpmnomoaaDoorCaQ
import Derived.Test.YtmihgfhpmnomoaaDoorCak
import Derived.Test.YtmihgfhpmnomoaaDoorCl5
namespace Go.Proofs.YtmihgfhpmnomoaaDoor
open Go.Vc Go.Lib
set_option linter.unusedSimpArgs false
set_option linter.unusedVariables false
set_option maxRecDepth 100000

section
variable {e w : World} {m : Hp} {L : List HP}
theorem ref21_Check_sp {p0 : Int} {a1 a2 a3 a4 : Option Addr} {n1 c1 n2 c2 c3 n4 c4 : Nat} {cs : List Chan} (H : St e m w L) (hc : ∀ w, St e m w L → SlR encC w a3 cs) (part op a b : Int) (s : ByteArray) :
    Calls Tryd.prog 19 #[.agg #[.int .u16 p0, .slice a1 n1 c1, .slice a2 n2 c2, .slice a3 cs.length c3, .slice a4 n4 c4], .int .i64 part, .agg #[.int .i64 op, .int .i64 a, .int .i64 b, .string s]] w
    (Ret fun v w' => v = .int .i64 (checkE n2 cs part op a b s) ∧ St e m w' L) := by
  apply purlinref21_Check.calls
  unfold purlinref21_Check.F
  obtain ⟨R, hR⟩ : ∃ R : Value → World → Prop, R = fun v w' => v = .int .i64 (checkE n2 cs part op a b s) ∧ St e m w' L := ⟨_, rfl⟩
  rw [← hR]
  have fin : ∀ {E : Int} {w' : World}, checkE n2 cs part op a b s = E → St e m w' L → R (.int .i64 E) w' := fun h H => by rw [hR, h]; exact ⟨rfl, H⟩
  refine H.new fun b0 w H => H.new fun b1 w H => ?_
  refine br_dec (fun h => fin (by unfold checkE; rw [if_pos (.inl h)]) H.drop.drop) fun h1 => ?_
  refine ⟨_, _, _, H.ld, br_dec (fun h => fin (by unfold checkE; rw [if_pos (.inr h)]) H.drop.drop) fun h2 => ?_⟩
  refine ⟨_, H.ld, _, H.ld, _, H.ld, _, H.ld, ?_⟩
  refine Calls.ret (ref21_Right_sp H op a b s) ?_
  rintro v w3 ⟨rfl, H⟩
  have hpart : ¬ (part < 0 ∨ (n2 : Int) ≤ part) := by omega
  refine ⟨_, rfl, br_intro (fun h => ?_) fun h => ?_⟩
  · have h : rightE op a b s ≠ 0 := by simpa using h
    exact fin (by unfold checkE; rw [if_neg hpart, if_pos h]) H.drop.drop
  have h : rightE op a b s = 0 := by simpa using h
  obtain ⟨o1, o2⟩ := right_in h
  have hE : checkE n2 cs part op a b s = if op = 22 ∧ (a < 0 ∨ 2 < a) then 181 else if op < 23 ∨ 28 < op then 0 else if a < 0 ∨ (cs.length : Int) ≤ a then 221
      else chanE (cs[a.toNat]?.getD default).kind (IntKind.wrap .i64 (cs[a.toNat]?.getD default).from_ == part) (IntKind.wrap .i64 (cs[a.toNat]?.getD default).to_ == part) op := by
    unfold checkE; rw [if_neg hpart, if_neg (by simp [h])]
  rw [hE] at fin
  refine ⟨_, H.ld, ?_⟩
  refine Calls.ret (ref21_Name_sp H op) ?_
  rintro v w4 ⟨rfl, H⟩
  refine ⟨_, _, rfl, ?_⟩
  have e22 : ((nameB op).toList == (⟨#[102, 97, 117, 108, 116]⟩ : ByteArray).toList) = decide (op = 22) := by
    rw [ba_beq]; exact op30 (p := fun op => decide (nameB op = ⟨#[102, 97, 117, 108, 116]⟩) = decide (op = 22)) (by decide +kernel) o1 o2
  have e23 : ((nameB op).toList == (⟨#[115, 101, 110, 100]⟩ : ByteArray).toList) = decide (op = 23) := by
    rw [ba_beq]; exact op30 (p := fun op => decide (nameB op = ⟨#[115, 101, 110, 100]⟩) = decide (op = 23)) (by decide +kernel) o1 o2
  have e24 : ((nameB op).toList == (⟨#[114, 101, 99, 101, 105, 118, 101]⟩ : ByteArray).toList) = decide (op = 24) := by
    rw [ba_beq]; exact op30 (p := fun op => decide (nameB op = ⟨#[114, 101, 99, 101, 105, 118, 101]⟩) = decide (op = 24)) (by decide +kernel) o1 o2
  have e25 : ((nameB op).toList == (⟨#[119, 114, 105, 116, 101]⟩ : ByteArray).toList) = decide (op = 25) := by
    rw [ba_beq]; exact op30 (p := fun op => decide (nameB op = ⟨#[119, 114, 105, 116, 101]⟩) = decide (op = 25)) (by decide +kernel) o1 o2
  have e26 : ((nameB op).toList == (⟨#[114, 101, 97, 100]⟩ : ByteArray).toList) = decide (op = 26) := by
    rw [ba_beq]; exact op30 (p := fun op => decide (nameB op = ⟨#[114, 101, 97, 100]⟩) = decide (op = 26)) (by decide +kernel) o1 o2
  have e27 : ((nameB op).toList == (⟨#[112, 111, 114, 116, 108, 101, 110]⟩ : ByteArray).toList) = decide (op = 27) := by
    rw [ba_beq]; exact op30 (p := fun op => decide (nameB op = ⟨#[112, 111, 114, 116, 108, 101, 110]⟩) = decide (op = 27)) (by decide +kernel) o1 o2
  have e28 : ((nameB op).toList == (⟨#[112, 111, 114, 116, 114, 111, 111, 109]⟩ : ByteArray).toList) = decide (op = 28) := by
    rw [ba_beq]; exact op30 (p := fun op => decide (nameB op = ⟨#[112, 111, 114, 116, 114, 111, 111, 109]⟩) = decide (op = 28)) (by decide +kernel) o1 o2
  simp only [e22, e23, e24, e25, e27, e26, e28]
  refine ⟨fun w' => w' = w4 ∧ ¬ (op = 22 ∧ (a < 0 ∨ 2 < a)), ?_, ?_⟩
  · refine br_dec (fun g => ⟨_, H.ld, br_dec (fun g2 => fin (by rw [if_pos ⟨g, .inl g2⟩]) H.drop.drop) fun g2 => ⟨_, H.ld, br_dec (fun g3 => fin (by rw [if_pos ⟨g, .inr g3⟩]) H.drop.drop) fun g3 => ⟨rfl, fun hn => ?_⟩⟩⟩) fun g => ⟨rfl, fun hn => g hn.1⟩
    omega
  rintro dead w5 ⟨rfl, hf⟩
  rw [if_neg hf] at fin
  refine ⟨fun q w' => w' = w5 ∧ q = decide (op = 23 ∨ op = 24 ∨ op = 28), ?_, ?_⟩
  · refine br_dec (fun g => ⟨rfl, by rw [decide_eq_true]; exact .inl g⟩) fun g => br_dec (fun g2 => ⟨rfl, by rw [decide_eq_true]; exact .inr (.inl g2)⟩) fun g2 => ⟨rfl, by simp [g, g2]⟩
  rintro dead w6 queue ⟨rfl, rfl⟩
  refine ⟨fun q w' => w' = w6 ∧ q = decide (op = 25 ∨ op = 26), ?_, ?_⟩
  · refine br_dec (fun g => ⟨rfl, by rw [decide_eq_true]; exact .inl g⟩) fun g => ⟨rfl, by simp [g]⟩
  rintro dead w7 sample ⟨rfl, rfl⟩
  have k0 : ¬ (op < 23 ∨ 28 < op) → purlinref21_Check.K0 part R b0 b1 (nameB op) (decide (op = 23 ∨ op = 24 ∨ op = 28)) (decide (op = 25 ∨ op = 26)) w7 := by
    intro hop
    rw [if_neg hop] at fin
    unfold purlinref21_Check.K0
    simp only [e22, e23, e24, e25, e27, e26, e28]
    refine ⟨fun w' => w' = w7 ∧ ¬ (a < 0 ∨ (cs.length : Int) ≤ a), ?_, ?_⟩
    · refine ⟨_, H.ld, br_dec (fun g => fin (by rw [if_pos (.inl g)]) H.drop.drop) fun g => ⟨_, H.ld, _, _, _, H.ld, br_dec (fun g2 => fin (by rw [if_pos (.inr g2)]) H.drop.drop) fun g2 => ⟨rfl, by omega⟩⟩⟩
    rintro dead w8 ⟨rfl, hb⟩
    rw [if_neg hb] at fin
    refine ⟨_, _, _, H.ld, _, H.ld, by omega, by omega, ?_⟩
    obtain ⟨k, rfl⟩ := Int.eq_ofNat_of_zero_le (show 0 ≤ a by omega)
    obtain ⟨x, hx⟩ : ∃ x, cs[k]? = some x := ⟨_, List.getElem?_eq_getElem (show k < cs.length by omega)⟩
    obtain ⟨g, go, rfl, hcell⟩ := (hc _ H.drop.drop) k _ hx
    rw [toNat_nat, hx, Option.getD_some] at fin
    simp only [okP_some, pb_some, po_some, toNat_nat]
    refine ⟨_, hcell 0 _ rfl, _, hcell 1 _ rfl, _, hcell 2 _ rfl, _, hcell 3 _ rfl, _, hcell 4 _ rfl, _, hcell 5 _ rfl, ?_⟩
    refine H.new fun b2 w H => H.st fun w H => ?_
    have fin2 : ∀ {E : Int} {w' : World} {A B C : HP}, chanE x.kind (IntKind.wrap .i64 x.from_ == part) (IntKind.wrap .i64 x.to_ == part) op = E → St e m w' (A :: B :: C :: L) → R (.int .i64 E) w' := fun h H => fin h H.drop.drop.drop
    refine ⟨fun w' => w' = w ∧ (if op = 23 ∨ op = 24 ∨ op = 28 then x.kind = 0 else if op = 27 then True else x.kind = 1), ?_, ?_⟩
    · have bad : ¬ (if op = 23 ∨ op = 24 ∨ op = 28 then x.kind = 0 else if op = 27 then True else x.kind = 1) → R (.int .i64 190) w := fun hn => fin2 (by unfold chanE; rw [if_pos hn]) H
      refine br_dec (fun g => ?_) fun g => ?_
      · rw [if_pos g] at bad ⊢
        refine ⟨_, H.ld, br_intro (fun g2 => bad (by simpa using g2)) fun g2 => ?_⟩
        have g2 : x.kind = 0 := by simpa using g2
        exact br_dec (fun g3 => absurd g3 (by omega)) fun g3 => ⟨rfl, g2⟩
      · rw [if_neg g] at bad ⊢
        refine br_dec (fun g3 => ?_) fun g3 => ?_
        · rw [if_neg (by omega)] at bad ⊢
          refine ⟨_, H.ld, br_intro (fun g2 => bad (by simpa using g2)) fun g2 => ⟨rfl, by simpa using g2⟩⟩
        · rw [if_pos (by omega)]; exact ⟨rfl, trivial⟩
    rintro dead w11 ⟨rfl, hk⟩
    refine H.drw fun w H => ⟨_, H.ld, _, H.ld, ?_⟩
    refine ⟨fun q w' => w' = w ∧ q = decide (op = 23 ∨ op = 25), br_dec (fun g => ⟨rfl, by simp [g]⟩) fun g => ⟨rfl, by simp [g]⟩, ?_⟩
    rintro dead w14 out ⟨rfl, rfl⟩
    refine ⟨fun q w' => w' = w14 ∧ q = decide (op = 24 ∨ op = 26), br_dec (fun g => ⟨rfl, by simp [g]⟩) fun g => ⟨rfl, by simp [g]⟩, ?_⟩
    rintro dead w15 in1 ⟨rfl, rfl⟩
    have fin3 : ∀ {E : Int}, (if ((op = 23 ∨ op = 25) ∧ (IntKind.wrap .i64 x.from_ == part) = false) ∨ ((op = 24 ∨ op = 26) ∧ (IntKind.wrap .i64 x.to_ == part) = false) ∨ ((IntKind.wrap .i64 x.from_ == part) = false ∧ (IntKind.wrap .i64 x.to_ == part) = false) then (222 : Int) else 0) = E → R (.int .i64 E) w15 := fun h => fin2 (by unfold chanE; rw [if_neg (fun hn => hn hk)]; exact h) H
    clear fin2 fin
    generalize (IntKind.wrap .i64 x.from_ == part) = F at *
    generalize (IntKind.wrap .i64 x.to_ == part) = T at *
    by_cases ho : op = 23 ∨ op = 25 <;> by_cases hi : op = 24 ∨ op = 26
    · omega
    · rw [decide_eq_true ho, decide_eq_false hi]
      simp only [ho, hi, true_and, false_and, false_or] at fin3
      cases F <;> cases T <;> simp only [br_true, br_false, Bool.not_true, Bool.not_false] <;> exact fin3 (by simp)
    · rw [decide_eq_true hi, decide_eq_false ho]
      simp only [ho, hi, true_and, false_and, false_or] at fin3
      cases F <;> cases T <;> simp only [br_true, br_false, Bool.not_true, Bool.not_false] <;> exact fin3 (by simp)
    · rw [decide_eq_false ho, decide_eq_false hi]
      simp only [ho, hi, true_and, false_and, false_or] at fin3
      cases F <;> cases T <;> simp only [br_true, br_false, Bool.not_true, Bool.not_false] <;> exact fin3 (by simp)
  refine br_intro (fun g => br_intro (fun g2 => br_intro (fun g3 => fin (if_pos ?_) H.drop.drop) fun g3 => k0 ?_) fun g2 => k0 ?_) fun g => k0 ?_
  all_goals simp at *
  all_goals omega
end

theorem CallChecks_any {w0 : World} (hv : LibV (hpOf w0)) {p0 : Int} {a1 a2 a3 a4 : Option Addr} {n1 c1 n2 c2 c3 n4 c4 : Nat} {cs : List Chan} (hc : SlR encC w0 a3 cs) (part op a b : Int) (s : ByteArray) :
    Calls Tryd.prog 7 #[.agg #[.int .u16 p0, .slice a1 n1 c1, .slice a2 n2 c2, .slice a3 cs.length c3, .slice a4 n4 c4], .int .i64 part, .agg #[.int .i64 op, .int .i64 a, .int .i64 b, .string s]] w0 (Ret fun v w' => v = .bool true ∧ Ch [] w0 w') := by
  have H := St.init w0
  have hm := hle_refl (hpOf w0)
  have hI := hc.sli
  apply purlinlaw21_CallChecks.calls
  unfold purlinlaw21_CallChecks.F
  refine H.new fun b0 w H => H.new fun b1 w H => ?_
  refine ⟨_, H.ld, _, H.ld, _, H.ld, _, H.ld, ?_⟩
  refine Calls.ret (few21_sp H op a b s) ?_
  rintro v w1 ⟨rfl, H⟩
  have aw : ∀ {w2 : World} {L : List HP}, St w0 (hpOf w0) w2 L → Calls Tryd.prog 12 #[] w2 (fun e w4 => ∃ t23 : Bool, e = .returned (.bool t23) ∧ (Value.bool t23 = .bool true ∧ Ch [] w0 w4)) := by
    intro w2 L H2
    refine Calls.ret (awake21_sp H2 hv) ?_
    rintro v w3 ⟨rfl, H3⟩
    exact ⟨_, rfl, rfl, H3.fin hm⟩
  refine ⟨_, rfl, br_intro (fun _ => aw H) fun _ => ?_⟩
  refine ⟨_, _, _, H.ld, br_dec (fun _ => aw H) fun _ => ⟨_, _, _, H.ld, br_dec (fun _ => aw H) fun _ => ?_⟩⟩
  refine H.drwS (fun w => St w0 (hpOf w0) w [row b1 30 [.int .i64 op, .int .i64 a, .int .i64 b, .string s], row b0 45 [.int .u16 p0, .slice a1 n1 c1, .slice a2 n2 c2, .slice a3 cs.length c3, .slice a4 n4 c4]]) (fun w H => H) fun w H => ?_
  refine Calls.ret (awake21_sp H hv) ?_
  rintro v w2 ⟨rfl, H⟩
  refine ⟨_, rfl, H, br_t rfl ?_⟩
  refine ⟨_, H.ld, _, _, _, H.ld, _, _, _, H.ld, _, _, _, H.ld, _, _, _, H.ld, _, H.ld, _, H.ld, _, H.ld, _, H.ld, ?_⟩
  refine ⟨_, fun _ H => H.ld, _, _, _, fun _ H => H.ld, _, _, _, fun _ H => H.ld, _, _, _, fun _ H => H.ld, _, _, _, fun _ H => H.ld, _, fun _ H => H.ld, _, fun _ H => H.ld, _, fun _ H => H.ld, _, fun _ H => H.ld, ?_⟩
  refine Calls.ret (call_Check_sp H hv.vars (fun w H => H.sli hI) part op a b s) ?_
  rintro v w3 ⟨rfl, H⟩
  refine ⟨_, rfl, H, ?_⟩
  refine Calls.ret (ref21_Check_sp H (fun w H => H.sli hI) part op a b s) ?_
  rintro v w4 ⟨rfl, H⟩
  exact ⟨_, rfl, by simp, H.fin hm⟩
end Go.Proofs.YtmihgfhpmnomoaaDoor
