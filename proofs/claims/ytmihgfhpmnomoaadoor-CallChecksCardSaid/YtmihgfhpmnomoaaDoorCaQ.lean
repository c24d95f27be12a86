/- Calls: CallRights and CallBack return true. Conditions: none. -/
import Derived.Test.YtmihgfhpmnomoaaDoorCaO
import Derived.Test.YtmihgfhpmnomoaaDoorCaC
import Derived.Test.YtmihgfhpmnomoaaDoorCl6
import Derived.Test.YtmihgfhpmnomoaaDoorCl4
import Derived.Test.YtmihgfhpmnomoaaDoorVcEq
namespace Go.Proofs.YtmihgfhpmnomoaaDoor
open Go.Vc Go.Lib
set_option linter.unusedSimpArgs false
set_option linter.unusedVariables false
set_option maxRecDepth 100000

theorem ba_self (s : ByteArray) : (s == s) = true := by
  cases s with
  | mk d => show ((d : Array UInt8) == d) = true; simp
section
variable {e w : World} {m : Hp} {L : List HP}
theorem few21_sp (H : St e m w L) (op a b : Int) (s : ByteArray) : Calls Tryd.prog 13 #[.agg #[.int .i64 op, .int .i64 a, .int .i64 b, .string s]] w (Ret fun v w' => v = .bool (decide ((s.size : Int) ≤ 1000)) ∧ St e m w' L) := by
  apply purlinlaw21_few.calls
  unfold purlinlaw21_few.F
  refine H.new fun bk w H => ⟨_, H.ld, rfl, H.drop⟩
end

/-- What a call that a partition may make has. -/
theorem check_zero {parts : Nat} {cs : List Chan} {part op a b : Int} {s : ByteArray} (h : checkE parts cs part op a b s = 0) :
    1 ≤ op ∧ op ≤ 30 ∧ 0 ≤ part ∧ part < parts ∧ ((op < 23 ∨ 28 < op) → s = ⟨#[]⟩) ∧ (23 ≤ op → op ≤ 28 → 0 ≤ a ∧ a < cs.length ∧
      (op = 23 ∨ op = 25 → (IntKind.wrap .i64 (cs[a.toNat]?.getD default).from_ == part) = true) ∧ (op = 24 ∨ op = 26 → (IntKind.wrap .i64 (cs[a.toNat]?.getD default).to_ == part) = true) ∧
      ((IntKind.wrap .i64 (cs[a.toNat]?.getD default).from_ == part) = true ∨ (IntKind.wrap .i64 (cs[a.toNat]?.getD default).to_ == part) = true)) := by
  unfold checkE at h
  split at h
  · cases h
  rename_i h1
  split at h
  · rename_i h2; exact absurd h h2
  rename_i h2
  have h2 : rightE op a b s = 0 := by simpa using h2
  obtain ⟨o1, o2⟩ := right_in h2
  obtain ⟨_, _, hS⟩ := right_zero h2
  refine ⟨o1, o2, by omega, by omega, fun ho => hS ?_, fun g1 g2 => ?_⟩
  · unfold fS; exact decide_eq_false (by omega)
  · rw [if_neg (by omega), if_neg (by omega)] at h
    split at h
    · cases h
    rename_i h3
    generalize (IntKind.wrap .i64 (cs[a.toNat]?.getD default).from_ == part) = F at *
    generalize (IntKind.wrap .i64 (cs[a.toNat]?.getD default).to_ == part) = T at *
    refine ⟨by omega, by omega, ?_⟩
    unfold chanE at h
    have hP : ¬ (((op = 23 ∨ op = 25) ∧ F = false) ∨ ((op = 24 ∨ op = 26) ∧ T = false) ∨ (F = false ∧ T = false)) := fun hP => by
      rw [if_pos hP] at h
      have : ∀ (c : Prop) [Decidable c], (if c then (190 : Int) else 222) ≠ 0 := by intro c _; split <;> decide
      exact this _ h
    clear h h2
    cases F <;> cases T <;> simp_all

theorem CallRights_any {w0 : World} (hv : LibV (hpOf w0)) {p0 : Int} {a1 a2 a3 a4 : Option Addr} {n1 c1 n2 c2 c3 n4 c4 : Nat} {cs : List Chan} (hc : SlR encC w0 a3 cs) (part op a b : Int) (s : ByteArray) :
    Calls Tryd.prog 8 #[.agg #[.int .u16 p0, .slice a1 n1 c1, .slice a2 n2 c2, .slice a3 cs.length c3, .slice a4 n4 c4], .int .i64 part, .agg #[.int .i64 op, .int .i64 a, .int .i64 b, .string s]] w0 (Ret fun v w' => v = .bool true ∧ Ch [] w0 w') := by
  have H := St.init w0
  have hm := hle_refl (hpOf w0)
  have hI := hc.sli
  apply purlinlaw21_CallRights.calls
  unfold purlinlaw21_CallRights.F
  refine H.new fun b0 w H => H.new fun b1 w H => ?_
  refine ⟨_, H.ld, _, H.ld, _, H.ld, _, H.ld, ?_⟩
  refine Calls.ret (few21_sp H op a b s) ?_
  rintro v w1 ⟨rfl, H⟩
  have aw : ∀ {w2 : World} {L : List HP}, St w0 (hpOf w0) w2 L → Calls Tryd.prog 12 #[] w2 (fun e w4 => ∃ t23 : Bool, e = .returned (.bool t23) ∧ (Value.bool t23 = .bool true ∧ Ch [] w0 w4)) := by
    intro w2 L H2
    refine Calls.ret (awake21_sp H2 hv) ?_
    rintro v w3 ⟨rfl, H3⟩
    exact ⟨_, rfl, rfl, H3.fin hm⟩
  refine ⟨_, rfl, br_intro (fun _ => aw H) fun _ => ?_⟩
  refine ⟨_, _, _, H.ld, br_dec (fun _ => aw H) fun _ => ⟨_, _, _, H.ld, br_dec (fun _ => aw H) fun _ => ?_⟩⟩
  refine Calls.ret (awake21_sp H hv) ?_
  rintro v w2 ⟨rfl, H⟩
  refine ⟨_, rfl, br_f rfl ?_⟩
  refine ⟨_, H.ld, _, _, _, H.ld, _, _, _, H.ld, _, _, _, H.ld, _, _, _, H.ld, _, H.ld, _, H.ld, _, H.ld, _, H.ld, ?_⟩
  refine Calls.ret (call_Check_sp H hv.vars (fun w H => H.sli hI) part op a b s) ?_
  rintro v w3 ⟨rfl, H⟩
  refine ⟨_, rfl, br_intro (fun _ => aw H) fun h => ?_⟩
  have h : checkE n2 cs part op a b s = 0 := by simpa using h
  obtain ⟨o1, o2, q1, q2, hs, hch⟩ := check_zero h
  refine ⟨_, H.ld, br_f (by simp; omega) ⟨_, H.ld, br_f (by simp; omega) (br_f (by simp; omega) ⟨_, _, _, H.ld, br_f (by simp; omega) ⟨_, H.ld, ?_⟩⟩)⟩⟩
  refine br_dec (fun g => ?_) fun g1 => ?_
  · exact ⟨_, H.ld, by rw [hs (.inl g)]; simp, H.fin hm⟩
  refine ⟨_, H.ld, br_dec (fun g => ?_) fun g2 => ?_⟩
  · exact ⟨_, H.ld, by rw [hs (.inr g)]; simp, H.fin hm⟩
  obtain ⟨z1, z2, zf, zt, ze⟩ := hch (by omega) (by omega)
  refine ⟨_, H.ld, br_f (by simp; omega) ⟨_, H.ld, _, _, _, H.ld, br_f (by simp; omega) ⟨_, _, _, H.ld, _, H.ld, z1, z2, ?_⟩⟩⟩
  obtain ⟨k, rfl⟩ := Int.eq_ofNat_of_zero_le z1
  obtain ⟨x, hx⟩ : ∃ x, cs[k]? = some x := ⟨_, List.getElem?_eq_getElem (show k < cs.length by omega)⟩
  rw [toNat_nat, hx, Option.getD_some] at zf zt ze
  obtain ⟨g, go, rfl, hcell⟩ := (H.sli hI) k _ hx
  simp only [okP_some, toNat_nat]
  refine ⟨_, hcell 0 _ rfl, _, hcell 1 _ rfl, _, hcell 2 _ rfl, _, hcell 3 _ rfl, _, hcell 4 _ rfl, _, hcell 5 _ rfl, ?_⟩
  refine H.new fun b2 w H => ?_
  refine H.st fun w H => ?_
  refine ⟨_, H.ld, br_intro (fun g => ?_) fun n1 => ⟨_, H.ld, br_intro (fun g => ?_) fun n2 => ⟨_, H.ld, br_intro (fun g => ?_) fun n3 => ⟨_, H.ld, br_intro (fun g => ?_) fun n4 => ⟨_, H.ld, br_intro (fun g => ⟨trivial, H.fin hm⟩) fun n5 => ?_⟩⟩⟩⟩⟩
  · exact ⟨_, H.ld, by rw [zf (.inl (by simpa using g))], H.fin hm⟩
  · exact ⟨_, H.ld, by rw [zf (.inr (by simpa using g))], H.fin hm⟩
  · exact ⟨_, H.ld, by rw [zt (.inl (by simpa using g))], H.fin hm⟩
  · exact ⟨_, H.ld, by rw [zt (.inr (by simpa using g))], H.fin hm⟩
  · refine ⟨_, H.ld, ?_, H.fin hm⟩
    rcases ze with h | h
    · rw [h] at n5; cases n5
    · rw [h]

theorem CallBack_any {w0 : World} (hv : LibV (hpOf w0)) {op a b : Int} (ha : inR a) (hb : inR b) (s t : ByteArray) :
    Calls Tryd.prog 6 #[.agg #[.int .i64 op, .int .i64 a, .int .i64 b, .string s], .string t] w0 (Ret fun v w' => v = .bool true ∧ Ch [] w0 w') := by
  have H := St.init w0
  have hm := hle_refl (hpOf w0)
  apply purlinlaw21_CallBack.calls
  unfold purlinlaw21_CallBack.F
  refine H.new fun b0 w H => ?_
  refine ⟨_, H.ld, _, H.ld, _, H.ld, _, H.ld, ?_⟩
  refine Calls.ret (few21_sp H op a b s) ?_
  rintro v w1 ⟨rfl, H⟩
  have aw : ∀ {w2 : World} {L : List HP}, St w0 (hpOf w0) w2 L → Calls Tryd.prog 12 #[] w2 (fun e w4 => ∃ t23 : Bool, e = .returned (.bool t23) ∧ (Value.bool t23 = .bool true ∧ Ch [] w0 w4)) := by
    intro w2 L H2
    refine Calls.ret (awake21_sp H2 hv) ?_
    rintro v w3 ⟨rfl, H3⟩
    exact ⟨_, rfl, rfl, H3.fin hm⟩
  refine ⟨_, rfl, br_intro (fun _ => aw H) fun hs => br_dec (fun _ => aw H) fun ht => ?_⟩
  have hs0 : s.size ≤ 1000 := by simp at hs; omega
  have hs : s.size ≤ 1000000 := by omega
  have ht : t.size ≤ 1000000 := by omega
  have k0 : ∀ {w2 : World} {L : List HP}, St w0 (hpOf w0) w2 L → purlinlaw21_CallBack.K0 t (fun v w' => v = .bool true ∧ Ch [] w0 w') w2 := by
    intro w2 L H
    unfold purlinlaw21_CallBack.K0
    refine Calls.ret (call_Parse_sp H hv t ht) ?_
    rintro v w3 ⟨op', a', b', s', er, rfl, hp, H⟩
    refine ⟨_, _, _, _, _, rfl, ?_⟩
    refine H.new fun b2 w H => H.st fun w H => ?_
    refine br_intro (fun h => ?_) fun h => aw H
    have h : er = 0 := by simpa using h
    subst h
    rcases hp with ⟨_, hr, ha', hb', he⟩ | ⟨h, _⟩
    · refine ⟨_, H.ld, _, H.ld, _, H.ld, _, H.ld, ?_⟩
      have hs' : s'.size ≤ 1000000 := by
        obtain ⟨o1, o2⟩ := right_in hr
        obtain ⟨_, _, hS⟩ := right_zero hr
        cases hf : fS op' with
        | false => rw [hS hf]; decide
        | true =>
          have := congrArg List.length he
          unfold showL at this
          rw [if_pos hf] at this
          simp at this
          have h1 := ba_size s'
          have h2 := ba_size t
          omega
      refine Calls.ret (call_Show_sp H hv ha' hb' hs') ?_
      rintro v w4 ⟨rfl, H⟩
      rw [hr, if_neg (by simp), ← he, baL_of]
      refine ⟨_, _, rfl, br_f rfl (br_f (by simp) (aw H))⟩
    · cases h
  refine ⟨_, H.ld, _, H.ld, _, H.ld, _, H.ld, ?_⟩
  refine Calls.ret (call_Show_sp H hv ha hb hs) ?_
  rintro v w4 ⟨rfl, H⟩
  refine ⟨_, _, rfl, br_intro (fun h => ?_) fun h => k0 H⟩
  have h : rightE op a b s = 0 := by simpa using h
  rw [h, if_neg (by simp)]
  have hlen : (baL (showL op a b s.data.toList)).size ≤ 1000000 := by
    rw [baL_size]; unfold showL
    have e1 := nameL_len op
    have e2 := itoa_length_le a ha.1 ha.2
    have e3 := itoa_length_le b hb.1 hb.2
    have hbs := ba_size s
    simp only [List.length_append]
    split <;> split <;> split <;> simp <;> omega
  refine Calls.ret (call_Parse_sp H hv _ hlen) ?_
  rintro v w5 ⟨op', a', b', s', er, rfl, hp, H⟩
  obtain ⟨rfl, rfl, rfl, rfl, rfl⟩ := parse_is h ha hb rfl hp
  refine ⟨_, _, _, _, _, rfl, ?_⟩
  refine H.new fun b2 w H => H.st fun w H => br_f rfl ?_
  refine ⟨_, H.ld, _, H.ld, _, H.ld, _, H.ld, _, H.ld, _, H.ld, _, H.ld, _, H.ld, ?_⟩
  refine ⟨false, (eq_struct (P := Tryd.prog) (t := 30) (b := true) _ (by kernel_rfl) rfl (by simp [allEq, cellEq, ba_self])).2, br_f rfl (k0 H)⟩
end Go.Proofs.YtmihgfhpmnomoaaDoor
