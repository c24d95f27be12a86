/- Calls: who may use a channel; Check. Conditions: none. -/
import Derived.Test.YtmihgfhpmnomoaaDoorCaB
namespace Go.Proofs.YtmihgfhpmnomoaaDoor
open Go.Vc
set_option linter.unusedSimpArgs false
set_option linter.unusedVariables false
set_option maxRecDepth 100000

structure Chan where
  kind : Int
  from_ : Int
  to_ : Int
  c3 : Int
  c4 : Int
  c5 : Int
deriving Inhabited
def encC : Enc Chan := ⟨6, fun x => [.int .u8 x.kind, .int .u8 x.from_, .int .u8 x.to_, .int .u8 x.c3, .int .u8 x.c4, .int .u16 x.c5], fun _ => rfl, by decide, fun x v hv => by
  simp at hv; rcases hv with h | h | h | h | h | h <;> rw [h] <;> rfl⟩
/-- Why a partition may not use a channel by a call: kinds, and whose end it is. -/
def chanE (kd : Int) (fr to : Bool) (op : Int) : Int :=
  if ¬ (if op = 23 ∨ op = 24 ∨ op = 28 then kd = 0 else if op = 27 then True else kd = 1) then 190
  else if ((op = 23 ∨ op = 25) ∧ fr = false) ∨ ((op = 24 ∨ op = 26) ∧ to = false) ∨ (fr = false ∧ to = false) then 222 else 0

section
variable {e w : World} {m : Hp} {L : List HP}
theorem call_channel_sp (H : St e m w L) (c : Chan) (part op : Int) : Calls Tryd.prog 30 #[.agg #[.int .u8 c.kind, .int .u8 c.from_, .int .u8 c.to_, .int .u8 c.c3, .int .u8 c.c4, .int .u16 c.c5], .int .i64 part, .int .i64 op] w
    (Ret fun v w' => v = .int .i64 (chanE c.kind (IntKind.wrap .i64 c.from_ == part) (IntKind.wrap .i64 c.to_ == part) op) ∧ St e m w' L) := by
  apply call_channel.calls
  unfold call_channel.F
  refine H.new fun b w H => ?_
  refine H.drw fun w H => ⟨_, H.ld, _, H.ld, ?_⟩
  refine H.drw fun w H => ⟨_, H.ld, _, H.ld, ?_⟩
  have H := H.drop
  obtain ⟨F, hF⟩ : ∃ F, F = (IntKind.wrap .i64 c.from_ == part) := ⟨_, rfl⟩
  obtain ⟨T, hT⟩ : ∃ T, T = (IntKind.wrap .i64 c.to_ == part) := ⟨_, rfl⟩
  unfold call_channel.K5 call_channel.K4 call_channel.K3 call_channel.K2 call_channel.K1 call_channel.K0
  rw [← hF, ← hT]
  obtain ⟨R, hR⟩ : ∃ R : Value → World → Prop, R = fun v w' => v = .int .i64 (chanE c.kind F T op) ∧ St e m w' L := ⟨_, rfl⟩
  rw [← hR]
  have fin : ∀ {E : Int}, chanE c.kind F T op = E → R (.int .i64 E) w := fun h => by rw [hR]; exact ⟨by rw [h], H⟩
  clear H hR
  generalize c.kind = kd at fin ⊢
  clear hF hT
  by_cases h23 : op = 23
  · subst h23
    cases F <;> cases T <;> cases hk : (kd == 0) <;> simp only [hk, Bool.not_true, Bool.not_false, br_true, br_false] <;> (have hk := hk) <;> simp at hk <;> simp [hk, br] <;> (first | exact fin (E := 0) (by simp [chanE, hk]) | exact fin (E := 222) (by simp [chanE, hk]) | exact fin (E := 190) (by simp [chanE, hk]))
  by_cases h24 : op = 24
  · subst h24
    cases F <;> cases T <;> cases hk : (kd == 0) <;> simp only [hk, Bool.not_true, Bool.not_false, br_true, br_false] <;> (have hk := hk) <;> simp at hk <;> simp [hk, br] <;> (first | exact fin (E := 0) (by simp [chanE, hk]) | exact fin (E := 222) (by simp [chanE, hk]) | exact fin (E := 190) (by simp [chanE, hk]))
  by_cases h25 : op = 25
  · subst h25
    cases F <;> cases T <;> cases hk : (kd == 1) <;> simp only [hk, Bool.not_true, Bool.not_false, br_true, br_false] <;> (have hk := hk) <;> simp at hk <;> simp [hk, br] <;> (first | exact fin (E := 0) (by simp [chanE, hk]) | exact fin (E := 222) (by simp [chanE, hk]) | exact fin (E := 190) (by simp [chanE, hk]))
  by_cases h26 : op = 26
  · subst h26
    cases F <;> cases T <;> cases hk : (kd == 1) <;> simp only [hk, Bool.not_true, Bool.not_false, br_true, br_false] <;> (have hk := hk) <;> simp at hk <;> simp [hk, br] <;> (first | exact fin (E := 0) (by simp [chanE, hk]) | exact fin (E := 222) (by simp [chanE, hk]) | exact fin (E := 190) (by simp [chanE, hk]))
  by_cases h27 : op = 27
  · subst h27
    cases F <;> cases T <;> simp [br] <;> (first | exact fin (E := 0) (by simp [chanE]) | exact fin (E := 222) (by simp [chanE]) | exact fin (E := 190) (by simp [chanE]))
  by_cases h28 : op = 28
  · subst h28
    cases F <;> cases T <;> cases hk : (kd == 0) <;> simp only [hk, Bool.not_true, Bool.not_false, br_true, br_false] <;> (have hk := hk) <;> simp at hk <;> simp [hk, br] <;> (first | exact fin (E := 0) (by simp [chanE, hk]) | exact fin (E := 222) (by simp [chanE, hk]) | exact fin (E := 190) (by simp [chanE, hk]))
  · have b23 : (op == 23) = false := by simpa using h23
    have b24 : (op == 24) = false := by simpa using h24
    have b25 : (op == 25) = false := by simpa using h25
    have b26 : (op == 26) = false := by simpa using h26
    have b27 : (op == 27) = false := by simpa using h27
    have b28 : (op == 28) = false := by simpa using h28
    simp only [b23, b24, b25, b26, b27, b28, br_true, br_false]
    cases F <;> cases T <;> cases hk : (kd == 1) <;> simp only [hk, Bool.not_true, Bool.not_false, br_true, br_false] <;> (have hk := hk) <;> simp at hk <;> (try simp [h23, h24, h25, h26, h27, h28, hk, br]) <;> (first | exact fin (E := 0) (by simp [chanE, h23, h24, h25, h26, h27, h28, hk]) | exact fin (E := 222) (by simp [chanE, h23, h24, h25, h26, h27, h28, hk]) | exact fin (E := 190) (by simp [chanE, h23, h24, h25, h26, h27, h28, hk]))

/-- Why a partition may not make a call. -/
def checkE (parts : Nat) (cs : List Chan) (part op a b : Int) (s : ByteArray) : Int :=
  if part < 0 ∨ (parts : Int) ≤ part then 231 else if rightE op a b s ≠ 0 then rightE op a b s else if op = 22 ∧ (a < 0 ∨ 2 < a) then 181 else if op < 23 ∨ 28 < op then 0 else if a < 0 ∨ (cs.length : Int) ≤ a then 221
  else chanE (cs[a.toNat]?.getD default).kind (IntKind.wrap .i64 (cs[a.toNat]?.getD default).from_ == part) (IntKind.wrap .i64 (cs[a.toNat]?.getD default).to_ == part) op
theorem call_Check_sp {p0 : Int} {a1 a2 a3 a4 : Option Addr} {n1 c1 n2 c2 c3 n4 c4 : Nat} {cs : List Chan} (H : St e m w L) (hv : Vars m) (hc : ∀ w, St e m w L → SlR encC w a3 cs) (part op a b : Int) (s : ByteArray) :
    Calls Tryd.prog 18 #[.agg #[.int .u16 p0, .slice a1 n1 c1, .slice a2 n2 c2, .slice a3 cs.length c3, .slice a4 n4 c4], .int .i64 part, .agg #[.int .i64 op, .int .i64 a, .int .i64 b, .string s]] w
    (Ret fun v w' => v = .int .i64 (checkE n2 cs part op a b s) ∧ St e m w' L) := by
  apply call_Check.calls
  unfold call_Check.F
  unfold checkE
  refine H.new fun b0 w H => H.new fun b1 w H => ?_
  refine br_dec (fun h => ⟨by rw [if_pos (.inl h)], H.drop.drop⟩) fun h1 => ?_
  refine ⟨_, _, _, H.ld, ?_⟩
  refine br_dec (fun h => ⟨by rw [if_pos (.inr h)], H.drop.drop⟩) fun h2 => ?_
  rw [if_neg (by omega)]
  refine ⟨_, H.ld, _, H.ld, _, H.ld, _, H.ld, ?_⟩
  refine Calls.ret (call_right_sp H hv op a b s) ?_
  rintro v w2 ⟨rfl, H⟩
  refine ⟨_, rfl, br_intro (fun h => ?_) fun h => ?_⟩
  · have h : rightE op a b s ≠ 0 := by simpa using h
    exact ⟨by rw [if_pos h], H.drop.drop⟩
  have h : ¬ rightE op a b s ≠ 0 := by simpa using h
  rw [if_neg h]
  refine ⟨_, H.ld, ?_⟩
  have k0 : ∀ c : Bool, c = decide (28 < op) → ¬ (op = 22 ∧ (a < 0 ∨ 2 < a)) → ¬ op < 23 → call_Check.K0 part (fun v w' => v = .int .i64 (if op = 22 ∧ (a < 0 ∨ 2 < a) then 181 else if op < 23 ∨ 28 < op then 0 else if a < 0 ∨ (cs.length : Int) ≤ a then 221
      else chanE (cs[a.toNat]?.getD default).kind (IntKind.wrap .i64 (cs[a.toNat]?.getD default).from_ == part) (IntKind.wrap .i64 (cs[a.toNat]?.getD default).to_ == part) op) ∧ St e m w' L) b0 b1 c w2 := by
    intro c hcc g1 g2
    subst hcc
    unfold call_Check.K0
    rw [if_neg g1]
    refine br_dec (fun h => ⟨by rw [if_pos (.inr h)], H.drop.drop⟩) fun g3 => ?_
    rw [if_neg (by omega)]
    refine ⟨_, H.ld, br_dec (fun h => ⟨by rw [if_pos (.inl h)], H.drop.drop⟩) fun g4 => ⟨_, H.ld, _, _, _, H.ld, ?_⟩⟩
    refine br_dec (fun h => ⟨by rw [if_pos (.inr h)], H.drop.drop⟩) fun g5 => ?_
    rw [if_neg (by omega)]
    refine H.drw fun w H => ⟨_, _, _, H.ld, _, H.ld, by omega, by omega, ?_⟩
    obtain ⟨k, rfl⟩ := Int.eq_ofNat_of_zero_le (show 0 ≤ a by omega)
    obtain ⟨x, hx⟩ : ∃ x, cs[k]? = some x := ⟨_, List.getElem?_eq_getElem (show k < cs.length by omega)⟩
    obtain ⟨g, go, hga, hcell⟩ := (hc _ H.drop.drop) k _ hx
    have okp : ∀ X : Prop, okP a3 X = X := by intro X; rw [hga]; simp only [okP_some]
    have hp : pb a3 = g ∧ po a3 = go := by rw [hga]; exact ⟨rfl, rfl⟩
    simp only [okp, toNat_nat, hp.1, hp.2]
    refine ⟨_, hcell 0 _ rfl, _, hcell 1 _ rfl, _, hcell 2 _ rfl, _, hcell 3 _ rfl, _, hcell 4 _ rfl, _, hcell 5 _ rfl, _, H.ld, ?_⟩
    refine Calls.ret (call_channel_sp H x part op) ?_
    rintro v w3 ⟨rfl, H⟩
    rw [hx]
    exact ⟨_, rfl, rfl, H.drop.drop⟩
  refine br_intro (fun h22 => ?_) fun h22 => ?_
  · have h22 : op = 22 := by simpa using h22
    refine ⟨_, H.ld, br_dec (fun h => ⟨by rw [if_pos ⟨h22, .inl h⟩], H.drop.drop⟩) fun g1 => ⟨_, H.ld, br_dec (fun h => ⟨by rw [if_pos ⟨h22, .inr h⟩], H.drop.drop⟩) fun g2 => ⟨_, H.ld, br_dec (fun h => ⟨by rw [if_neg (by omega), if_pos (.inl h)], H.drop.drop⟩) fun g3 => ⟨_, H.ld, k0 _ rfl (by omega) g3⟩⟩⟩⟩
  · have h22 : op ≠ 22 := by simpa using h22
    refine ⟨_, H.ld, br_dec (fun h => ⟨by rw [if_neg (by omega), if_pos (.inl h)], H.drop.drop⟩) fun g3 => ⟨_, H.ld, k0 _ rfl (by omega) g3⟩⟩
end
end Go.Proofs.YtmihgfhpmnomoaaDoor
