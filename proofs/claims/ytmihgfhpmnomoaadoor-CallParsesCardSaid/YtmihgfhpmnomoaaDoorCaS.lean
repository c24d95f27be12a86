/- Calls: the document's Show and Text; CallShows. Conditions: none. -/
import Derived.Test.YtmihgfhpmnomoaaDoorCaQ
import Derived.Test.YtmihgfhpmnomoaaDoorCl2
import Derived.Laws.BytesArg
namespace Go.Proofs.YtmihgfhpmnomoaaDoor
open Go.Vc Go.Lib
set_option linter.unusedSimpArgs false
set_option linter.unusedVariables false
set_option maxRecDepth 100000

theorem dec_step {u : Nat} (h : ¬ u < 10) : decDigits u = decDigits (u / 10) ++ [UInt8.ofNat (48 + u % 10)] := by rw [decDigits, dif_neg h]
theorem wrap_u64 {n : Nat} (h : n < 18446744073709551616) : IntKind.wrap .u64 (n : Int) = n := by
  simp only [IntKind.wrap, IntKind.signed, IntKind.bits, Bool.false_and, Bool.false_eq_true, if_false]
  omega
theorem nDigits_mono_le {U : Nat} (h : U ≤ 9223372036854775808) : (decDigits U).length ≤ 20 := by
  rcases Nat.eq_zero_or_pos U with rfl | hp
  · rw [decDigits_length]; decide +kernel
  · have h1 := itoa_length_le (-(U : Int)) (by omega) (by omega)
    rw [itoa_neg U hp] at h1
    simpa using h1

section
variable {e w : World} {m : Hp} {L : List HP}
theorem ref21_Show_sp (H : St e m w L) {n : Int} (hn : inR n) : Calls Tryd.prog 24 #[.int .i64 n] w (Ret fun v w' => v = .string (baL (itoa n)) ∧ St e m w' L) := by
  apply purlinref21_Show.calls
  unfold purlinref21_Show.F
  obtain ⟨R, hR⟩ : ∃ R : Value → World → Prop, R = fun v w' => v = .string (baL (itoa n)) ∧ St e m w' L := ⟨_, rfl⟩
  rw [← hR]
  have key : ∀ U : Nat, U ≤ 9223372036854775808 → (n < 0 → itoa n = 45 :: decDigits U) → (¬ n < 0 → itoa n = decDigits U) → purlinref21_Show.K1 n R U w := by
    intro U hU e1 e2
    have hlen := nDigits_mono_le hU
    unfold purlinref21_Show.K1
    refine ⟨fun k v s w' => ∃ (u : Nat) (l : List UInt8), v = u ∧ s = baL l ∧ u ≤ U ∧ l.length ≤ 20 ∧ (u > 0 ∨ l = [] → decDigits U = decDigits u ++ l) ∧ (u = 0 → l ≠ [] → decDigits U = l) ∧ k = (if l = [] then u + 1 else u) ∧ St e m w' L, ⟨_, U, [], rfl, rfl, Nat.le_refl _, by simp, fun _ => by simp, fun _ h => absurd rfl h, rfl, H⟩, ?_⟩
    rintro n9 dead w2 v s ⟨u, l, rfl, rfl, hu, hl, i1, i2, rfl, H⟩
    unfold purlinref21_Show.L0
    have k0 : (u > 0 ∨ l = []) → purlinref21_Show.K0 u (baL l) w2 (fun x0 x1 w9 => ∃ k, k < (if l = [] then u + 1 else u) ∧ ∃ (u' : Nat) (l' : List UInt8), x0 = u' ∧ x1 = baL l' ∧ u' ≤ U ∧ l'.length ≤ 20 ∧ (u' > 0 ∨ l' = [] → decDigits U = decDigits u' ++ l') ∧ (u' = 0 → l' ≠ [] → decDigits U = l') ∧ k = (if l' = [] then u' + 1 else u') ∧ St e m w9 L) := by
      intro hc
      unfold purlinref21_Show.K0
      refine ⟨by decide, H.new fun b w3 H => ?_⟩
      have ec : IntKind.wrap .u8 (48 + IntKind.wrap .u8 ((u : Int).tmod 10)) = ((48 + u % 10 : Nat) : Int) := by
        rw [show ((u : Int).tmod 10) = ((u % 10 : Nat) : Int) from by rw [Int.tmod_eq_emod_of_nonneg (by omega)]; rfl]
        simp only [IntKind.wrap, IntKind.signed, IntKind.bits, Bool.false_and, Bool.false_eq_true, if_false]
        omega
      rw [ec] at H
      have eu : IntKind.wrap .u64 ((u : Int).tdiv 10) = ((u / 10 : Nat) : Int) := by
        rw [show ((u : Int).tdiv 10) = ((u / 10 : Nat) : Int) from by rw [Int.tdiv_eq_ediv_of_nonneg (by omega)]; rfl]
        exact wrap_u64 (by omega)
      rw [eu]
      have es : strOfNums [((48 + u % 10 : Nat) : Int)] = baL [UInt8.ofNat (48 + u % 10)] := rfl
      have hd := i1 hc
      have hd1 : 1 ≤ (decDigits u).length := by rw [decDigits_length]; exact nDigits_pos u
      have hl2 : l.length + 1 ≤ 20 := by rw [hd, List.length_append] at hlen; omega
      refine ⟨_, w3, run_convert_bytes_arg (P := Tryd.prog) w3 _ 5 (by kernel_rfl) (by kernel_rfl) b 0 1 1 [((48 + u % 10 : Nat) : Int)] rfl (fun i hi => ?_) _ (by kernel_rfl), ?_⟩
      · obtain rfl : i = 0 := by omega
        exact H.ld
      rw [es, baL_size, baL_size, baL_app]
      refine ⟨by simp only [List.length_cons, List.length_nil]; omega, by decide, ?_⟩
      refine ⟨_, ?_, u / 10, UInt8.ofNat (48 + u % 10) :: l, rfl, rfl, by omega, by simp only [List.length_cons]; omega, fun h => ?_, fun h _ => ?_, rfl, H.drop⟩
      · rw [if_neg (by simp)]
        by_cases hl0 : l = []
        · rw [if_pos hl0]; omega
        · rw [if_neg hl0]; have := hc.resolve_right hl0; omega
      · rcases h with h | h
        · rw [hd, dec_step (show ¬ u < 10 by omega)]; simp
        · cases h
      · rw [hd, decDigits_one (show u < 10 by omega), Nat.mod_eq_of_lt (show u < 10 by omega)]; rfl
    refine br_dec (fun h => k0 (.inl (by omega))) fun h => br_intro (fun h2 => k0 (.inr ?_)) fun h2 => ?_
    · rw [ba_beq] at h2
      have := congrArg (fun x : ByteArray => x.data.toList) (of_decide_eq_true h2)
      simpa [baL] using this
    · rw [ba_beq] at h2
      have hne : l ≠ [] := fun h => (of_decide_eq_false h2) (by rw [h]; rfl)
      have hd := i2 (by omega) hne
      refine br_dec (fun hneg => ?_) fun hpos => ?_
      · rw [show (⟨#[45]⟩ : ByteArray) = baL [45] from rfl, baL_size, baL_size, baL_app, hR, e1 hneg, hd]
        exact ⟨by simp; omega, rfl, H⟩
      · rw [hR, e2 hpos, hd]
        exact ⟨rfl, H⟩
  obtain ⟨n1, n2⟩ := hn
  refine br_dec (fun h => ?_) fun h => ?_
  · obtain ⟨U, rfl⟩ : ∃ U : Nat, n = -(U : Int) := ⟨n.natAbs, by omega⟩
    have e1 : IntKind.wrap .u64 (0 - IntKind.wrap .u64 (-(U : Int))) = U := by
      simp only [IntKind.wrap, IntKind.signed, IntKind.bits, Bool.false_and, Bool.false_eq_true, if_false]
      omega
    rw [e1]
    exact key U (by omega) (fun _ => itoa_neg U (by omega)) (fun h2 => absurd h h2)
  · obtain ⟨U, rfl⟩ : ∃ U : Nat, n = U := ⟨n.natAbs, by omega⟩
    rw [wrap_u64 (by omega)]
    exact key U (by omega) (fun h2 => absurd h2 h) (fun _ => itoa_nonneg U)

theorem ref21_Text_sp (H : St e m w L) {op a b : Int} {s : ByteArray} (ha : inR a) (hb : inR b) (hs : s.size ≤ 1000000) : Calls Tryd.prog 15 #[.agg #[.int .i64 op, .int .i64 a, .int .i64 b, .string s]] w
    (Ret fun v w' => v = .tuple #[.string (if rightE op a b s ≠ 0 then ⟨#[]⟩ else baL (showL op a b s.data.toList)), .int .i64 (rightE op a b s)] ∧ St e m w' L) := by
  apply purlinref21_Text.calls
  unfold purlinref21_Text.F
  refine H.new fun bk w H => ⟨_, H.ld, _, H.ld, _, H.ld, _, H.ld, ?_⟩
  refine Calls.ret (ref21_Right_sp H op a b s) ?_
  rintro v w2 ⟨rfl, H⟩
  refine ⟨_, rfl, br_intro (fun h => ?_) fun h => ?_⟩
  · have h : rightE op a b s ≠ 0 := by simpa using h
    exact ⟨by rw [if_pos h], H.drop⟩
  have h : rightE op a b s = 0 := by simpa using h
  obtain ⟨o1, o2⟩ := right_in h
  obtain ⟨hA, hB, hS⟩ := has_of o1 o2
  obtain ⟨R, hR⟩ : ∃ R : Value → World → Prop, R = fun v w' => v = .tuple #[.string (if rightE op a b s ≠ 0 then ⟨#[]⟩ else baL (showL op a b s.data.toList)), .int .i64 (rightE op a b s)] ∧ St e m w' L := ⟨_, rfl⟩
  rw [← hR]
  refine ⟨_, H.ld, ?_⟩
  refine Calls.ret (ref21_Name_sp H op) ?_
  rintro v w3 ⟨rfl, H⟩
  refine ⟨_, _, rfl, ?_⟩
  have hsl : s.size = s.data.toList.length := ba_size s
  have hia := itoa_length_le a ha.1 ha.2
  have hib := itoa_length_le b hb.1 hb.2
  have hnl := nameL_len op
  have k0 : ∀ (l : List UInt8) (w : World), l.length ≤ 120 → l ++ (if fS op = true then 32 :: 61 :: s.data.toList else []) = showL op a b s.data.toList → St e m w (row bk 30 [.int .i64 op, .int .i64 a, .int .i64 b, .string s] :: L) →
      purlinref21_Text.K0 R bk (hasN op) (baL l) w := by
    intro l w hl he H
    unfold purlinref21_Text.K0
    refine br_intro (fun g => ?_) fun g => ?_
    · rw [if_pos (by rw [hS, g])] at he
      have e1 : (⟨#[32, 61]⟩ : ByteArray) ++ s = baL (32 :: 61 :: s.data.toList) := by
        rw [show (⟨#[32, 61]⟩ : ByteArray) = baL [32, 61] from rfl, ← baL_of s, baL_app]; rfl
      refine ⟨_, H.ld, ?_⟩
      rw [e1, baL_app, he, baL_size, baL_size, show (⟨#[32, 61]⟩ : ByteArray).size = 2 from rfl]
      refine ⟨by omega, by simp; omega, ?_⟩
      rw [hR, h]
      exact ⟨by simp, H.drop⟩
    · rw [if_neg (by rw [hS, g]; simp)] at he
      rw [show l = showL op a b s.data.toList by rw [← he]; simp, hR, h]
      exact ⟨by simp, H.drop⟩
  have k1 : ∀ (l : List UInt8) (w : World), l.length ≤ 60 → l ++ ((if fB op = true then 32 :: itoa b else []) ++ (if fS op = true then 32 :: 61 :: s.data.toList else [])) = showL op a b s.data.toList → St e m w (row bk 30 [.int .i64 op, .int .i64 a, .int .i64 b, .string s] :: L) →
      purlinref21_Text.K1 R bk (hasN op) (baL l) w := by
    intro l w hl he H
    unfold purlinref21_Text.K1
    refine br_intro (fun g => ?_) fun g => ?_
    · rw [if_pos (by rw [hB, g]), ← List.append_assoc] at he
      refine ⟨_, H.ld, ?_⟩
      refine Calls.ret (ref21_Show_sp H hb) ?_
      rintro v w5 ⟨rfl, H⟩
      refine ⟨_, rfl, ?_⟩
      have e1 : (⟨#[32]⟩ : ByteArray) ++ baL (itoa b) = baL (32 :: itoa b) := by
        rw [show (⟨#[32]⟩ : ByteArray) = baL [32] from rfl, baL_app]; rfl
      rw [e1, baL_app, baL_size, baL_size, baL_size, show (⟨#[32]⟩ : ByteArray).size = 1 from rfl]
      exact ⟨by omega, by simp; omega, k0 _ _ (by simp; omega) he H⟩
    · rw [if_neg (by rw [hB, g]; simp)] at he
      exact k0 l w (by omega) (by simpa using he) H
  refine br_dec (fun g => ?_) fun g => ?_
  · have hAt : fA op = true := by rw [hA]; simp; omega
    refine ⟨_, H.ld, ?_⟩
    refine Calls.ret (ref21_Show_sp H ha) ?_
    rintro v w5 ⟨rfl, H⟩
    refine ⟨_, rfl, ?_⟩
    have e1 : (⟨#[32]⟩ : ByteArray) ++ baL (itoa a) = baL (32 :: itoa a) := by
      rw [show (⟨#[32]⟩ : ByteArray) = baL [32] from rfl, baL_app]; rfl
    rw [e1, show nameB op = baL (nameL op) from rfl, baL_app, baL_size, baL_size, baL_size, show (⟨#[32]⟩ : ByteArray).size = 1 from rfl]
    exact ⟨by omega, by simp; omega, k1 _ _ (by simp; omega) (by unfold showL; rw [hAt, if_pos rfl, List.append_assoc]) H⟩
  · have hAt : fA op = false := by
      have := op30 (p := fun op => 0 ≤ hasN op) (by decide +kernel) o1 o2
      rw [hA]; simp; omega
    rw [show nameB op = baL (nameL op) from rfl]
    exact k1 _ _ (by omega) (by unfold showL; rw [hAt]; simp) H
end

theorem CallShows_any {w0 : World} (hv : LibV (hpOf w0)) {op a b : Int} (ha : inR a) (hb : inR b) (s : ByteArray) :
    Calls Tryd.prog 4 #[.agg #[.int .i64 op, .int .i64 a, .int .i64 b, .string s]] w0 (Ret fun v w' => v = .bool true ∧ Ch [] w0 w') := by
  have H := St.init w0
  have hm := hle_refl (hpOf w0)
  apply purlinlaw21_CallShows.calls
  unfold purlinlaw21_CallShows.F
  refine H.new fun b0 w H => ⟨_, H.ld, _, H.ld, _, H.ld, _, H.ld, ?_⟩
  refine Calls.ret (few21_sp H op a b s) ?_
  rintro v w1 ⟨rfl, H⟩
  refine ⟨_, rfl, br_intro (fun _ => ?_) fun hs => ?_⟩
  · refine Calls.ret (awake21_sp H hv) ?_
    rintro v w3 ⟨rfl, H3⟩
    exact ⟨_, rfl, rfl, H3.fin hm⟩
  have hs : s.size ≤ 1000000 := by simp at hs; omega
  refine ⟨_, H.ld, _, H.ld, _, H.ld, _, H.ld, ?_⟩
  refine Calls.ret (call_Show_sp H hv ha hb hs) ?_
  rintro v w4 ⟨rfl, H⟩
  refine ⟨_, _, rfl, _, H.ld, _, H.ld, _, H.ld, _, H.ld, ?_⟩
  refine Calls.ret (ref21_Text_sp H ha hb hs) ?_
  rintro v w5 ⟨rfl, H⟩
  refine ⟨_, _, rfl, ?_⟩
  refine Calls.ret (awake21_sp H hv) ?_
  rintro v w6 ⟨rfl, H⟩
  exact ⟨_, rfl, br_t rfl (br_t (by simp) ⟨by simp, H.fin hm⟩)⟩
end Go.Proofs.YtmihgfhpmnomoaaDoor
