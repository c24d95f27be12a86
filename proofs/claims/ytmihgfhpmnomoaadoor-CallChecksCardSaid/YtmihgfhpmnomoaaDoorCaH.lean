/- Calls: Show. Conditions: none. -/
import Derived.Test.YtmihgfhpmnomoaaDoorCaG
import Derived.Lib.ItoaLen
namespace Go.Proofs.YtmihgfhpmnomoaaDoor
open Go.Vc Go.Lib
set_option linter.unusedSimpArgs false
set_option linter.unusedVariables false
set_option maxRecDepth 100000

theorem baL_app (x y : List UInt8) : baL x ++ baL y = baL (x ++ y) := by
  apply ba_ext
  have e : ∀ z : ByteArray, z.toList = z.data.toList := fun z => ByteArray.toList_eq z
  rw [e, e, ByteArray.data_append, Array.toList_append]
  rfl
theorem baL_size (x : List UInt8) : (baL x).size = x.length := by rw [ba_size]; rfl
/-- A call's text. -/
def showL (op a b : Int) (s : List UInt8) : List UInt8 :=
  nameL op ++ ((if fA op = true then 32 :: itoa a else []) ++ ((if fB op = true then 32 :: itoa b else []) ++ (if fS op = true then 32 :: 61 :: s else [])))
theorem nameL_len (op : Int) : (nameL op).length ≤ 20 := by
  by_cases h : 1 ≤ op ∧ op ≤ 30
  · exact op30 (p := fun op => (nameL op).length ≤ 20) (by decide +kernel) h.1 h.2
  · unfold nameL; rw [if_neg h]; simp

section
variable {e w : World} {m : Hp} {L : List HP}
theorem call_Show_sp (H : St e m w L) (hv : LibV m) {op a b : Int} {s : ByteArray} (ha : inR a) (hb : inR b) (hs : s.size ≤ 1000000) : Calls Tryd.prog 14 #[.agg #[.int .i64 op, .int .i64 a, .int .i64 b, .string s]] w
    (Ret fun v w' => v = .tuple #[.string (if rightE op a b s ≠ 0 then ⟨#[]⟩ else baL (showL op a b s.data.toList)), .int .i64 (rightE op a b s)] ∧ St e m w' L) := by
  apply call_Show.calls
  unfold call_Show.F
  refine H.new fun bk w H => ⟨_, H.ld, _, H.ld, _, H.ld, _, H.ld, ?_⟩
  refine Calls.ret (call_right_sp H hv.vars op a b s) ?_
  rintro v w2 ⟨rfl, H⟩
  refine ⟨_, rfl, br_intro (fun h => ?_) fun h => ?_⟩
  · have h : rightE op a b s ≠ 0 := by simpa using h
    exact ⟨by rw [if_pos h], H.drop⟩
  have h : rightE op a b s = 0 := by simpa using h
  rw [h]
  obtain ⟨R, hR⟩ : ∃ R : Value → World → Prop, R = fun v w' => v = .tuple #[.string (if (0 : Int) ≠ 0 then ⟨#[]⟩ else baL (showL op a b s.data.toList)), .int .i64 0] ∧ St e m w' L := ⟨_, rfl⟩
  rw [← hR]
  refine ⟨_, H.ld, ?_⟩
  refine Calls.ret (call_Name_sp H op) ?_
  rintro v w3 ⟨rfl, rfl⟩
  refine ⟨_, rfl, _, H.ld, ?_⟩
  refine Calls.ret (call_fields_sp H hv.vars op) ?_
  rintro v w4 ⟨rfl, H⟩
  refine ⟨_, _, _, rfl, ?_⟩
  refine H.new fun b1 w H => ?_
  refine H.st fun w H => ?_
  have H : St e m w (row b1 53 [.bool (fA op), .bool (fB op), .bool (fS op)] :: row bk 30 [.int .i64 op, .int .i64 a, .int .i64 b, .string s] :: L) := H
  have hsl : s.size = s.data.toList.length := ba_size s
  have hia := itoa_length_le a ha.1 ha.2
  have hib := itoa_length_le b hb.1 hb.2
  have hnl := nameL_len op
  -- the text behind what stands
  have k0 : ∀ (l : List UInt8) (w : World), l.length ≤ 100 → l ++ (if fS op = true then 32 :: 61 :: s.data.toList else []) = showL op a b s.data.toList → St e m w (row b1 53 [.bool (fA op), .bool (fB op), .bool (fS op)] :: row bk 30 [.int .i64 op, .int .i64 a, .int .i64 b, .string s] :: L) →
      call_Show.K0 R bk b1 (baL l) w := by
    intro l w hl he H
    unfold call_Show.K0
    refine ⟨by omega, by omega, _, H.ld, br_intro (fun hS => ?_) fun hS => ?_⟩
    · rw [hS, if_pos rfl] at he
      have e1 : (⟨#[32, 61]⟩ : ByteArray) ++ s = baL (32 :: 61 :: s.data.toList) := by
        rw [show (⟨#[32, 61]⟩ : ByteArray) = baL [32, 61] from rfl, ← baL_of s, baL_app]; rfl
      refine ⟨_, H.ld, ?_⟩
      rw [e1, baL_app, he, baL_size, baL_size, show (⟨#[32, 61]⟩ : ByteArray).size = 2 from rfl]
      refine ⟨by omega, by simp; omega, ?_⟩
      rw [hR]
      exact ⟨by simp, H.drop.drop⟩
    · rw [hS] at he
      rw [show l = showL op a b s.data.toList by rw [← he]; simp, hR]
      exact ⟨by simp, H.drop.drop⟩
  have k1 : ∀ (l : List UInt8) (w : World), l.length ≤ 60 → l ++ ((if fB op = true then 32 :: itoa b else []) ++ (if fS op = true then 32 :: 61 :: s.data.toList else [])) = showL op a b s.data.toList → St e m w (row b1 53 [.bool (fA op), .bool (fB op), .bool (fS op)] :: row bk 30 [.int .i64 op, .int .i64 a, .int .i64 b, .string s] :: L) →
      call_Show.K1 R bk b1 (baL l) w := by
    intro l w hl he H
    unfold call_Show.K1
    refine ⟨by omega, by omega, _, H.ld, br_intro (fun hB => ?_) fun hB => ?_⟩
    · rw [if_pos hB, ← List.append_assoc] at he
      refine ⟨_, H.ld, ?_⟩
      refine Calls.ret (Itoa_sp H hv hb) ?_
      rintro v w5 ⟨rfl, H⟩
      refine ⟨_, rfl, ?_⟩
      have e1 : (⟨#[32]⟩ : ByteArray) ++ baL (itoa b) = baL (32 :: itoa b) := by
        rw [show (⟨#[32]⟩ : ByteArray) = baL [32] from rfl, baL_app]; rfl
      rw [e1, baL_app, baL_size, baL_size, baL_size, show (⟨#[32]⟩ : ByteArray).size = 1 from rfl]
      exact ⟨by omega, by simp; omega, k0 _ _ (by simp; omega) he H⟩
    · rw [hB] at he
      exact k0 l w (by omega) (by simpa using he) H
  refine ⟨by omega, by omega, _, H.ld, br_intro (fun hA => ?_) fun hA => ?_⟩
  · refine ⟨_, H.ld, ?_⟩
    refine Calls.ret (Itoa_sp H hv ha) ?_
    rintro v w5 ⟨rfl, H⟩
    refine ⟨_, rfl, ?_⟩
    have e1 : (⟨#[32]⟩ : ByteArray) ++ baL (itoa a) = baL (32 :: itoa a) := by
      rw [show (⟨#[32]⟩ : ByteArray) = baL [32] from rfl, baL_app]; rfl
    rw [e1, show nameB op = baL (nameL op) from rfl, baL_app, baL_size, baL_size, baL_size, show (⟨#[32]⟩ : ByteArray).size = 1 from rfl]
    exact ⟨by omega, by simp; omega, k1 _ _ (by simp; omega) (by unfold showL; rw [hA, if_pos rfl, List.append_assoc]) H⟩
  · rw [show nameB op = baL (nameL op) from rfl]
    exact k1 _ _ (by omega) (by unfold showL; rw [hA]; simp) H
end
end Go.Proofs.YtmihgfhpmnomoaaDoor
