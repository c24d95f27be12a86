/- Calls: next; Show. Conditions: none. -/
import Derived.Test.YtmihgfhpmnomoaaDoorCaE
namespace Go.Proofs.YtmihgfhpmnomoaaDoor
open Go.Vc Go.Lib
set_option linter.unusedSimpArgs false
set_option linter.unusedVariables false
set_option maxRecDepth 100000

/-- Up to k there is no blank, and at k there is one, or the end. -/
structure firstIx (l : List UInt8) (k : Nat) : Prop where
  le : k ≤ l.length
  no : (32 : UInt8) ∉ l.take k
  at_ : ∀ c, (l.drop k).head? = some c → c = 32
theorem firstIx_lt {l : List UInt8} {j k : Nat} (hj : firstIx l j) (hk : firstIx l k) : ¬ j < k := by
  intro h
  have hl : j < l.length := by have := hk.le; omega
  have h1 : (l.drop j).head? = some (l[j]'hl) := by rw [List.head?_drop]; exact List.getElem?_eq_getElem hl
  have h2 := hj.at_ _ h1
  apply hk.no
  rw [← h2]
  exact List.mem_of_getElem? (i := j) (by rw [List.getElem?_take, if_pos h]; exact List.getElem?_eq_getElem hl)
theorem firstIx_one {l : List UInt8} {j k : Nat} (hj : firstIx l j) (hk : firstIx l k) : j = k := by
  have h1 := firstIx_lt hj hk
  have h2 := firstIx_lt hk hj
  omega
theorem firstIx_app {a t : List UInt8} (ha : (32 : UInt8) ∉ a) (ht : ∀ c, t.head? = some c → c = 32) : firstIx (a ++ t) a.length :=
  ⟨by simp, by rw [List.take_left]; exact ha, by rw [List.drop_left]; exact ht⟩
theorem itoa_no32 {v : Int} (hv : inR v) : (32 : UInt8) ∉ itoa v := by
  obtain ⟨⟨h1, h2, h3⟩, _⟩ := itoa_good v hv
  intro hm
  have h32 : ¬ digit 32 := by decide
  unfold digitsOf at h1
  split at h1
  · rename_i hh
    cases hl : itoa v with
    | nil => rw [hl] at hm; cases hm
    | cons c r =>
      rw [hl] at hm hh h1
      rcases List.mem_cons.1 hm with e | e
      · rw [← e] at hh; simp at hh
      · exact h32 (h1 _ e)
  · exact h32 (h1 _ hm)
def blanky (t : List UInt8) : Prop := ∀ c, t.head? = some c → c = 32
def nextR (s : ByteArray) (n : Int) (r : ByteArray) (ok : Bool) : Prop :=
  (ok = true → s.data.toList = 32 :: (itoa n ++ r.data.toList) ∧ inR n ∧ blanky r.data.toList) ∧ (ok = false → ∀ (k : Int) (t : List UInt8), inR k → blanky t → s.data.toList ≠ 32 :: (itoa k ++ t))
theorem extract_baL (l : List UInt8) (a b : Nat) : (baL l).extract a b = baL ((l.drop a).take (b - a)) := by
  apply ba_ext
  have e : ∀ z : ByteArray, z.toList = z.data.toList := fun z => ByteArray.toList_eq z
  rw [e, e, ByteArray.data_extract, Array.toList_extract]
  rfl

section
variable {e w : World} {m : Hp} {L : List HP}
theorem call_next_sp (H : St e m w L) (hv : LibV m) (s : ByteArray) (hs : s.size ≤ 1000000) : Calls Tryd.prog 26 #[.string s] w (Ret fun v w' => ∃ (n : Int) (r : ByteArray) (ok : Bool), v = .tuple #[.int .i64 n, .string r, .bool ok] ∧ nextR s n r ok ∧ r.size ≤ 1000000 ∧ St e m w' L) := by
  apply call_next.calls
  unfold call_next.F
  refine Calls.ret (CutPrefix_sp H s _) ?_
  rintro v w1 ⟨rfl, H⟩
  refine ⟨_, _, rfl, ?_⟩
  obtain ⟨l, hl⟩ : ∃ l, l = s.data.toList := ⟨_, rfl⟩
  have hlen : l.length ≤ 1000000 := by rw [hl, ← ba_size]; exact hs
  unfold nextR
  rw [← hl, show (⟨#[32]⟩ : ByteArray).data.toList = [32] from rfl]
  by_cases hp : l.head? = some 32
  · obtain ⟨r0, rfl⟩ : ∃ r0, l = 32 :: r0 := by
      cases l with
      | nil => cases hp
      | cons c r => simp at hp; exact ⟨r, by rw [hp]⟩
    have e1 : trimPrefix (32 :: r0) [32] = r0 := by simp [trimPrefix, hasPrefix]
    have e2 : hasPrefix (32 :: r0) [32] = true := by simp [hasPrefix]
    rw [e1, e2]
    have hr0 : r0.length ≤ 1000000 := by simp at hlen; omega
    have hsz : (baL r0).size = r0.length := by rw [ba_size]; rfl
    have k0 : ∀ (k : Nat) (w2 : World), firstIx r0 k → St e m w2 L → call_next.K0 (fun v w' => ∃ (n : Int) (r : ByteArray) (ok : Bool), v = .tuple #[.int .i64 n, .string r, .bool ok] ∧
        ((ok = true → 32 :: r0 = 32 :: (itoa n ++ r.data.toList) ∧ inR n ∧ blanky r.data.toList) ∧ (ok = false → ∀ (k : Int) (t : List UInt8), inR k → blanky t → 32 :: r0 ≠ 32 :: (itoa k ++ t))) ∧ r.size ≤ 1000000 ∧ St e m w' L) (baL r0) (k : Int) w2 := by
      intro k w2 hk H
      have hkl := hk.le
      unfold call_next.K0
      refine ⟨by omega, by omega, ?_⟩
      rw [toNat_nat, extract_baL, List.drop_zero, Nat.sub_zero]
      refine Calls.ret (call_number_sp H hv (baL (r0.take k)) (by rw [ba_size, baL_data]; simp; omega)) ?_
      rintro v w3 ⟨n, ok, rfl, ⟨n1, n2⟩, H⟩
      refine ⟨_, _, rfl, ?_⟩
      refine H.drw fun w H => ⟨by omega, by omega, ?_⟩
      rw [hsz, extract_baL]
      rw [baL_data] at n1 n2
      have ed : (r0.drop k).take (r0.length - k) = r0.drop k := List.take_of_length_le (by simp)
      rw [ed]
      refine ⟨n, _, ok, rfl, ⟨fun ho => ?_, fun ho j t hj ht he => ?_⟩, by rw [ba_size, baL_data]; simp; omega, H⟩
      · obtain ⟨q1, q2⟩ := n1 ho
        exact ⟨by rw [baL_data, ← q1, List.take_append_drop], q2, by rw [baL_data]; exact hk.at_⟩
      · simp only [List.cons.injEq, true_and] at he
        have := firstIx_app (itoa_no32 hj) ht
        rw [← he] at this
        have hkk := firstIx_one hk this
        apply n2 ho j hj
        rw [hkk, he, List.take_left]
    refine br_f rfl ?_
    refine Calls.ret (IndexByte_sp H (baL r0) 32) ?_
    rintro v w2 ⟨rfl, H⟩
    refine ⟨_, rfl, ?_⟩
    rw [baL_data, show ((32 : Int).toNat.toUInt8) = 32 from rfl]
    rcases indexByte_spec 32 r0 with ⟨i1, i2⟩ | ⟨k, i1, i2, i3, i4⟩
    · rw [i1]
      refine br_t (by decide) ?_
      rw [hsz]
      exact k0 r0.length w2 ⟨Nat.le_refl _, by rw [List.take_length]; exact i2, by simp⟩ H
    · rw [i1]
      refine br_f (by simp) ?_
      exact k0 k w2 ⟨by omega, i4, fun c hc => by rw [List.head?_drop, i3] at hc; exact (Option.some.inj hc).symm⟩ H
  · have e2 : hasPrefix l [32] = false := by
      unfold hasPrefix
      cases l with
      | nil => rfl
      | cons c r =>
        have : c ≠ 32 := by simpa using hp
        simp [List.isPrefixOf, Ne.symm this]
    rw [e2]
    refine br_t rfl ⟨0, _, false, rfl, ⟨fun h => (by cases h), fun _ k t _ _ he => hp (by rw [he]; rfl)⟩, by decide, H⟩
end
end Go.Proofs.YtmihgfhpmnomoaaDoor
