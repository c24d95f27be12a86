/- Calls: number, next. Conditions: none. -/
import Derived.Test.YtmihgfhpmnomoaaDoorCaD
import Derived.WideLaws
namespace Go.Proofs.YtmihgfhpmnomoaaDoor
open Go.Vc Go.Lib
set_option linter.unusedSimpArgs false
set_option linter.unusedVariables false
set_option maxRecDepth 100000

theorem eql_nil {P : Program} {t : TypeId} {x : Operand} {u : Value} {w : World} (h : P.underlying t = some (.interface (P.methodsAt t))) : (eqRun .eql t x (.const u) .nilIface .nilIface).run P w = .ok (.bool true) w := by
  have := Go.run_eql_nil_nil (w := w) t h
  unfold eqRun
  simp only [eqGuard, Sem.run_bind]
  simpa [Result.andThen] using this
theorem eql_iface {P : Program} {t t1 : TypeId} {x : Operand} {p u : Value} {w : World} (h : P.underlying t = some (.interface (P.methodsAt t))) : (eqRun .eql t x (.const u) (.iface t1 p) .nilIface).run P w = .ok (.bool false) w := by
  have := Go.run_eql_held_nil (w := w) t t1 p h
  unfold eqRun
  simp only [eqGuard, Sem.run_bind]
  simpa [Result.andThen] using this
/-- What a text's number is told as. -/
def numR (s : ByteArray) (n : Int) (ok : Bool) : Prop := (ok = true → s.data.toList = itoa n ∧ inR n) ∧ (ok = false → ∀ k, inR k → s.data.toList ≠ itoa k)
theorem numR_bad {s : ByteArray} {n : Int} (h : ¬ good s.data.toList) : numR s n false := ⟨fun h => (by cases h), fun _ k hk he => h (he ▸ (itoa_good k hk).1)⟩

section
variable {e w : World} {m : Hp} {L : List HP}
theorem call_number_sp (H : St e m w L) (hv : LibV m) (s : ByteArray) (hs : s.size ≤ 1000000) : Calls Tryd.prog 34 #[.string s] w (Ret fun v w' => ∃ (n : Int) (ok : Bool), v = .tuple #[.int .i64 n, .bool ok] ∧ numR s n ok ∧ St e m w' L) := by
  apply call_number.calls
  unfold call_number.F
  refine Calls.ret (TrimPrefix_sp H s _) ?_
  rintro v w1 ⟨rfl, H⟩
  rw [show trimPrefix s.data.toList (⟨#[45]⟩ : ByteArray).data.toList = digitsOf s.data.toList from trim_minus _]
  obtain ⟨d, hd⟩ : ∃ d, d = baL (digitsOf s.data.toList) := ⟨_, rfl⟩
  rw [← hd]
  have hdl : d.data.toList = digitsOf s.data.toList := by rw [hd]; rfl
  have hds : d.size = (digitsOf s.data.toList).length := by rw [ba_size, hdl]
  refine ⟨_, rfl, _, _, run_range_string w1 _ d (by kernel_rfl), ?_⟩
  have H : St e m (w1.iter d 0) (blk w1.heap.size (.stringIter d 0) :: L) := H.newObj _
  obtain ⟨ib, hib⟩ : ∃ ib, ib = w1.heap.size := ⟨_, rfl⟩
  rw [← hib] at H ⊢
  refine ⟨fun n w' => ∃ pos : Nat, pos ≤ d.size ∧ n = d.size - pos ∧ (∀ (i : Nat) (c : UInt8), i < pos → (digitsOf s.data.toList)[i]? = some c → digit c) ∧ St e m w' (blk ib (.stringIter d pos) :: L), ⟨_, 0, by omega, rfl, fun i c h => by omega, H⟩, ?_⟩
  clear H
  rintro n9 dead w3 ⟨pos, hpos, rfl, hall, H⟩
  unfold call_number.L0
  have hk := H.blkAt
  by_cases hlt : pos < d.size
  · right
    have hget : (digitsOf s.data.toList)[pos]? = some (d[pos]'hlt) := by
      rw [← hdl, List.getElem?_eq_getElem (by rw [← ba_size]; exact hlt)]; rfl
    have bad : ∀ {w' : World}, ¬ digit (d[pos]'hlt) → St e m w' L → ∃ (n : Int) (ok : Bool), Value.tuple #[.int .i64 0, .bool false] = .tuple #[.int .i64 n, .bool ok] ∧ numR s n ok ∧ St e m w' L :=
      fun h H => ⟨0, false, rfl, numR_bad fun hg => h (hg.all _ (List.mem_of_getElem? hget)), H⟩
    by_cases ha : (d[pos]'hlt).toNat < 128
    · refine ⟨_, _, _, Lib.run_next_ascii_at w3 ib d pos _ hk hlt ha, ?_⟩
      have H := St.iter (pos' := pos + 1) H
      refine br_dec (fun h => bad (by unfold digit; omega) H.drop) fun h1 => br_dec (fun h => bad (by unfold digit; omega) H.drop) fun h2 => ?_
      refine ⟨d.size - (pos + 1), by omega, pos + 1, by omega, rfl, fun i c hi hc => ?_, H⟩
      by_cases hip : i = pos
      · subst hip
        rw [hget] at hc; cases hc
        unfold digit; omega
      · exact hall i c (by omega) hc
    · have hh := decode_high d pos hlt (by omega)
      refine ⟨_, _, _, Lib.run_next_any_at w3 ib d pos _ hk hlt, ?_⟩
      have H := St.iter (pos' := pos + (Utf8.decode d pos).2) H
      exact br_dec (fun h => absurd h (by omega)) fun _ => br_t (by simp; omega) (bad (by unfold digit; omega) H.drop)
  · left
    have hall : ∀ c ∈ digitsOf s.data.toList, digit c := by
      intro c hc
      obtain ⟨i, hi⟩ := List.getElem?_of_mem hc
      exact hall i c (by have := (List.getElem?_eq_some_iff.1 hi).1; omega) hi
    refine ⟨_, Lib.run_next_end_at w3 ib d pos _ hk hlt, ?_⟩
    have H := H.drop
    rw [ba_beq]
    refine br_dec (fun h0 => ⟨0, false, rfl, numR_bad fun hg => hg.ne (by rw [← hdl, h0]), H⟩) fun h0 => ?_
    have hne : digitsOf s.data.toList ≠ [] := fun h => h0 (by rw [hd, h]; rfl)
    have hpos : 0 < d.size := by rw [hds]; exact List.length_pos_iff.2 hne
    have k0 : ((digitsOf s.data.toList).head? = some 48 → s.data.toList = [48]) → call_number.K0 s (fun v w' => ∃ (n : Int) (ok : Bool), v = .tuple #[.int .i64 n, .bool ok] ∧ numR s n ok ∧ St e m w' L) w3 := by
      intro hz
      have hg : good s.data.toList := ⟨hall, hne, hz⟩
      unfold call_number.K0
      refine Calls.ret (ParseInt_sp H hv s hs) ?_
      rintro v w4 ⟨n, er, rfl, her, H⟩
      refine ⟨_, _, rfl, ?_⟩
      refine H.drw fun w H => ?_
      rcases her with ⟨hp, rfl⟩ | ⟨hp, t, p, rfl⟩
      · obtain ⟨g1, g2⟩ := good_itoa hg hp
        exact ⟨true, eql_nil (by kernel_rfl), n, true, rfl, ⟨fun _ => ⟨g1, g2⟩, fun h => (by cases h)⟩, H⟩
      · exact ⟨false, eql_iface (by kernel_rfl), n, false, rfl, ⟨fun h => (by cases h), fun _ k hk he => hp k (he ▸ (itoa_good k hk).2)⟩, H⟩
    have hhead : (digitsOf s.data.toList).head? = some (d.data.getD 0 0) := by
      rw [← hdl]
      have : 0 < d.data.size := hpos
      rw [List.head?_eq_getElem?, Array.getElem?_toList, Array.getD_eq_getD_getElem?, Array.getElem?_eq_getElem this]; rfl
    refine ⟨by omega, by omega, br_intro (fun h48 => ?_) fun h48 => k0 fun hz => ?_⟩
    · rw [ba_beq]
      refine br_intro (fun hs0 => ⟨0, false, rfl, numR_bad fun hg => ?_, H⟩) fun hs0 => k0 fun _ => ?_
      · have h48 : (d.data.getD 0 0).toNat = 48 := by
          have h := eq_of_beq h48
          rw [show (0 : Int).toNat = 0 from rfl] at h
          omega
        have := hg.zero (by rw [hhead, ← UInt8.ofNat_toNat (x := d.data.getD 0 0), h48]; rfl)
        have hs0 : ¬ s = ⟨#[48]⟩ := by simpa using hs0
        exact hs0 (by rw [← baL_of s, this]; rfl)
      · have hs0 : s = ⟨#[48]⟩ := by simpa using hs0
        rw [hs0]
    · rw [hhead] at hz
      have hz := Option.some.inj hz
      rw [show (0 : Int).toNat = 0 from rfl, hz] at h48
      exact absurd h48 (by decide)
/-- A number with a blank ahead, taken off a text: what is left begins behind it. -/
theorem indexByte_spec (c : UInt8) : ∀ l : List UInt8, (indexByte l c = -1 ∧ c ∉ l) ∨ ∃ k : Nat, indexByte l c = k ∧ k < l.length ∧ l[k]? = some c ∧ c ∉ l.take k
  | [] => .inl ⟨rfl, by simp⟩
  | b :: l => by
    unfold indexByte
    by_cases h : b = c
    · subst h
      exact .inr ⟨0, by simp, by simp, by simp, by simp⟩
    · have hb : (b == c) = false := by simpa using h
      rw [hb]
      rcases indexByte_spec c l with ⟨h1, h2⟩ | ⟨k, h1, h2, h3, h4⟩
      · left
        rw [h1]
        exact ⟨rfl, by simp [h2, Ne.symm h]⟩
      · right
        rw [h1]
        refine ⟨k + 1, ?_, by simp; omega, by simpa using h3, by simp [h4, Ne.symm h]⟩
        have : ((k : Int) == -1) = false := by
          simp
        rw [this]; rfl
end
end Go.Proofs.YtmihgfhpmnomoaaDoor
