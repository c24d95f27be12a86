/- A text's bytes: the program's Unhex. Conditions: none. -/
import Derived.Test.YtllpiaedljoejaaGreatDoorShC
import Derived.Laws.RangeAny
import Derived.Test.YtllpiaedljoejaaGreatDoorVcMap
namespace Go.Proofs.YtllpiaedljoejaaGreatDoor
open Go.Vc Go.Lib
open Go.ChangeMaps (setBlock)
set_option linter.unusedSimpArgs false
set_option linter.unusedVariables false
set_option maxRecDepth 100000
theorem zeU8 : ZeT Tryz.prog 5 (Enc.int .u8) 0 := ZeT.of (k := 1) (bytes := 1) (by kernel_rfl) rfl (by decide)
def dgt (t : List UInt8) (j : Nat) : Nat := (dig (t.getD j 0)).getD 0
theorem dig_lt {c : UInt8} {n : Nat} (h : dig c = some n) : n < 16 := (hexd_dig h).1
theorem dgt_lt (t : List UInt8) (j : Nat) : dgt t j < 16 := by
  unfold dgt
  cases h : dig (t.getD j 0) with
  | none => simp
  | some n => exact dig_lt h
/-- What the bytes are, when k digits have come. -/
def pv (t : List UInt8) (N k : Nat) : List Int := (List.range N).map fun i => if 2 * i + 1 < k then ((16 * dgt t (2 * i) + dgt t (2 * i + 1) : Nat) : Int) else if 2 * i < k then (dgt t (2 * i) : Int) else 0
theorem pv_len (t : List UInt8) (N k : Nat) : (pv t N k).length = N := by simp [pv]
theorem pv_at (t : List UInt8) {N k i : Nat} (h : i < N) : (pv t N k)[i]? = some (if 2 * i + 1 < k then ((16 * dgt t (2 * i) + dgt t (2 * i + 1) : Nat) : Int) else if 2 * i < k then (dgt t (2 * i) : Int) else 0) := by
  simp [pv, h]
theorem pv_zero (t : List UInt8) (N : Nat) : pv t N 0 = List.replicate N 0 := by
  apply List.ext_getElem?
  intro i
  by_cases h : i < N
  · rw [pv_at t h]; simp [h]
  · rw [List.getElem?_eq_none (by rw [pv_len]; omega), List.getElem?_eq_none (by simp; omega)]
/-- The byte that the next digit turns, and what it becomes. -/
def oldv (t : List UInt8) (k : Nat) : Nat := if k % 2 = 0 then 0 else dgt t (k - 1)
theorem pv_old (t : List UInt8) {N k : Nat} (h : k < 2 * N) : (pv t N k)[k / 2]? = some (oldv t k : Int) := by
  rw [pv_at t (show k / 2 < N by omega)]
  unfold oldv
  by_cases hk : k % 2 = 0
  · rw [if_neg (by omega), if_neg (by omega), if_pos hk]; rfl
  · rw [if_neg (by omega), if_pos (by omega), if_neg hk, show 2 * (k / 2) = k - 1 by omega]
theorem pv_next (t : List UInt8) {N k : Nat} (h : k < 2 * N) : pv t N (k + 1) = (pv t N k).set (k / 2) ((16 * oldv t k + dgt t k : Nat) : Int) := by
  apply List.ext_getElem?
  intro i
  by_cases hi : i < N
  · rw [pv_at t hi]
    by_cases he : i = k / 2
    · subst he
      rw [List.getElem?_set_self (by rw [pv_len]; exact hi)]
      unfold oldv
      by_cases hk : k % 2 = 0
      · rw [if_neg (by omega), if_pos (by omega), if_pos hk, show 2 * (k / 2) = k by omega]; simp
      · rw [if_pos (by omega), if_neg hk, show 2 * (k / 2) = k - 1 by omega, show k - 1 + 1 = k by omega]
    · rw [List.getElem?_set_ne (fun e => he e.symm), pv_at t hi]
      by_cases h1 : 2 * i + 1 < k
      · rw [if_pos h1, if_pos (by omega)]
      · rw [if_neg h1, if_neg (show ¬ 2 * i + 1 < k + 1 by omega)]
        by_cases h2 : 2 * i < k
        · rw [if_pos h2, if_pos (by omega)]
        · rw [if_neg h2, if_neg (by omega)]
  · rw [List.getElem?_eq_none (by rw [pv_len]; omega), List.getElem?_eq_none (by rw [List.length_set, pv_len]; omega)]
theorem pv_all (t l : List UInt8) {N : Nat} (hN : t.length = 2 * N) (hd : ∀ c ∈ t, (dig c).isSome) (hu : unhexL t = some l) : pv t N (2 * N) = ints l := by
  rw [unhex_ok (by omega) hd] at hu
  cases hu
  rw [show t.length / 2 = N by omega]
  unfold pv ints
  rw [List.map_map]
  apply List.map_congr_left
  intro i hi
  have hi := List.mem_range.1 hi
  rw [if_pos (by omega)]
  have h1 := dgt_lt t (2 * i)
  have h2 := dgt_lt t (2 * i + 1)
  show _ = ((UInt8.ofNat (16 * dgt t (2 * i) + dgt t (2 * i + 1))).toNat : Int)
  rw [UInt8.toNat_ofNat_of_lt' (show 16 * dgt t (2 * i) + dgt t (2 * i + 1) < 256 by omega)]
theorem or_all : (List.range 16).all (fun x => (List.range 16).all fun n => decide (IntKind.wrap .u8 (((BitVec.ofInt 8 (IntKind.wrap .u8 ((x : Int) * 2 ^ (min (4 : Int).toNat 8))) ||| BitVec.ofInt 8 (IntKind.wrap .u8 (n : Int))).toNat : Nat)) = ((16 * x + n : Nat) : Int))) = true := by decide +kernel
theorem or16 {x n : Nat} (hx : x < 16) (hn : n < 16) : IntKind.wrap .u8 (((BitVec.ofInt 8 (IntKind.wrap .u8 ((x : Int) * 2 ^ (min (4 : Int).toNat 8))) ||| BitVec.ofInt 8 (IntKind.wrap .u8 (n : Int))).toNat : Nat)) = ((16 * x + n : Nat) : Int) :=
  of_decide_eq_true (List.all_eq_true.1 (List.all_eq_true.1 or_all x (List.mem_range.2 hx)) n (List.mem_range.2 hn))
theorem ix_all : (List.range 128).all (fun c => decide (indexByte dgs.data.toList (UInt8.ofNat c) = match dig (UInt8.ofNat c) with | some n => (n : Int) | none => -1)) = true := by decide +kernel
theorem ix_of {c : UInt8} (h : c.toNat < 128) : indexByte dgs.data.toList c = match dig c with | some n => (n : Int) | none => -1 := by
  have := of_decide_eq_true (List.all_eq_true.1 ix_all c.toNat (List.mem_range.2 h))
  rwa [UInt8.ofNat_toNat] at this
theorem dig_small {c : UInt8} {n : Nat} (h : dig c = some n) : c.toNat ≤ 102 := by
  unfold dig at h
  split at h
  · omega
  · split at h
    · omega
    · cases h
section
variable {e w : World} {m : Hp} {L : List HP}
theorem St.setBlk {b : Nat} {o o' : Obj} (H : St e m w (blk b o :: L)) : St e m (setBlock w b o') (blk b o' :: L) := by
  have hb := H.blkAt
  have hlt : b < w.heap.size := by
    rcases Nat.lt_or_ge b w.heap.size with h | h
    · exact h
    · rw [Array.getElem?_eq_none h] at hb; cases hb
  refine St.ch H (setBlock_ch w b o') fun a ha _ => ⟨by simp; left; rw [show a b = _ from ha]; simp, hone b _, hone_self _ _, hone_le (setBlock_get hlt), fun i hi => .inl ?_⟩
  rw [hone_ne hi, show a b = _ from ha]; simp
end
theorem Unhex_any {w : World} {s : ByteArray} (hl : s.size ≤ 100000) : Calls Tryz.prog 8 #[.string s] w (Ret fun v w' => (match unhexB s.data.toList with
    | none => v = .tuple #[.slice none 0 0, .bool false]
    | some l => ∃ a c, v = .tuple #[.slice a l.length c, .bool true] ∧ SlR (Enc.int .u8) w' a (ints l)) ∧ Ch [] w w') := by
  obtain ⟨t, ht⟩ : ∃ t, t = s.data.toList := ⟨_, rfl⟩
  have hsz : s.size = t.length := by rw [ht]; exact Lib.size_eq s
  rw [← ht]
  apply script_Unhex.calls
  unfold script_Unhex.F
  rw [ba_beq']
  refine br_dec (fun he => ?_) fun hne => ?_
  · subst he
    have : t = [] := ht
    subst this
    exact ⟨rfl, Ch.refl _ _⟩
  have htn : t ≠ [] := fun h => by
    apply hne
    have h2 : s.data.toList = [] := by rw [← ht]; exact h
    cases s with
    | mk a => cases a with
      | mk l =>
        have : l = [] := h2
        subst this
        rfl
  have hun : unhexB t = unhexL t := by unfold unhexB; rw [if_neg htn]
  rw [hun]
  refine ⟨by decide, ?_⟩
  have e2 : (s.size : Int).tmod 2 = ((s.size % 2 : Nat) : Int) := tmod_nat s.size 2
  have hodd : ((s.size : Int).tmod 2 != 0) = decide (s.size % 2 ≠ 0) := by
    rw [e2]
    by_cases h : s.size % 2 = 0
    · rw [h]; rfl
    · have h1 : s.size % 2 = 1 := by omega
      rw [h1]; rfl
  rw [hodd]
  refine br_dec (fun ho => ?_) fun hev => ?_
  · rw [unhex_odd (by omega)]
    exact ⟨rfl, Ch.refl _ _⟩
  refine ⟨by decide, ?_⟩
  obtain ⟨N, hN⟩ : ∃ N, t.length = 2 * N := ⟨t.length / 2, by omega⟩
  have hq : IntKind.wrap .i64 ((s.size : Int).tdiv 2) = (N : Int) := by
    have : (s.size : Int).tdiv 2 = ((s.size / 2 : Nat) : Int) := rfl
    rw [this, wrap64_nat (by omega)]
    omega
  have H := St.init w
  refine St.make (n := N) H (by kernel_rfl) zeU8 hq (by omega) fun g w1 H => ?_
  refine ⟨some ⟨w1.heap.size, 0, none⟩, w1.iter s 0, run_range_string (P := Tryz.prog) w1 _ s (by kernel_rfl), ?_⟩
  have H := H.newObj (.stringIter s 0)
  obtain ⟨it, hit⟩ : ∃ it, it = w1.heap.size := ⟨_, rfl⟩
  rw [← hit] at H ⊢
  refine ⟨fun n w' => ∃ k : Nat, k ≤ t.length ∧ n = t.length - k ∧ (∀ j, j < k → (dig (t.getD j 0)).isSome) ∧ St w (hpOf w) w' [blk it (.stringIter s k), own (Enc.int .u8) 5 (some ⟨g, 0, none⟩) N (pv t N k)], ⟨_, 0, Nat.zero_le _, rfl, fun j hj => absurd hj (by omega), ?_⟩, ?_⟩
  · rw [pv_zero]; exact H
  rintro n dead w3 ⟨k, hk, rfl, hdig, H⟩
  unfold script_Unhex.L0
  have hb := H.blkAt
  by_cases hkl : k = t.length
  · left
    refine ⟨w3, ?_, ?_⟩
    · have hlt' : ¬ k < s.size := by omega
      simp only [Instr.next, Sem.run_bind, getObj, Sem.run, hb, Result.andThen, if_neg hlt']
      rfl
    · have hall : ∀ c ∈ t, (dig c).isSome := fun c hc => by
        obtain ⟨j, hj⟩ := List.getElem?_of_mem hc
        have hlt := (List.getElem?_eq_some_iff.1 hj).1
        have := hdig j (by omega)
        simpa [List.getD, hj] using this
      rw [unhex_ok (by omega) hall]
      have hp := pv_all t _ hN hall (unhex_ok (by omega) hall)
      simp only
      refine ⟨⟨some ⟨g, 0, none⟩, N, ?_, ?_⟩, H.fin (hle_refl _)⟩
      · rw [List.length_map, List.length_range, show t.length / 2 = N by omega]
      · rw [← hp, ← hN, ← hkl]
        exact H.osl
  · right
    have hkl : k < t.length := by omega
    have hks : k < s.size := by omega
    obtain ⟨wd, hwd⟩ : ∃ wd, wd = (Utf8.decode s k).2 := ⟨_, rfl⟩
    obtain ⟨rn, hrn⟩ : ∃ rn, rn = (Utf8.decode s k).1 := ⟨_, rfl⟩
    refine ⟨k, rn, setBlock w3 it (.stringIter s (k + wd)), ?_, ?_⟩
    · rw [hwd, hrn]
      simp only [Instr.next, Sem.run_bind, getObj, Sem.run, hb, Result.andThen, if_pos hks, setObj]
      rfl
    have H := St.setBlk (o' := .stringIter s (k + wd)) H
    generalize setBlock w3 it (.stringIter s (k + wd)) = w5 at H ⊢
    obtain ⟨c, hc⟩ : ∃ c, c = s[k]'hks := ⟨_, rfl⟩
    have htk : t[k]? = some c := by
      rw [ht, hc]
      have : s.data.toList[k]? = s.data[k]? := by simp
      rw [this]
      exact Array.getElem?_eq_getElem _
    have htd : t.getD k 0 = c := by simp [List.getD, htk]
    refine Calls.mono (Tryz.strings_IndexByte _ _ w5) ?_
    rintro _ w6 ⟨rfl, rfl⟩
    refine ⟨_, rfl, ?_⟩
    refine br_dec (fun hbig => ?_) fun hsmall => ?_
    · have : dig c = none := by
        cases hd : dig c with
        | none => rfl
        | some n =>
          have h1 := dig_small hd
          have h2 := decode_ascii s k hks (by rw [← hc]; omega)
          rw [← hc] at h2
          rw [h2] at hrn
          simp only at hrn
          omega
      rw [unhex_bad htk this]
      exact ⟨rfl, H.fin (hle_refl _)⟩
    have hasc : c.toNat < 128 := by
      rcases Nat.lt_or_ge c.toNat 128 with h | h
      · exact h
      · have := (decode_high s k hks (by rw [← hc]; exact h)).1
        omega
    have hdc := decode_ascii s k hks (by rw [← hc]; exact hasc)
    rw [← hc] at hdc
    have hrc : rn = c.toNat := by rw [hrn, hdc]
    have hw1 : wd = 1 := by rw [hwd, hdc]
    have hcu : (IntKind.wrap .u8 (rn : Int)).toNat.toUInt8 = c := by
      rw [hrc, wrap8_in (by omega) (by omega)]
      simp
    rw [hcu]
    have hix : indexByte (⟨#[48, 49, 50, 51, 52, 53, 54, 55, 56, 57, 97, 98, 99, 100, 101, 102]⟩ : ByteArray).data.toList c = match dig c with | some n => (n : Int) | none => -1 := ix_of hasc
    rw [hix]
    cases hd : dig c with
    | none =>
      refine br_t (by decide) ?_
      rw [unhex_bad htk hd]
      exact ⟨rfl, H.fin (hle_refl _)⟩
    | some n =>
      have hn := dig_lt hd
      simp only
      refine br_f (by simp) ?_
      have hk2 : IntKind.wrap .i64 ((k : Int).tdiv 2) = ((k / 2 : Nat) : Int) := by
        have : (k : Int).tdiv 2 = ((k / 2 : Nat) : Int) := rfl
        rw [this, wrap64_nat (by omega)]
      rw [hk2]
      have hkN : k < 2 * N := by omega
      have hold := pv_old t hkN
      have hdk : dgt t k = n := by unfold dgt; rw [htd, hd]; rfl
      have hol : oldv t k < 16 := by unfold oldv; split; omega; exact dgt_lt _ _
      refine ⟨by decide, by decide, by omega, by omega, ?_⟩
      have hsl := H.osl (E := Enc.int .u8) (t := 5) (a := some ⟨g, 0, none⟩) (c := N) (xs := pv t N k)
      obtain ⟨ab, ao, hab, hcell⟩ := hsl (k / 2) _ hold
      simp only [Option.some.injEq, Addr.mk.injEq, and_true] at hab
      obtain ⟨rfl, rfl⟩ := hab
      simp only [okP_some, pb_some, po_some, toNat_nat]
      refine ⟨_, hcell 0 _ rfl, by decide, by omega, by omega, ?_⟩
      rw [or16 hol hn]
      have H2 := St.re (L' := own (Enc.int .u8) 5 (some ⟨g, 0, none⟩) N (pv t N k) :: [blk it (.stringIter s (k + wd))]) H
      refine H2.setEl (i := k / 2) (j := 0) (x := (oldv t k : Int)) (x' := ((16 * oldv t k + n : Nat) : Int)) hold (by show 0 + k / 2 * 1 = k / 2 * 1 + 0; omega) (by show 0 + 1 ≤ 1; omega) rfl fun w7 H => ?_
      rw [← hdk, ← pv_next t hkN] at H
      refine ⟨t.length - (k + 1), by omega, k + 1, by omega, rfl, fun j hj => ?_, ?_⟩
      · by_cases hjk : j = k
        · subst hjk; rw [htd, hd]; rfl
        · exact hdig j (by omega)
      · rw [hw1] at H
        exact St.re H
end Go.Proofs.YtllpiaedljoejaaGreatDoor
