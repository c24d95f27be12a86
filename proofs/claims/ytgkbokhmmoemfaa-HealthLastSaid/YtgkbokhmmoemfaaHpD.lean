/- Logs of faults: the four statements' functions return true. Conditions: none. -/
import Derived.Test.YtgkbokhmmoemfaaHpC
import Derived.Test.YtgkbokhmmoemfaaLf18
namespace Go.Proofs.Ytgkbokhmmoemfaa
open Go.Vc
set_option linter.unusedSimpArgs false
set_option linter.unusedVariables false
set_option maxRecDepth 100000

def awk : List Entry := [⟨1, 0, 0, 0, 0⟩, ⟨2, 7, 0, 0, 0⟩, ⟨3, 0, 0, 0, 0⟩]
theorem awake_any {w : World} : Calls Try.prog 14 #[] w (Ret fun v w' => v = .bool true ∧ Ch [] w w') := by
  apply purlinlaw18_awake.calls
  unfold purlinlaw18_awake.F
  refine Calls.ret (health_New_ok (n := 2) (by omega) (by omega)) ?_
  rintro v w1 ⟨b, rfl, hr1, hc1, hb⟩
  refine ⟨_, _, rfl, br_f rfl (br_f rfl ?_)⟩
  refine newBlk_row fun nb w2 hnb hs2 hr2 hc2 => ?_
  have hsl : SlR encE w2 (some ⟨nb, 0, none⟩) awk := SlR.row (E := encE) hr2
  have hr12 := hr1.ch hc2 (by simp)
  have hm : ([] : List Entry).length + awk.length ≤ 9223372036854775800 := by decide
  have hm2 : ([] ++ awk : List Entry).length ≤ 9223372036854775807 := by decide
  have hd : awk = [] ∨ pb (some (⟨nb, 0, none⟩ : Addr)) ≠ b := .inr (by have := hr1.lt; show nb ≠ b; omega)
  have hadd := health_Add_any (c := 3) hr12 hsl hd hm
  rw [show awk.length = 3 from rfl] at hadd
  refine Calls.ret hadd ?_
  rintro v w3 ⟨rfl, hr3, hc3⟩
  refine ⟨rfl, ?_⟩
  refine Calls.ret (health_List_any hr3 hm2) ?_
  rintro v w4 ⟨a, c, rfl, ho4, hc4⟩
  refine ⟨_, _, _, rfl, ?_⟩
  refine Calls.ret (health_Act_any (a := 0) (b := 1) (c := 2) (by omega) (by omega) (by omega)) ?_
  rintro v w5 ⟨rfl, hc5⟩
  refine ⟨true, true, false, 0, rfl, ?_⟩
  refine Calls.ret (health_Act_any (a := 0) (b := 1) (c := 2) (by omega) (by omega) (by omega)) ?_
  rintro v w6 ⟨rfl, hc6⟩
  refine ⟨false, false, false, 181, rfl, ?_⟩
  have hl : logList 2 ([] ++ awk) = [⟨2, 7, 0, 0, 0⟩, ⟨3, 0, 0, 0, 0⟩] := rfl
  rw [hl] at ho4 ⊢
  have hs6 := hc6.slr (hc5.slr ho4.slr (.inr (by simp))) (.inr (by simp))
  obtain ⟨ab, ao, rfl, h0⟩ := hs6 0 _ rfl
  obtain ⟨ab', ao', he, h1⟩ := hs6 1 _ rfl
  simp only [Option.some.injEq, Addr.mk.injEq, and_true] at he
  obtain ⟨rfl, rfl⟩ := he
  refine br_t rfl ⟨by omega, by decide, ?_⟩
  refine ⟨_, h0 0 _ rfl, br_t rfl ⟨by omega, by decide, ?_⟩⟩
  refine ⟨_, h1 0 _ rfl, br_t rfl ?_⟩
  have hc36 := (hc4.trans0 hc5).trans0 hc6
  have hr6 := hr3.ch hc36 (by simp)
  refine Calls.ret (health_Dropped_any hr6 hm2) ?_
  rintro v w7 ⟨rfl, hc7⟩
  refine ⟨_, rfl, br_t rfl ?_⟩
  refine Calls.ret (health_Of_any 7 (hr6.ch hc7 (by simp)) hm2) ?_
  rintro v w8 ⟨a8, c8, rfl, ho8, hc8⟩
  refine ⟨_, _, _, rfl, ?_⟩
  have h8 := ((((hc1.trans0 hc2).trans hc3 (by simp; omega)).trans0 hc36).trans0 hc7).trans0 hc8
  exact br_t rfl (br_t rfl (br_t rfl (br_t rfl ⟨rfl, h8⟩)))

theorem HealthActs_any {w : World} {a b c kind : Int} (ha : 0 ≤ a) (hb : 0 ≤ b) (hc : 0 ≤ c) :
    Calls Try.prog 4 #[.agg #[.int .u8 a, .int .u8 b, .int .u8 c], .int .i64 kind] w (Ret fun v w' => v = .bool true ∧ Ch [] w w') := by
  apply purlinlaw18_HealthActs.calls
  unfold purlinlaw18_HealthActs.F
  refine newBlk_row fun bl w1 hbl hs1 hr1 hc1 => ?_
  refine ⟨_, hr1.cell rfl, _, hr1.cell rfl, _, hr1.cell rfl, ?_⟩
  refine Calls.ret (health_Act_any ha hb hc) ?_
  rintro v w2 ⟨rfl, hc2⟩
  have hr2 := hc2.row hr1 (by simp)
  by_cases hk : kind < 0 ∨ 2 < kind
  · rw [actV, if_pos hk]
    refine ⟨_, _, _, _, rfl, ?_⟩
    refine ⟨_, hr2.cell rfl, _, hr2.cell rfl, _, hr2.cell rfl, ?_⟩
    refine Calls.ret ref18_Act_any ?_
    rintro v w3 ⟨rfl, hc3⟩
    rw [actV, if_pos hk]
    refine ⟨_, _, _, _, rfl, ?_⟩
    refine Calls.ret awake_any ?_
    rintro v w4 ⟨rfl, hc4⟩
    exact ⟨_, rfl, rfl, ((hc1.trans0 hc2).trans0 hc3).trans0 hc4⟩
  · rw [actV, if_neg hk]
    refine ⟨_, _, _, _, rfl, ?_⟩
    refine ⟨_, hr2.cell rfl, _, hr2.cell rfl, _, hr2.cell rfl, ?_⟩
    refine Calls.ret ref18_Act_any ?_
    rintro v w3 ⟨rfl, hc3⟩
    rw [actV, if_neg hk]
    refine ⟨_, _, _, _, rfl, ?_⟩
    refine Calls.ret awake_any ?_
    rintro v w4 ⟨rfl, hc4⟩
    refine ⟨_, rfl, ?_⟩
    simp only [br_true, beq_self_eq_true]
    exact ⟨trivial, ((hc1.trans0 hc2).trans0 hc3).trans0 hc4⟩

theorem HealthPlays_any {w : World} {size part : Int} {a : Option Addr} {c : Nat} {xs : List Entry} (hx : SlR encE w a xs) (hm : xs.length ≤ 9223372036854775807) :
    Calls Try.prog 3 #[.int .i64 size, .slice a xs.length c, .int .i64 part] w (Ret fun v w' => v = .bool true ∧ Ch [] w w') := by
  apply purlinlaw18_HealthPlays.calls
  unfold purlinlaw18_HealthPlays.F
  by_cases hn : size < 1 ∨ 64 < size
  · refine Calls.ret (health_New_bad hn) ?_
    rintro v w1 ⟨rfl, hc1⟩
    refine ⟨_, _, rfl, ?_⟩
    refine Calls.ret (ref18_New_bad hn) ?_
    rintro v w2 ⟨rfl, hc2⟩
    refine ⟨_, _, _, _, _, rfl, ?_⟩
    refine newBlk_row fun b w3 hb hs3 hr3 hc3 => ?_
    refine storeC_row hr3 (by simp) fun w4 hr4 hc4 _ => ?_
    refine Calls.ret awake_any ?_
    rintro v w5 ⟨rfl, hc5⟩
    refine ⟨_, rfl, ?_⟩
    exact ⟨rfl, ((((hc1.trans0 hc2).trans0 hc3).trans hc4 (by have := hc1.size; have := hc2.size; simp; omega)).trans0 hc5)⟩
  · obtain ⟨n, rfl⟩ : ∃ n : Nat, size = n := ⟨size.toNat, by omega⟩
    refine Calls.ret (health_New_ok (n := n) (by omega) (by omega)) ?_
    rintro v w1 ⟨lb, rfl, hl1, hc1, hlb⟩
    refine ⟨_, _, rfl, ?_⟩
    refine Calls.ret (ref18_New_ok (n := n) (by omega) (by omega)) ?_
    rintro v w2 ⟨rfl, hc2⟩
    refine ⟨_, _, _, _, _, rfl, ?_⟩
    refine newBlk_row fun b w3 hb hs3 hr3 hc3 => ?_
    refine storeC_row hr3 (by simp) fun w4 hr4 hc4 _ => ?_
    refine Calls.ret awake_any ?_
    rintro v w5 ⟨rfl, hc5⟩
    refine ⟨_, rfl, ?_⟩
    have z1 := hc1.size
    have z2 := hc2.size
    have hc05 : Ch [] w w5 := (((hc1.trans0 hc2).trans0 hc3).trans hc4 (by simp; omega)).trans0 hc5
    have hlb2 := hl1.lt
    have hl5 : LogRep w5 lb n [] := ((((hl1.ch hc2 (by simp)).ch hc3 (by simp)).ch hc4 (by simp; omega)).ch hc5 (by simp))
    have hr5 : Row w5 b 28 [.int .i64 n, .slice none 0 0] := hc5.row hr4 (by simp)
    refine br_f rfl (br_f rfl (br_f rfl (br_f rfl ?_)))
    refine ⟨fun m i w' => ∃ k : Nat, i = k ∧ k ≤ xs.length ∧ k ≤ 200 ∧ m = 200 - k ∧ LogRep w' lb n (xs.take k) ∧ (∃ a' c', Row w' b 28 [.int .i64 n, .slice a' (xs.take k).length c'] ∧ Own encE 34 (b + 1) w' a' c' (xs.take k)) ∧ Ch [] w w',
      ⟨_, 0, rfl, by omega, by omega, rfl, by simpa using hl5, ⟨none, 0, by simpa using hr5, by simpa using Own.nil _ _ _ _⟩, hc05⟩, ?_⟩
    rintro m dead w6 i ⟨k, rfl, hk, hk200, rfl, hl6, ⟨a6, c6, hr6, ho6⟩, hc6⟩
    unfold purlinlaw18_HealthPlays.L0
    refine br_dec (fun hlt => br_dec (fun hlt2 => ?_) fun hge => ⟨rfl, hc6⟩) fun hge => ⟨rfl, hc6⟩
    have hlt : k < xs.length := by omega
    have hlt2 : k < 200 := by omega
    obtain ⟨x, hxk⟩ : ∃ x, xs[k]? = some x := ⟨xs[k], by simp [hlt]⟩
    have hxe : xs[k] = x := by have h := hxk; rw [List.getElem?_eq_getElem hlt] at h; exact Option.some.inj h
    have htk : xs.take (k + 1) = xs.take k ++ [x] := by rw [List.take_succ_eq_append_getElem hlt, hxe]
    have hx6 := hc6.slr hx (.inr (by simp))
    have hlx : pb a < w.heap.size := by
      obtain ⟨ab, ao, rfl, hcell⟩ := hx k x hxk
      have h := hcell 0 _ rfl
      rcases Nat.lt_or_ge ab w.heap.size with h' | h'
      · exact h'
      · simp [World.cell?, Array.getElem?_eq_none h'] at h
    refine ⟨by omega, by omega, ?_⟩
    obtain ⟨ab, ao, rfl, hcell⟩ := hx6 k x hxk
    simp only [okP_some, pb_some, po_some, toNat_nat]
    refine ⟨_, hcell 0 _ rfl, _, hcell 1 _ rfl, _, hcell 2 _ rfl, _, hcell 3 _ rfl, _, hcell 4 _ rfl, ?_⟩
    have z6 := hc6.size
    have hlb6 := hl6.lt
    have hb6 := hr6.lt
    refine newBlk_row fun b1 w7 hb1 hs7 hr7 hc7 => ?_
    refine Calls.ret (health_Add_any (xs := [x]) (c := 1) (hl6.ch hc7 (by simp)) (SlR.one (E := encE) (x := x) hr7) (.inr (by simp; omega)) (by simp; omega)) ?_
    rintro v w8 ⟨rfl, hl8, hc8⟩
    rw [← htk] at hl8
    refine ⟨rfl, ?_⟩
    refine drawC_intro fun w9 hc9 _ => ?_
    have hlbb : lb ≠ b := by omega
    have hr9 := hc9.row (hc8.row (hc7.row hr6 (by simp)) (by simp; omega)) (by simp)
    have hob := ho6.base
    have ho9 := hc9.own (hc8.own (hc7.own ho6 (.inr (by simp))) (by rcases hob with h | h; exact .inl h; exact .inr (by simp; omega))) (.inr (by simp))
    refine ⟨_, hr9.cell rfl, _, _, _, hr9.cell rfl, by omega, by omega, ?_⟩
    try simp only [okP_some, pb_some, po_some, toNat_nat]
    have hc09 : Ch [] w w9 := ((hc6.trans0 hc7).trans hc8 (by simp; omega)).trans0 hc9
    obtain ⟨ab9, ao9, he9, hcell9⟩ := (hc09.slr hx (.inr (by simp))) k x hxk
    simp only [Option.some.injEq, Addr.mk.injEq, and_true] at he9
    obtain ⟨rfl, rfl⟩ := he9
    refine ⟨_, hcell9 0 _ rfl, _, hcell9 1 _ rfl, _, hcell9 2 _ rfl, _, hcell9 3 _ rfl, _, hcell9 4 _ rfl, ?_⟩
    refine Calls.ret (ref18_Add_any x ho9.slr (by simp; omega)) ?_
    rintro v w10 ⟨a10, c10, rfl, ho10, hc10⟩
    rw [← htk] at ho10 ⊢
    refine ⟨_, _, _, _, rfl, ?_⟩
    have z9 := hc09.size
    refine storeC_row (hc10.row hr9 (by simp)) (by simp) fun w11 hr11 hc11 hs11 => ?_
    have hr11 : Row w11 b 28 [.int .i64 n, .slice a10 (xs.take (k + 1)).length c10] := hr11
    have hb9 := hr9.lt
    have z10 := hc10.size
    have ho11 : Own encE 34 (b + 1) w11 a10 c10 (xs.take (k + 1)) := (hc11.own ho10 (by rcases ho10.base with h | h; exact .inl h; exact .inr (by simp; omega))).mono (by omega)
    have hl11 := (((hl8.ch hc9 (by simp)).ch hc10 (by simp)).ch hc11 (by simp; omega))
    refine drawS_intro [] fun w12 hc12 hh12 => ?_
    have hr12 := hc12.row hr11 (by simp)
    have ho12 := hc12.own ho11 (.inr (by simp))
    have hl12 := hl11.ch hc12 (by simp)
    have hc012 : Ch [] w w12 := (((hc09.trans0 hc10).trans hc11 (by simp; omega)).trans0 hc12)
    have hx12 := hc012.slr hx (.inr (by simp))
    have hlen1 : (xs.take (k + 1)).length ≤ 201 := by simp; omega
    refine ⟨_, fun w9 h9 => (h9.row hr12 (by simp)).cell rfl, _, _, _, fun w9 h9 => (h9.row hr12 (by simp)).cell rfl, ?_⟩
    refine Calls.ret (health_List_any hl12 (by omega)) ?_
    rintro v w13 ⟨a13, c13, rfl, ho13, hc13⟩
    refine ⟨_, _, _, rfl, hc13, ?_⟩
    have s13 := (hc13.own ho12 (.inr (by simp)))
    refine Calls.ret (ref18_List_any (size := n) s13.slr s13.cap (by omega)) ?_
    rintro v w14 ⟨a14, c14, rfl, hs14, _, hc14⟩
    refine ⟨_, _, _, rfl, hc13.trans0 hc14, ?_⟩
    have hll : (logList n (xs.take (k + 1))).length ≤ 1000 := by rw [logList_len]; omega
    refine Calls.ret (ref18_Same_any (hc14.slr ho13.slr (.inr (by simp))) hs14 (by omega)) ?_
    rintro v w15 ⟨rfl, hc15⟩
    have h15 := (hc13.trans0 hc14).trans0 hc15
    refine ⟨_, rfl, h15, ?_⟩
    refine br_f (by simp) ?_
    refine ⟨_, fun w9 h9 => (h9.row hr12 (by simp)).cell rfl, _, _, _, fun w9 h9 => (h9.row hr12 (by simp)).cell rfl, ?_⟩
    refine Calls.ret (health_Dropped_any (hl12.ch h15 (by simp)) (by omega)) ?_
    rintro v w16 ⟨rfl, hc16⟩
    have h16 := h15.trans0 hc16
    refine ⟨_, rfl, h16, ?_⟩
    refine Calls.ret (ref18_Dropped_any (size := n) (by omega)) ?_
    rintro v w17 ⟨rfl, hc17⟩
    have h17 := h16.trans0 hc17
    refine ⟨_, rfl, h17, ?_⟩
    refine br_f (by simp) ?_
    refine ⟨_, fun w9 h9 => (h9.row hr12 (by simp)).cell rfl, _, _, _, fun w9 h9 => (h9.row hr12 (by simp)).cell rfl, ?_⟩
    refine Calls.ret (health_Of_any part (hl12.ch h17 (by simp)) (by omega)) ?_
    rintro v w18 ⟨a18, c18, rfl, ho18, hc18⟩
    have h18 := h17.trans0 hc18
    refine ⟨_, _, _, rfl, h18, ?_⟩
    refine Calls.ret (ref18_Of_any (size := n) part (h18.own ho12 (.inr (by simp))).slr (by omega)) ?_
    rintro v w19 ⟨a19, c19, rfl, ho19, hc19⟩
    have h19 := h18.trans0 hc19
    refine ⟨_, _, _, rfl, h19, ?_⟩
    have hfl := fun p => List.length_filter_le (fun x => x.part == p) (logList n (xs.take (k + 1)))
    refine Calls.ret (ref18_Same_any (hc19.slr ho18.slr (.inr (by simp))) ho19.slr (by have := hfl part; omega)) ?_
    rintro v w20 ⟨rfl, hc20⟩
    have h20 := h19.trans0 hc20
    refine ⟨_, rfl, h20, ?_⟩
    refine br_f (by simp) ?_
    refine ⟨by omega, by omega, ?_⟩
    have hx20 := h20.slr hx12 (.inr (by simp))
    obtain ⟨ab20, ao20, he20, hcell20⟩ := hx20 k x hxk
    simp only [Option.some.injEq, Addr.mk.injEq, and_true] at he20
    obtain ⟨rfl, rfl⟩ := he20
    refine ⟨_, hcell20 1 _ rfl, by omega, by omega, ?_⟩
    try simp only [okP_some, pb_some, po_some, toNat_nat]
    refine ⟨_, fun w9 h9 => (h9.row hr12 (by simp)).cell rfl, _, _, _, fun w9 h9 => (h9.row hr12 (by simp)).cell rfl, ?_⟩
    obtain ⟨ab12, ao12, he12, hcell12⟩ := hx12 k x hxk
    simp only [Option.some.injEq, Addr.mk.injEq, and_true] at he12
    obtain ⟨rfl, rfl⟩ := he12
    refine ⟨x.part, fun w9 h9 => h9.cell (hcell12 1 _ rfl) (by simp), ?_⟩
    refine Calls.ret (health_Of_any x.part (hl12.ch h20 (by simp)) (by omega)) ?_
    rintro v w21 ⟨a21, c21, rfl, ho21, hc21⟩
    have h21 := h20.trans0 hc21
    refine ⟨_, _, _, rfl, h21, ?_⟩
    refine Calls.ret (ref18_Of_any (size := n) x.part (h21.own ho12 (.inr (by simp))).slr (by omega)) ?_
    rintro v w22 ⟨a22, c22, rfl, ho22, hc22⟩
    have h22 := h21.trans0 hc22
    refine ⟨_, _, _, rfl, ?_⟩
    refine Calls.ret (ref18_Same_any (hc22.slr ho21.slr (.inr (by simp))) ho22.slr (by have := hfl x.part; omega)) ?_
    rintro v w23 ⟨rfl, hc23⟩
    have h23 := h22.trans0 hc23
    refine ⟨_, rfl, ?_⟩
    refine br_f (by simp) ?_
    have hk1 : IntKind.wrap .i64 ((k : Int) + 1) = ((k + 1 : Nat) : Int) := by rw [← Int.natCast_succ, wrap64_nat (by omega)]
    exact ⟨200 - (k + 1), by omega, k + 1, hk1, by omega, by omega, rfl, hl12.ch h23 (by simp), ⟨a10, c10, h23.row hr12 (by simp), h23.own ho12 (.inr (by simp))⟩, hc012.trans0 h23⟩
end Go.Proofs.Ytgkbokhmmoemfaa
