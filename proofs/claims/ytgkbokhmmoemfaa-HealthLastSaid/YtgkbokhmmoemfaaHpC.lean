/- Logs of faults: what the document's functions do, and what is done about a fault. Conditions: none. -/
import Derived.Test.YtgkbokhmmoemfaaHpB
import Derived.Test.YtgkbokhmmoemfaaVcEq
namespace Go.Proofs.Ytgkbokhmmoemfaa
open Go.Vc
set_option linter.unusedSimpArgs false
set_option linter.unusedVariables false

theorem ref18_New_ok {n : Nat} {w : World} (h1 : 1 ≤ n) (h2 : n ≤ 64) :
    Calls Try.prog 13 #[.int .i64 n] w (Ret fun v w' => v = .tuple #[.agg #[.int .i64 n, .slice none 0 0], .int .i64 0] ∧ Ch [] w w') := by
  apply purlinref18_New.calls
  unfold purlinref18_New.F
  refine newBlk_row fun b w1 hb _ hr hc => ?_
  refine br_dec (fun h => by omega) fun _ => br_dec (fun h => by omega) fun _ => ?_
  refine storeC_row hr (by simp) fun w2 hr2 hc2 _ => ?_
  exact ⟨_, hr2.cell rfl, _, _, _, hr2.cell rfl, rfl, hc.trans hc2 (by simp; omega)⟩

theorem ref18_New_bad {n : Int} {w : World} (h : n < 1 ∨ 64 < n) :
    Calls Try.prog 13 #[.int .i64 n] w (Ret fun v w' => v = .tuple #[.agg #[.int .i64 0, .slice none 0 0], .int .i64 180] ∧ Ch [] w w') := by
  apply purlinref18_New.calls
  unfold purlinref18_New.F
  refine newBlk_row fun b w1 hb _ hr hc => ?_
  refine br_dec (fun h => ?_) fun _ => br_dec (fun h => ?_) fun _ => ?_
  · refine storeC_row hr (by simp) fun w2 hr2 hc2 _ => ?_
    exact ⟨_, hr2.cell rfl, _, _, _, hr2.cell rfl, rfl, hc.trans hc2 (by simp; omega)⟩
  · refine storeC_row hr (by simp) fun w2 hr2 hc2 _ => ?_
    exact ⟨_, hr2.cell rfl, _, _, _, hr2.cell rfl, rfl, hc.trans hc2 (by simp; omega)⟩
  · omega

theorem ref18_Add_any {w : World} {size : Int} {a : Option Addr} {c : Nat} {all : List Entry} (x : Entry) (hx : SlR encE w a all) (hm : all.length ≤ 1000000) :
    Calls Try.prog 16 #[.agg #[.int .i64 size, .slice a all.length c], .agg #[.int .i64 x.tick, .int .i64 x.part, .int .i64 x.proc, .int .u8 x.kind, .int .u8 x.act]] w
      (Ret fun v w' => ∃ a' c', v = .agg #[.int .i64 size, .slice a' (all ++ [x]).length c'] ∧ Own encE 34 w.heap.size w' a' c' (all ++ [x]) ∧ Ch [] w w') := by
  apply purlinref18_Add.calls
  unfold purlinref18_Add.F
  refine newBlk_row fun b w1 hb hs1 hr1 hc1 => newBlk_row fun b1 w2 hb1 hs2 hr2 hc2 => newBlk_row fun b2 w3 hb2 hs3 hr3 hc3 => ?_
  refine drawS_intro [] fun w4 hc4 hh4 => ?_
  have hs4 : w4.heap.size = b2 + 1 := by rw [hh4]; exact hs3
  have r1 : Row w4 b 28 [.int .i64 size, .slice a all.length c] := hc4.row (hc3.row (hc2.row hr1 (by simp)) (by simp)) (by simp)
  have r2 : Row w4 b1 34 (encE.f x) := hc4.row (hc3.row hr2 (by simp)) (by simp)
  have r3 : Row w4 b2 28 [.int .i64 0, .slice none 0 0] := hc4.row hr3 (by simp)
  have hc14 : Ch [] w w4 := ((hc1.trans0 hc2).trans0 hc3).trans0 hc4
  have hx4 := hc14.slr hx (.inr (by simp))
  have tail : ∀ (w8 : World) (a' : Option Addr) (c' : Nat), Own encE 34 w4.heap.size w8 a' c' (all ++ [x]) → Ch [] w4 w8 →
      storeC w8 b 1 [.slice a' (all ++ [x]).length c'] fun w9 =>
        ∃ t13 : Int, w9.cell? ⟨b, 0, none⟩ = some (.int .i64 t13) ∧ ∃ t13A : Option Addr, ∃ t13N : Nat, ∃ t13C : Nat, w9.cell? ⟨b, 1, none⟩ = some (.slice t13A t13N t13C) ∧
        storeC w9 b2 0 [.int .i64 t13, .slice t13A t13N t13C] fun w10 =>
        ∃ r : Int, w10.cell? ⟨b2, 0, none⟩ = some (.int .i64 r) ∧ ∃ rA : Option Addr, ∃ rN : Nat, ∃ rC : Nat, w10.cell? ⟨b2, 1, none⟩ = some (.slice rA rN rC) ∧
        ∃ a' c', Value.agg #[.int .i64 r, .slice rA rN rC] = .agg #[.int .i64 size, .slice a' (all ++ [x]).length c'] ∧ Own encE 34 w.heap.size w10 a' c' (all ++ [x]) ∧ Ch [] w w10 := by
    intro w8 a' c' ho hc8
    refine storeC_row (hc8.row r1 (by simp)) (by simp) fun w9 hr9 hc9 _ => ?_
    refine ⟨_, hr9.cell rfl, _, _, _, hr9.cell rfl, ?_⟩
    have hr39 := hc9.row (hc8.row r3 (by simp)) (by simp; omega)
    refine storeC_row hr39 (by simp) fun w10 hr10 hc10 _ => ?_
    refine ⟨_, hr10.cell rfl, _, _, _, hr10.cell rfl, a', c', rfl, ?_, ?_⟩
    · have hbs := ho.base
      refine (hc10.own (hc9.own ho ?_) ?_).mono (by omega)
      · rcases hbs with h | h
        · exact .inl h
        · exact .inr (by simp; omega)
      · rcases hbs with h | h
        · exact .inl h
        · exact .inr (by simp; omega)
    · exact ((hc14.trans0 hc8).trans hc9 (by simp; omega)).trans hc10 (by simp; omega)
  refine ⟨_, _, _, fun w9 h9 => (h9.row r1 (by simp)).cell rfl, ?_⟩
  refine ⟨_, fun w9 h9 => (h9.row r2 (by simp)).cell rfl, _, fun w9 h9 => (h9.row r2 (by simp)).cell rfl, _, fun w9 h9 => (h9.row r2 (by simp)).cell rfl, _, fun w9 h9 => (h9.row r2 (by simp)).cell rfl, _, fun w9 h9 => (h9.row r2 (by simp)).cell rfl, ?_⟩
  have bnd : ∀ (xs ys : List Entry), xs.length + ys.length ≤ 1000001 → xs.length + ys.length ≤ maxLen ∧ (xs.length + ys.length) * 32 ≤ 140737488355328 := fun xs ys h => ⟨by simp [maxLen]; omega, by omega⟩
  refine ⟨?_, ?_⟩
  · refine newBlk_row fun b3 w5 hb3 hs5 hr5 hc5 => ⟨hc5, ?_, ?_⟩
    · have ho5 : Own encE 34 w4.heap.size w5 (some ⟨b3, 0, none⟩) 0 [] := Own.row (E := encE) (xs := []) hr5 (by omega) (by simp)
      obtain ⟨a1, c1, w6, hrun, ho6, hc6, _⟩ := append_new (P := Try.prog) (ty := 22) elE hc5 ho5 (c2 := c) (hc5.slr hx4 (.inr (by simp))) (bnd _ _ (by simp; omega)).1 (bnd _ _ (by simp; omega)).2 (by omega) (Nat.le_refl _)
      refine ⟨a1, _, c1, w6, hrun, hc6, ?_⟩
      simp only [List.nil_append] at ho6 ⊢
      refine newBlk_row fun b4 w7 hb4 hs7 hr7 hc7 => ⟨hc6.trans0 hc7, ?_⟩
      obtain ⟨a2, c2, w8, hrun, ho8, hc8, _⟩ := append_new (P := Try.prog) (ty := 22) elE (hc6.trans0 hc7) (hc7.own ho6 (.inr (by simp))) (ys := [x]) (c2 := 1) (SlR.one (E := encE) (x := x) hr7) (bnd _ _ (by simp; omega)).1 (bnd _ _ (by simp; omega)).2 (by have := hc6.size; omega) (Nat.le_refl _)
      exact ⟨a2, _, c2, w8, hrun, tail _ _ _ ho8 hc8⟩
    · refine newBlk_row fun b5 w6 hb6 hs6 hr6 hc6 => ⟨hc5.trans0 hc6, ?_⟩
      have ho5 : Own encE 34 w4.heap.size w6 (some ⟨b3, 0, none⟩) 0 [] := Own.row (E := encE) (xs := []) (hc6.row hr5 (by simp)) (by omega) (by simp)
      have hc46 := hc5.trans0 hc6
      obtain ⟨a1, c1, w7, hrun, ho7, hc7, hd7⟩ := append_new (P := Try.prog) (ty := 22) elE hc46 ho5 (c2 := c) (hc46.slr hx4 (.inr (by simp))) (bnd _ _ (by simp; omega)).1 (bnd _ _ (by simp; omega)).2 (by omega) (Nat.le_refl _)
      refine ⟨a1, _, c1, w7, hrun, hc7, ?_⟩
      simp only [List.nil_append] at ho7 ⊢
      obtain ⟨a2, c2, w8, hrun, ho8, hc8, _⟩ := append_new (P := Try.prog) (ty := 22) elE hc7 ho7 (ys := [x]) (c2 := 1) (SlR.one (E := encE) (x := x) (hd7.row hr6 (by simp; omega))) (bnd _ _ (by simp; omega)).1 (bnd _ _ (by simp; omega)).2 (by have := hc7.size; omega) (Nat.le_refl _)
      exact ⟨a2, _, c2, w8, hrun, tail _ _ _ ho8 hc8⟩
  · refine newBlk_row fun b6 w5 hb5 hs5 hr5 hc5 => ⟨hc5, ?_⟩
    refine newBlk_row fun b7 w6 hb6 hs6 hr6 hc6 => ⟨hc5.trans0 hc6, ?_⟩
    have ho5 : Own encE 34 w4.heap.size w6 (some ⟨b7, 0, none⟩) 0 [] := Own.row (E := encE) (xs := []) hr6 (by omega) (by simp)
    have hc46 := hc5.trans0 hc6
    obtain ⟨a1, c1, w7, hrun, ho7, hc7, hd7⟩ := append_new (P := Try.prog) (ty := 22) elE hc46 ho5 (c2 := c) (hc46.slr hx4 (.inr (by simp))) (bnd _ _ (by simp; omega)).1 (bnd _ _ (by simp; omega)).2 (by omega) (Nat.le_refl _)
    refine ⟨a1, _, c1, w7, hrun, hc7, ?_⟩
    simp only [List.nil_append] at ho7 ⊢
    obtain ⟨a2, c2, w8, hrun, ho8, hc8, _⟩ := append_new (P := Try.prog) (ty := 22) elE hc7 ho7 (ys := [x]) (c2 := 1) (SlR.one (E := encE) (x := x) (hd7.row (hc6.row hr5 (by simp)) (by simp; omega))) (bnd _ _ (by simp; omega)).1 (bnd _ _ (by simp; omega)).2 (by have := hc7.size; omega) (Nat.le_refl _)
    exact ⟨a2, _, c2, w8, hrun, tail _ _ _ ho8 hc8⟩

theorem ref18_Dropped_any {w : World} {size : Nat} {a : Option Addr} {c N : Nat} (hm : N ≤ 9223372036854775807) :
    Calls Try.prog 21 #[.agg #[.int .i64 size, .slice a N c]] w (Ret fun v w' => v = .int .i64 ((N - min N size : Nat) : Int) ∧ Ch [] w w') := by
  apply purlinref18_Dropped.calls
  unfold purlinref18_Dropped.F
  refine newBlk_row fun b w1 hb hs1 hr1 hc1 => ?_
  refine ⟨_, _, _, hr1.cell rfl, _, hr1.cell rfl, ?_⟩
  refine br_dec (fun h => ⟨?_, hc1⟩) fun h => ⟨_, _, _, hr1.cell rfl, _, hr1.cell rfl, ?_, hc1⟩
  · have : N - min N size = 0 := by omega
    rw [this]; rfl
  · have : ((N : Int) - (size : Int)) = ((N - min N size : Nat) : Int) := by omega
    rw [this, wrap64_nat (by omega)]

theorem ref18_List_any {w : World} {size : Nat} {a : Option Addr} {c : Nat} {all : List Entry} (hx : SlR encE w a all) (hcap : all.length ≤ c) (hm : all.length ≤ 1000000) :
    Calls Try.prog 19 #[.agg #[.int .i64 size, .slice a all.length c]] w (Ret fun v w' => ∃ a' c', v = .slice a' (logList size all).length c' ∧ SlR encE w' a' (logList size all) ∧ (logList size all).length ≤ c' ∧ Ch [] w w') := by
  apply purlinref18_List.calls
  unfold purlinref18_List.F
  refine newBlk_row fun b w1 hb hs1 hr1 hc1 => ?_
  refine drawS_intro [] fun w2 hc2 hh2 => ?_
  have hr2 := hc2.row hr1 (by simp)
  refine ⟨_, hr2.cell rfl, _, _, _, hr2.cell rfl, _, _, _, fun w9 h9 => (h9.row hr2 (by simp)).cell rfl, ?_⟩
  refine Calls.ret (ref18_Dropped_any (size := size) (by omega)) ?_
  rintro v w3 ⟨rfl, hc3⟩
  refine ⟨_, rfl, hc3, by omega, by omega, ?_⟩
  rw [toNat_nat]
  have hll : (logList size all).length = all.length - (all.length - min all.length size) := by rw [logList_len]; omega
  refine ⟨_, _, by rw [hll], ?_, by rw [logList_len]; omega, (hc1.trans0 hc2).trans0 hc3⟩
  have := (((hc1.trans0 hc2).trans0 hc3).slr hx (.inr (by simp))).cut (l := all.length - min all.length size) hcap
  exact this

theorem ref18_Of_any {w : World} {size : Nat} {a : Option Addr} {c : Nat} {all : List Entry} (part : Int) (hx : SlR encE w a all) (hm : all.length ≤ 1000000) :
    Calls Try.prog 23 #[.agg #[.int .i64 size, .slice a all.length c], .int .i64 part] w (Ret fun v w' => ∃ a' c', v = .slice a' ((logList size all).filter fun x => x.part == part).length c' ∧ Own encE 34 w.heap.size w' a' c' ((logList size all).filter fun x => x.part == part) ∧ Ch [] w w') := by
  apply purlinref18_Of.calls
  unfold purlinref18_Of.F
  refine newBlk_row fun b w1 hb hs1 hr1 hc1 => newBlk_row fun b1 w2 hb1 hs2 hr2 hc2 => ?_
  have hr12 := hc2.row hr1 (by simp)
  refine ⟨_, hr12.cell rfl, _, _, _, hr12.cell rfl, ?_⟩
  refine Calls.ret (ref18_Dropped_any (size := size) (by omega)) ?_
  rintro v w3 ⟨rfl, hc3⟩
  refine ⟨_, rfl, ?_⟩
  obtain ⟨d, hd⟩ : ∃ d, d = all.length - min all.length size := ⟨_, rfl⟩
  have hll : logList size all = all.drop d := by rw [hd]; rfl
  rw [← hd, hll]
  have hdl : d ≤ all.length := by omega
  have hc13 : Ch [] w w3 := (hc1.trans0 hc2).trans0 hc3
  have hr13 := hc3.row hr12 (by simp)
  have hs3 := hc3.size
  refine ⟨fun n a9 n9 c9 i w' => ∃ k : Nat, i = ((d + k : Nat) : Int) ∧ d + k ≤ all.length ∧ n = all.length - (d + k) ∧ n9 = (((all.drop d).take k).filter fun x => x.part == part).length ∧ Own encE 34 b1 w' a9 c9 (((all.drop d).take k).filter fun x => x.part == part) ∧ Row w' b 28 [.int .i64 size, .slice a all.length c] ∧ Ch [] w w',
    ⟨_, 0, rfl, by omega, rfl, by simp, by simpa using Own.row (E := encE) (xs := []) (hc3.row hr2 (by simp)) (Nat.le_refl _) (by simp), hr13, hc13⟩, ?_⟩
  rintro n dead w4 a9 n9 c9 i ⟨k, rfl, hk, rfl, rfl, ho, hr14, hc04⟩
  unfold purlinref18_Of.L0
  have hx4 := hc04.slr hx (.inr (by simp))
  refine ⟨_, _, _, hr14.cell rfl, ?_⟩
  refine br_dec (fun hlt => ?_) fun hge => ?_
  · have hlt : d + k < all.length := by omega
    obtain ⟨x, hxk⟩ : ∃ x, all[d + k]? = some x := ⟨all[d + k], by simp [hlt]⟩
    refine ⟨_, _, _, hr14.cell rfl, by omega, by omega, ?_⟩
    obtain ⟨ab, ao, rfl, hcell⟩ := hx4 _ x hxk
    simp only [okP_some, pb_some, po_some, toNat_nat]
    refine ⟨_, hcell 1 _ rfl, ?_⟩
    have hk1 : IntKind.wrap .i64 (((d + k : Nat) : Int) + 1) = ((d + (k + 1) : Nat) : Int) := by rw [← Int.natCast_succ, wrap64_nat (by omega)]; rfl
    have htk : (all.drop d).take (k + 1) = (all.drop d).take k ++ [x] := by
      rw [List.take_succ_eq_append_getElem (by simp; omega)]
      have : (all.drop d)[k]'(by simp; omega) = x := by
        have h := hxk; rw [List.getElem?_eq_getElem (by omega)] at h; rw [List.getElem_drop]; exact Option.some.inj h
      rw [this]
    refine br_intro (fun his => ?_) fun his => ?_
    · refine ⟨_, _, _, hr14.cell rfl, by omega, by omega, ?_⟩
      simp only [okP_some, pb_some, po_some, toNat_nat]
      refine ⟨_, hcell 0 _ rfl, _, hcell 1 _ rfl, _, hcell 2 _ rfl, _, hcell 3 _ rfl, _, hcell 4 _ rfl, ?_⟩
      refine newBlk_row fun b5 w5 hb5 hs5 hr5 hc5 => ?_
      have hflt : ((all.drop d).take (k + 1)).filter (fun x => x.part == part) = ((all.drop d).take k).filter (fun x => x.part == part) ++ [x] := by rw [htk, List.filter_append]; simp at his; simp [his]
      have hlen : (((all.drop d).take k).filter fun x => x.part == part).length ≤ 1000000 := by
        have h1 := List.length_filter_le (fun x => x.part == part) ((all.drop d).take k)
        have : ((all.drop d).take k).length ≤ all.length := by simp; omega
        omega
      have hs04 := hc04.size
      obtain ⟨a', c', w6, hrun, ho6, hc6, hd6⟩ := append_new (P := Try.prog) (ty := 22) elE (hc04.trans0 hc5) (hc5.own ho (.inr (by simp))) (ys := [x]) (c2 := 1) (SlR.one (E := encE) (x := x) hr5) (by simp [maxLen]; omega) (by simp; omega) (by omega) (by omega)
      have hr6 := hd6.row (hc5.row hr14 (by simp)) (by
        rcases ho.base with h | h
        · simp [h]
        · cases a9 with
          | none => simp
          | some ad => simp [pb] at h ⊢; omega)
      refine ⟨a', _, c', w6, hrun, all.length - (d + (k + 1)), by omega, k + 1, hk1, by omega, rfl, by rw [hflt], by rw [hflt]; exact ho6, hr6, hc6⟩
    · have hflt : ((all.drop d).take (k + 1)).filter (fun x => x.part == part) = ((all.drop d).take k).filter (fun x => x.part == part) := by rw [htk, List.filter_append]; simp at his; simp [his]
      exact ⟨all.length - (d + (k + 1)), by omega, k + 1, hk1, by omega, rfl, by rw [hflt], by rw [hflt]; exact ho, hr14, hc04⟩
  · have hke : k = all.length - d := by omega
    subst hke
    have : (all.drop d).take (all.length - d) = all.drop d := List.take_of_length_le (by simp)
    rw [this] at ho ⊢
    exact ⟨a9, c9, rfl, ho.mono (by omega), hc04⟩

theorem allEq_entry (x y : Entry) : allEq (encE.f x) (encE.f y) = some (decide (x = y)) := by
  cases x; cases y
  simp [allEq, cellEq, encE]
  simp only [Bool.decide_and, ← Bool.beq_eq_decide_eq]

theorem ref18_Same_any {w : World} {a b : Option Addr} {c c' : Nat} {xs ys : List Entry} (hx : SlR encE w a xs) (hy : SlR encE w b ys) (hm : xs.length ≤ 1000000) :
    Calls Try.prog 17 #[.slice a xs.length c, .slice b ys.length c'] w (Ret fun v w' => v = .bool (decide (xs = ys)) ∧ Ch [] w w') := by
  apply purlinref18_Same.calls
  unfold purlinref18_Same.F
  refine br_intro (fun h => ?_) fun h => ?_
  · refine ⟨?_, Ch.refl _ _⟩
    have : xs ≠ ys := by rintro rfl; simp at h
    simp [this]
  · have hl : xs.length = ys.length := by simp at h; omega
    refine ⟨fun n i w' => ∃ k : Nat, i = k ∧ k ≤ xs.length ∧ n = xs.length - k ∧ xs.take k = ys.take k ∧ Ch [] w w', ⟨_, 0, rfl, Nat.zero_le _, rfl, rfl, Ch.refl _ _⟩, ?_⟩
    rintro n dead w1 i ⟨k, rfl, hk, rfl, htk, hc1⟩
    unfold purlinref18_Same.L0
    refine br_dec (fun hlt => ?_) fun hge => ?_
    · have hlt : k < xs.length := by omega
      refine drawC_intro fun w2 hc2 _ => ?_
      have hc12 := hc1.trans0 hc2
      obtain ⟨x, hxk⟩ : ∃ x, xs[k]? = some x := ⟨xs[k], by simp [hlt]⟩
      obtain ⟨y, hyk⟩ : ∃ y, ys[k]? = some y := ⟨ys[k]'(by omega), List.getElem?_eq_getElem (by omega)⟩
      obtain ⟨ab, ao, rfl, hcx⟩ := (hc12.slr hx (.inr (by simp))) k x hxk
      obtain ⟨bb, bo, rfl, hcy⟩ := (hc12.slr hy (.inr (by simp))) k y hyk
      refine ⟨by omega, by omega, ?_⟩
      simp only [okP_some, pb_some, po_some, toNat_nat]
      refine ⟨_, hcx 0 _ rfl, _, hcx 1 _ rfl, _, hcx 2 _ rfl, _, hcx 3 _ rfl, _, hcx 4 _ rfl, by omega, by omega, ?_⟩
      refine ⟨_, hcy 0 _ rfl, _, hcy 1 _ rfl, _, hcy 2 _ rfl, _, hcy 3 _ rfl, _, hcy 4 _ rfl, ?_⟩
      refine ⟨_, (eq_struct (P := Try.prog) (t := 34) (xs := (encE.f x).toArray) (ys := (encE.f y).toArray) (b := decide (x = y)) w2 (by kernel_rfl) (by kernel_rfl) (allEq_entry x y)).2, ?_⟩
      have hxe : xs[k] = x := by have h := hxk; rw [List.getElem?_eq_getElem hlt] at h; exact Option.some.inj h
      have hye : ys[k]'(by omega) = y := by have h := hyk; rw [List.getElem?_eq_getElem (by omega)] at h; exact Option.some.inj h
      refine br_intro (fun hne => ?_) fun he => ?_
      · refine ⟨?_, hc12⟩
        have hne : x ≠ y := by simpa using hne
        have : xs ≠ ys := by
          rintro rfl
          exact hne (hxe.symm.trans hye)
        simp [this]
      · have he : x = y := by simpa using he
        have hk1 : IntKind.wrap .i64 ((k : Int) + 1) = ((k + 1 : Nat) : Int) := by rw [← Int.natCast_succ, wrap64_nat (by omega)]
        refine ⟨xs.length - (k + 1), by omega, k + 1, hk1, by omega, rfl, ?_, hc12⟩
        rw [List.take_succ_eq_append_getElem hlt, List.take_succ_eq_append_getElem (by omega : k < ys.length), htk, hxe, hye, he]
    · have : k = xs.length := by omega
      subst this
      refine ⟨?_, hc1⟩
      rw [List.take_of_length_le (Nat.le_refl _), List.take_of_length_le (by omega)] at htk
      simp [htk]

/-- What is done about a kind of fault. -/
def actV (a b c kind : Int) : Value :=
  if kind < 0 ∨ 2 < kind then .tuple #[.bool false, .bool false, .bool false, .int .i64 181]
  else
    let t := if kind = 0 then a else if kind = 1 then b else c
    .tuple #[.bool true, .bool (decide (0 < t)), .bool (decide (1 < t)), .int .i64 0]

theorem three {w : World} {bl : Nat} {a b c kind : Int} (hr : Row w bl 45 [.int .u8 a, .int .u8 b, .int .u8 c]) (h0 : 0 ≤ kind) (h1 : kind ≤ 2) :
    w.cell? ⟨bl, 0 + kind.toNat * 1, none⟩ = some (.int .u8 (if kind = 0 then a else if kind = 1 then b else c)) := by
  have : kind = 0 ∨ kind = 1 ∨ kind = 2 := by omega
  rcases this with rfl | rfl | rfl <;> exact hr.cell rfl

theorem health_Act_any {w : World} {a b c kind : Int} (ha : 0 ≤ a) (hb : 0 ≤ b) (hc : 0 ≤ c) :
    Calls Try.prog 24 #[.agg #[.int .u8 a, .int .u8 b, .int .u8 c], .int .i64 kind] w (Ret fun v w' => v = actV a b c kind ∧ Ch [] w w') := by
  apply health_Act.calls
  unfold health_Act.F
  refine newBlk_row fun bl w1 hbl hs1 hr1 hc1 => ?_
  refine br_dec (fun h => ⟨by simp [actV, h], hc1⟩) fun h1 => br_dec (fun h => ⟨?_, hc1⟩) fun h2 => ?_
  · have : kind < 0 ∨ 2 < kind := by omega
    simp [actV, this]
  · refine ⟨by omega, by omega, _, three hr1 (by omega) (by omega), ?_⟩
    have hk : ¬ (kind < 0 ∨ 2 < kind) := by omega
    obtain ⟨t, ht⟩ : ∃ t, t = (if kind = 0 then a else if kind = 1 then b else c) := ⟨_, rfl⟩
    have ht0 : 0 ≤ t := by rw [ht]; split; exact ha; split; exact hb; exact hc
    rw [actV, if_neg hk, ← ht]
    refine br_intro (fun h => ⟨?_, hc1⟩) fun h => br_intro (fun h' => ⟨?_, hc1⟩) fun h' => br_intro (fun h'' => ⟨?_, hc1⟩) fun h'' => ?_
    · have h : (if 2 < t then (2 : Int) else t) = 2 := by simpa using h
      have : 2 ≤ t := by split at h <;> omega
      simp [show 0 < t by omega, show 1 < t by omega]
    · have h : (if 2 < t then (2 : Int) else t) = 1 := by simpa using h'
      have : t = 1 := by split at h <;> omega
      subst this; rfl
    · have h : (if 2 < t then (2 : Int) else t) = 0 := by simpa using h''
      have : t = 0 := by split at h <;> omega
      subst this; rfl
    · exfalso
      simp only [beq_eq_false_iff_ne] at h h' h''
      split at h <;> omega

theorem ref18_Act_any {w : World} {a b c kind : Int} :
    Calls Try.prog 25 #[.agg #[.int .u8 a, .int .u8 b, .int .u8 c], .int .i64 kind] w (Ret fun v w' => v = actV a b c kind ∧ Ch [] w w') := by
  apply purlinref18_Act.calls
  unfold purlinref18_Act.F
  refine newBlk_row fun bl w1 hbl hs1 hr1 hc1 => ?_
  refine br_dec (fun h => ⟨by simp [actV, h], hc1⟩) fun h1 => br_dec (fun h => ⟨?_, hc1⟩) fun h2 => ?_
  · have : kind < 0 ∨ 2 < kind := by omega
    simp [actV, this]
  · refine ⟨by omega, by omega, _, three hr1 (by omega) (by omega), ?_⟩
    have hk : ¬ (kind < 0 ∨ 2 < kind) := by omega
    rw [actV, if_neg hk]
    exact ⟨by simp, hc1⟩
end Go.Proofs.Ytgkbokhmmoemfaa
