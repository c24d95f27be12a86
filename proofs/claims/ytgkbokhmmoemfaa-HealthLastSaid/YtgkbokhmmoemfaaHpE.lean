/- Logs of faults: the two further statements' functions return true. Conditions: none. -/
import Derived.Test.YtgkbokhmmoemfaaHpD
namespace Go.Proofs.Ytgkbokhmmoemfaa
open Go.Vc
set_option linter.unusedSimpArgs false
set_option linter.unusedVariables false
set_option maxRecDepth 100000

theorem size_of {s : Int} (h0 : 0 ≤ s) (h1 : s < 256) : ∃ n : Nat, IntKind.wrap .i64 (1 + ((IntKind.wrap .i64 s).tmod 64)) = n ∧ 1 ≤ n ∧ n ≤ 64 := by
  obtain ⟨m, rfl⟩ : ∃ m : Nat, s = m := ⟨s.toNat, by omega⟩
  rw [wrap64_nat (by omega)]
  have : (m : Int).tmod 64 = ((m % 64 : Nat) : Int) := rfl
  rw [this]
  have hl : m % 64 < 64 := Nat.mod_lt _ (by omega)
  refine ⟨1 + m % 64, ?_, by omega, by omega⟩
  have : (1 + ((m % 64 : Nat) : Int)) = ((1 + m % 64 : Nat) : Int) := by omega
  rw [this, wrap64_nat (by omega)]

theorem logList_last {n : Nat} {a l : List Entry} (h : n ≤ l.length) : logList n (a ++ l) = l.drop (l.length - n) := by
  unfold logList
  rw [List.drop_append, List.drop_of_length_le (by simp; omega)]
  simp; congr 1; omega
theorem logList_drop {n : Nat} {a l : List Entry} (h : l.length < n) : (logList n (a ++ l)).drop ((logList n (a ++ l)).length - l.length) = l := by
  rw [logList_len]
  unfold logList
  rw [List.drop_drop]
  have : (a ++ l).length - min (a ++ l).length n + (min (a ++ l).length n - l.length) = a.length := by simp; omega
  rw [this]
  simp

theorem HealthLast_any {w : World} {size : Int} {a a2 : Option Addr} {c c2 : Nat} {xs ys : List Entry} (h0 : 0 ≤ size) (h1 : size < 256) (hx : SlR encE w a xs) (hy : SlR encE w a2 ys) (hcy : ys.length ≤ c2) :
    Calls Try.prog 6 #[.int .u8 size, .slice a xs.length c, .slice a2 ys.length c2] w (Ret fun v w' => v = .bool true ∧ Ch [] w w') := by
  apply purlinlaw18_HealthLast.calls
  unfold purlinlaw18_HealthLast.F
  obtain ⟨n, hn, hn1, hn2⟩ := size_of h0 h1
  simp only [hn]
  refine ⟨by decide, ?_⟩
  refine Calls.ret (health_New_ok hn1 hn2) ?_
  rintro v w1 ⟨lb, rfl, hl1, hc1, hlb⟩
  refine ⟨_, _, rfl, ?_⟩
  refine Calls.ret awake_any ?_
  rintro v w2 ⟨rfl, hc2⟩
  have hc02 := hc1.trans0 hc2
  have aw : Calls Try.prog 14 #[] w2 (fun e w3 => ∃ t40 : Bool, e = .returned (.bool t40) ∧ (Value.bool t40 = .bool true ∧ Ch [] w w3)) := by
    refine Calls.ret awake_any ?_
    rintro v w3 ⟨rfl, hc3⟩
    exact ⟨_, rfl, rfl, hc02.trans0 hc3⟩
  refine ⟨_, rfl, br_f rfl (br_f rfl (br_f rfl (br_dec (fun _ => aw) fun ha => br_dec (fun _ => aw) fun hb => ?_)))⟩
  have ha : xs.length ≤ 200 := by omega
  have hb : ys.length ≤ 200 := by omega
  have hl2 := hl1.ch hc2 (by simp)
  have dis : ∀ {a' : Option Addr} {zs : List Entry}, SlR encE w a' zs → zs = [] ∨ pb a' ≠ lb := fun h => by
    rcases h.lt with h | h
    · exact .inl h
    · exact .inr (by omega)
  refine Calls.ret (health_Add_any (xs := xs) hl2 (hc02.slr hx (.inr (by simp))) (dis hx) (by simp; omega)) ?_
  rintro v w3 ⟨rfl, hl3, hc3⟩
  refine ⟨rfl, ?_⟩
  have hc03 : Ch [] w w3 := hc02.trans hc3 (by simp; omega)
  refine Calls.ret (health_Add_any (xs := ys) hl3 (hc03.slr hy (.inr (by simp))) (dis hy) (by simp; omega)) ?_
  rintro v w4 ⟨rfl, hl4, hc4⟩
  refine ⟨rfl, ?_⟩
  have hc04 : Ch [] w w4 := hc03.trans hc4 (by simp; omega)
  refine Calls.ret (health_List_any hl4 (by simp; omega)) ?_
  rintro v w5 ⟨a5, c5, rfl, ho5, hc5⟩
  refine ⟨_, _, _, rfl, ?_⟩
  have hc05 := hc04.trans0 hc5
  have hy5 := hc05.slr hy (.inr (by simp))
  have hll : (logList n ([] ++ xs ++ ys)).length = min (xs.length + ys.length) n := by rw [logList_len]; simp
  refine br_dec (fun hge => ?_) fun hlt => ?_
  · have hge : n ≤ ys.length := by omega
    have e : IntKind.wrap .i64 (((ys.length : Nat) : Int) - (n : Int)) = ((ys.length - n : Nat) : Int) := by
      have : ((ys.length : Nat) : Int) - (n : Int) = ((ys.length - n : Nat) : Int) := by omega
      rw [this, wrap64_nat (by omega)]
    rw [e]
    refine ⟨by omega, by omega, ?_⟩
    rw [toNat_nat]
    have hd : (ys.drop (ys.length - n)).length = ys.length - (ys.length - n) := by simp
    rw [← hd]
    refine Calls.ret (ref18_Same_any ho5.slr (hy5.cut hcy) (by omega)) ?_
    rintro v w6 ⟨rfl, hc6⟩
    refine ⟨_, rfl, ?_, hc05.trans0 hc6⟩
    rw [logList_last hge]; simp
  · have hlt : ys.length < n := by omega
    refine br_dec (fun _ => ?_) fun h => by omega
    obtain ⟨L, hL⟩ : ∃ L, L = logList n ([] ++ xs ++ ys) := ⟨_, rfl⟩
    rw [← hL] at hll ho5 ⊢
    have e : IntKind.wrap .i64 (((L.length : Nat) : Int) - ((ys.length : Nat) : Int)) = ((L.length - ys.length : Nat) : Int) := by
      have : ((L.length : Nat) : Int) - ((ys.length : Nat) : Int) = ((L.length - ys.length : Nat) : Int) := by omega
      rw [this, wrap64_nat (by omega)]
    rw [e]
    refine ⟨by omega, by omega, ?_⟩
    rw [toNat_nat]
    have hd : (L.drop (L.length - ys.length)).length = L.length - (L.length - ys.length) := by simp
    rw [← hd]
    refine Calls.ret (ref18_Same_any (ho5.slr.cut ho5.cap) hy5 (by simp; omega)) ?_
    rintro v w6 ⟨rfl, hc6⟩
    refine ⟨_, rfl, ?_, hc05.trans0 hc6⟩
    have : L.drop (L.length - ys.length) = ys := by rw [hL]; exact logList_drop hlt
    simp [this]

theorem HealthTogether_any {w : World} {size : Int} {a a2 : Option Addr} {c c2 : Nat} {xs ys : List Entry} (h0 : 0 ≤ size) (h1 : size < 256) (hx : SlR encE w a xs) (hy : SlR encE w a2 ys) (hcy : ys.length ≤ c2) :
    Calls Try.prog 5 #[.int .u8 size, .slice a xs.length c, .slice a2 ys.length c2] w (Ret fun v w' => v = .bool true ∧ Ch [] w w') := by
  apply purlinlaw18_HealthTogether.calls
  unfold purlinlaw18_HealthTogether.F
  obtain ⟨n, hn, hn1, hn2⟩ := size_of h0 h1
  simp only [hn]
  refine ⟨by decide, ?_⟩
  refine Calls.ret (health_New_ok hn1 hn2) ?_
  rintro v w1 ⟨lb, rfl, hl1, hc1, hlb⟩
  refine ⟨_, _, rfl, ?_⟩
  refine Calls.ret (health_New_ok hn1 hn2) ?_
  rintro v w2 ⟨kb, rfl, hk2, hc2, hkb⟩
  refine ⟨_, _, rfl, ?_⟩
  refine Calls.ret awake_any ?_
  rintro v w3 ⟨rfl, hc3⟩
  have z1 := hc1.size
  have hlt1 := hl1.lt
  have hc03 := (hc1.trans0 hc2).trans0 hc3
  have aw : Calls Try.prog 14 #[] w3 (fun e w4 => ∃ t58 : Bool, e = .returned (.bool t58) ∧ (Value.bool t58 = .bool true ∧ Ch [] w w4)) := by
    refine Calls.ret awake_any ?_
    rintro v w4 ⟨rfl, hc4⟩
    exact ⟨_, rfl, rfl, hc03.trans0 hc4⟩
  refine ⟨_, rfl, br_f rfl (br_f rfl (br_f rfl (br_f rfl (br_f rfl (br_dec (fun _ => aw) fun ha => br_dec (fun _ => aw) fun hb => ?_)))))⟩
  have ha : xs.length ≤ 200 := by omega
  have hb : ys.length ≤ 200 := by omega
  have hl3 := (hl1.ch hc2 (by simp)).ch hc3 (by simp)
  have hk3 := hk2.ch hc3 (by simp)
  have hkl : kb ≠ lb := by omega
  have disl : ∀ {a' : Option Addr} {zs : List Entry}, SlR encE w a' zs → zs = [] ∨ pb a' ≠ lb := fun h => by
    rcases h.lt with h | h
    · exact .inl h
    · exact .inr (by omega)
  have disk : ∀ {a' : Option Addr} {zs : List Entry}, SlR encE w a' zs → zs = [] ∨ pb a' ≠ kb := fun h => by
    rcases h.lt with h | h
    · exact .inl h
    · exact .inr (by omega)
  have bnd : ∀ (us vs : List Entry), us.length + vs.length ≤ 1000 → us.length + vs.length ≤ maxLen ∧ (us.length + vs.length) * 32 ≤ 140737488355328 := fun us vs h => ⟨by simp [maxLen]; omega, by omega⟩
  refine newBlk_row fun b w4 hb4 hs4 hr4 hc4 => ?_
  have ho4 : Own encE 34 w3.heap.size w4 (some ⟨b, 0, none⟩) 0 [] := Own.row (E := encE) (xs := []) hr4 (by omega) (by simp)
  have hc04 := hc03.trans0 hc4
  obtain ⟨a5, c5, w5, hrun, ho5, hc5, _⟩ := append_new (P := Try.prog) (ty := 22) elE hc4 ho4 (c2 := c) (hc04.slr hx (.inr (by simp))) (bnd _ _ (by simp; omega)).1 (bnd _ _ (by simp; omega)).2 (by omega) (Nat.le_refl _)
  refine ⟨a5, _, c5, w5, hrun, ?_⟩
  simp only [List.nil_append] at ho5 ⊢
  have hc05 := hc03.trans0 hc5
  have z3 := hc03.size
  have hl3lt := hl3.lt
  have hk3lt := hk3.lt
  refine Calls.ret (health_Add_any (xs := xs) (hl3.ch hc5 (by simp)) ho5.slr (by rcases ho5.slr.lt with h | h; exact .inl h; rcases ho5.base with h | h; exact .inl (by have := ho5.slr; cases xs with | nil => rfl | cons x r => obtain ⟨_, _, h', _⟩ := this 0 x rfl; rw [h] at h'; cases h'); exact .inr (by omega)) (by simp; omega)) ?_
  rintro v w6 ⟨rfl, hl6, hc6⟩
  refine ⟨rfl, ?_⟩
  have hc06 : Ch [] w w6 := hc05.trans hc6 (by simp; omega)
  refine Calls.ret (health_Add_any (xs := ys) hl6 (hc06.slr hy (.inr (by simp))) (disl hy) (by simp; omega)) ?_
  rintro v w7 ⟨rfl, hl7, hc7⟩
  refine ⟨rfl, ?_⟩
  have hc07 : Ch [] w w7 := hc06.trans hc7 (by simp; omega)
  have hk7 := ((hk3.ch hc5 (by simp)).ch hc6 (by simpa using hkl)).ch hc7 (by simpa using hkl)
  refine ⟨fun m i w' => ∃ k : Nat, i = k ∧ k ≤ xs.length ∧ m = xs.length - k ∧ LogRep w' kb n ([] ++ xs.take k) ∧ Ch [kb] w7 w' ∧ Ch [] w w', ⟨_, 0, rfl, by omega, rfl, by simpa using hk7, Ch.refl _ _, hc07⟩, ?_⟩
  rintro m dead w8 i ⟨k, rfl, hk, rfl, hk8, hc78, hc08⟩
  unfold purlinlaw18_HealthTogether.L0
  refine br_dec (fun hlt => ?_) fun hge => ?_
  · have hlt : k < xs.length := by omega
    obtain ⟨x, hxk⟩ : ∃ x, xs[k]? = some x := ⟨xs[k], by simp [hlt]⟩
    have hxe : xs[k] = x := by have h := hxk; rw [List.getElem?_eq_getElem hlt] at h; exact Option.some.inj h
    have htk : xs.take (k + 1) = xs.take k ++ [x] := by rw [List.take_succ_eq_append_getElem hlt, hxe]
    have hx8 := hc08.slr hx (.inr (by simp))
    refine ⟨by omega, by omega, ?_⟩
    obtain ⟨ab, ao, rfl, hcell⟩ := hx8 k x hxk
    simp only [okP_some, pb_some, po_some, toNat_nat]
    refine ⟨_, hcell 0 _ rfl, _, hcell 1 _ rfl, _, hcell 2 _ rfl, _, hcell 3 _ rfl, _, hcell 4 _ rfl, ?_⟩
    refine newBlk_row fun b1 w9 hb1 hs9 hr9 hc9 => ?_
    have hk8lt := hk8.lt
    have z8 := hc08.size
    refine Calls.ret (health_Add_any (xs := [x]) (c := 1) (hk8.ch hc9 (by simp)) (SlR.one (E := encE) (x := x) hr9) (.inr (by simp; omega)) (by simp; omega)) ?_
    rintro v w10 ⟨rfl, hk10, hc10⟩
    refine ⟨rfl, ?_⟩
    have hk1 : IntKind.wrap .i64 ((k : Int) + 1) = ((k + 1 : Nat) : Int) := by rw [← Int.natCast_succ, wrap64_nat (by omega)]
    refine ⟨xs.length - (k + 1), by omega, k + 1, hk1, by omega, rfl, ?_, (hc78.trans0 hc9).trans hc10 (by simp), (hc08.trans0 hc9).trans hc10 (by simp; omega)⟩
    rw [htk, ← List.append_assoc]; exact hk10
  · have hke : k = xs.length := by omega
    subst hke
    rw [List.take_of_length_le (Nat.le_refl _)] at hk8
    have hl8 := hl7.ch hc78 (by simp; omega)
    refine Calls.ret (health_Add_any (xs := ys) hk8 (hc08.slr hy (.inr (by simp))) (disk hy) (by simp; omega)) ?_
    rintro v w9 ⟨rfl, hk9, hc9⟩
    refine ⟨rfl, ?_⟩
    have hadd := health_Add_any (xs := []) (a := none) (c := 0) hk9 (SlR.nil _ _ _) (.inl rfl) (by simp; omega)
    refine Calls.ret hadd ?_
    rintro v w10 ⟨rfl, hk10, hc10⟩
    refine ⟨rfl, ?_⟩
    have hkw : kb ≥ w.heap.size := by omega
    have hc010 : Ch [] w w10 := (hc08.trans hc9 (by simp; omega)).trans hc10 (by simp; omega)
    have hl10 := (hl8.ch hc9 (by simp; omega)).ch hc10 (by simp; omega)
    obtain ⟨A, hA⟩ : ∃ A, A = xs ++ ys := ⟨_, rfl⟩
    have hAl : A.length = xs.length + ys.length := by rw [hA]; simp
    have e1 : [] ++ xs ++ ys = A := by simp [hA]
    have e2 : [] ++ xs ++ ys ++ [] = A := by simp [hA]
    rw [e1] at hl10
    rw [e2] at hk10
    have hll : (logList n A).length = min A.length n := logList_len _ _
    refine Calls.ret (health_List_any hl10 (by omega)) ?_
    rintro v w11 ⟨a11, c11, rfl, ho11, hc11⟩
    refine ⟨_, _, _, rfl, ?_⟩
    have hc011 := hc010.trans0 hc11
    refine newBlk_row fun b2 w12 hb12 hs12 hr12 hc12 => ?_
    have ho12 : Own encE 34 w11.heap.size w12 (some ⟨b2, 0, none⟩) 0 [] := Own.row (E := encE) (xs := []) hr12 (by omega) (by simp)
    obtain ⟨a13, c13, w13, hrun, ho13, hc13, _⟩ := append_new (P := Try.prog) (ty := 22) elE hc12 ho12 (c2 := c) ((hc011.trans0 hc12).slr hx (.inr (by simp))) (bnd _ _ (by simp; omega)).1 (bnd _ _ (by simp; omega)).2 (by omega) (Nat.le_refl _)
    refine ⟨a13, _, c13, w13, hrun, ?_⟩
    simp only [List.nil_append] at ho13 ⊢
    have hc013 := hc011.trans0 hc13
    have z13 := hc13.size
    obtain ⟨a14, c14, w14, hrun, ho14, hc14, _⟩ := append_new (P := Try.prog) (ty := 22) elE hc13 ho13 (c2 := c2) (hc013.slr hy (.inr (by simp))) (bnd _ _ (by omega)).1 (bnd _ _ (by omega)).2 (by omega) (Nat.le_refl _)
    refine ⟨a14, _, c14, w14, hrun, ?_⟩
    rw [← hA] at ho14 ⊢
    have hc014 := hc011.trans0 hc14
    have hk14 := (hk10.ch hc11 (by simp)).ch hc14 (by simp)
    have hl14 := (hl10.ch hc11 (by simp)).ch hc14 (by simp)
    refine Calls.ret (health_List_any hk14 (by omega)) ?_
    rintro v w15 ⟨a15, c15, rfl, ho15, hc15⟩
    refine ⟨_, _, _, rfl, ?_⟩
    have ho11' := hc15.own (hc14.own ho11 (.inr (by simp))) (.inr (by simp))
    refine Calls.ret (ref18_Same_any ho11'.slr ho15.slr (by omega)) ?_
    rintro v w16 ⟨rfl, hc16⟩
    refine ⟨_, rfl, br_f (by simp) ?_⟩
    have hc1416 := hc15.trans0 hc16
    refine Calls.ret (health_Dropped_any (hl14.ch hc1416 (by simp)) (by omega)) ?_
    rintro v w17 ⟨rfl, hc17⟩
    refine ⟨_, rfl, ?_⟩
    have hc1417 := hc1416.trans0 hc17
    refine Calls.ret (health_Dropped_any (hk14.ch hc1417 (by simp)) (by omega)) ?_
    rintro v w18 ⟨rfl, hc18⟩
    refine ⟨_, rfl, br_f (by simp) ?_⟩
    have hc1418 := hc1417.trans0 hc18
    refine Calls.ret (health_Dropped_any (hl14.ch hc1418 (by simp)) (by omega)) ?_
    rintro v w19 ⟨rfl, hc19⟩
    have hc1419 := hc1418.trans0 hc19
    have esum : IntKind.wrap .i64 ((((logList n A).length : Nat) : Int) + ((A.length - min A.length n : Nat) : Int)) = ((A.length : Nat) : Int) := by
      rw [hll]
      have : (((min A.length n : Nat) : Int) + ((A.length - min A.length n : Nat) : Int)) = ((A.length : Nat) : Int) := by omega
      rw [this, wrap64_nat (by omega)]
    refine ⟨_, rfl, br_f (by rw [esum]; simp) ?_⟩
    refine br_dec (fun h => by omega) fun _ => ?_
    refine Calls.ret (health_Dropped_any (hl14.ch hc1419 (by simp)) (by omega)) ?_
    rintro v w20 ⟨rfl, hc20⟩
    have hc1420 := hc1419.trans0 hc20
    have tail : purlinlaw18_HealthTogether.K0 (fun v w' => v = .bool true ∧ Ch [] w w') (some ⟨lb, 0, none⟩) (some ⟨kb, 0, none⟩) a11 (logList n A).length c11 a14 A.length c14 w20 := by
      unfold purlinlaw18_HealthTogether.K0
      refine Calls.ret (health_Dropped_any (hl14.ch hc1420 (by simp)) (by omega)) ?_
      rintro v w21 ⟨rfl, hc21⟩
      have hc1421 := hc1420.trans0 hc21
      refine ⟨_, rfl, by omega, by omega, ?_⟩
      rw [toNat_nat]
      have ho21 := hc1421.own ho14 (.inr (by simp))
      have hd : (A.drop (A.length - min A.length n)).length = A.length - (A.length - min A.length n) := by simp
      rw [← hd]
      have hcut := ho21.slr.cut (l := A.length - min A.length n) ho21.cap
      have ho11b := hc1421.own (hc14.own ho11 (.inr (by simp))) (.inr (by simp))
      refine Calls.ret (ref18_Same_any ho11b.slr hcut (by omega)) ?_
      rintro v w22 ⟨rfl, hc22⟩
      have hc1422 := hc1421.trans0 hc22
      refine ⟨_, rfl, br_f (by simp [logList]) ?_⟩
      have ho22 := hc22.own ho11b (.inr (by simp))
      have hc022 := hc014.trans0 hc1422
      have hl22 := hl14.ch hc1422 (by simp)
      have hk22 := hk14.ch hc1422 (by simp)
      have fin : ∀ w23 : World, LogRep w23 lb n A → LogRep w23 kb n A → Ch [] w w23 →
          Calls Try.prog 18 #[.pointer (some ⟨lb, 0, none⟩)] w23 (fun e w29 => ∃ t153A : Option Addr, ∃ t153N : Nat, ∃ t153C : Nat, e = .returned (.slice t153A t153N t153C) ∧
          Calls Try.prog 18 #[.pointer (some ⟨kb, 0, none⟩)] w29 (fun e w30 => ∃ t155A : Option Addr, ∃ t155N : Nat, ∃ t155C : Nat, e = .returned (.slice t155A t155N t155C) ∧
          Calls Try.prog 17 #[.slice t153A t153N t153C, .slice t155A t155N t155C] w30 (fun e w31 => ∃ t156 : Bool, e = .returned (.bool t156) ∧
          (Value.bool t156 = .bool true ∧ Ch [] w w31)))) := by
        intro w23 hl hk hc
        refine Calls.ret (health_List_any hl (by omega)) ?_
        rintro v w24 ⟨a24, c24, rfl, ho24, hc24⟩
        refine ⟨_, _, _, rfl, ?_⟩
        refine Calls.ret (health_List_any (hk.ch hc24 (by simp)) (by omega)) ?_
        rintro v w25 ⟨a25, c25, rfl, ho25, hc25⟩
        refine ⟨_, _, _, rfl, ?_⟩
        refine Calls.ret (ref18_Same_any (hc25.own ho24 (.inr (by simp))).slr ho25.slr (by omega)) ?_
        rintro v w26 ⟨rfl, hc26⟩
        exact ⟨_, rfl, by simp, ((hc.trans0 hc24).trans0 hc25).trans0 hc26⟩
      by_cases hne : logList n A = []
      · rw [hne]
        refine ⟨fun m i w' => i = 0 ∧ w' = w22, ⟨0, rfl, rfl⟩, ?_⟩
        rintro m dead w23 i ⟨rfl, rfl⟩
        unfold purlinlaw18_HealthTogether.L1
        refine br_dec (fun h => by simp at h) fun _ => ?_
        exact fin _ hl22 hk22 hc022
      · obtain ⟨g, cur, rfl, hg, hrg, hcur⟩ := ho22.row_of hne
        have hgl : g ≠ lb ∧ g ≠ kb := by
          have := hl10.lt; have := hk10.lt; omega
        have z10 := hc010.size
        refine ⟨fun m i w' => ∃ k : Nat, i = k ∧ k ≤ (logList n A).length ∧ m = (logList n A).length - k ∧ (∃ cur', Row w' g 34 cur' ∧ ∀ j, j < (logList n A).length → ∃ t, cur'[j * 5]? = some (.int .i64 t)) ∧ Ch [g] w22 w',
          ⟨_, 0, rfl, by omega, rfl, ⟨cur, hrg, fun j hj => ⟨_, by have := hcur j _ 0 _ (List.getElem?_eq_getElem hj) rfl; exact this⟩⟩, Ch.refl _ _⟩, ?_⟩
        rintro m dead w23 i ⟨k, rfl, hk, rfl, ⟨cur', hr23, hint⟩, hc23⟩
        unfold purlinlaw18_HealthTogether.L1
        refine br_dec (fun hlt => ?_) fun hge => ?_
        · have hlt : k < (logList n A).length := by omega
          obtain ⟨t, ht⟩ := hint k hlt
          refine ⟨by omega, by omega, ?_⟩
          simp only [okP_some, pb_some, po_some, toNat_nat, Nat.zero_add]
          refine ⟨t, hr23.cell ht, by omega, by omega, ?_⟩
          have hkl := (List.getElem?_eq_some_iff.1 ht).1
          refine storeC_row hr23 (by simp; omega) fun w24 hr24 hc24 _ => ?_
          rw [splice_one hkl] at hr24
          have hk1 : IntKind.wrap .i64 ((k : Int) + 1) = ((k + 1 : Nat) : Int) := by rw [← Int.natCast_succ, wrap64_nat (by omega)]
          refine ⟨(logList n A).length - (k + 1), by omega, k + 1, hk1, by omega, rfl, ⟨_, hr24, fun j hj => ?_⟩, hc23.trans hc24 (by simp)⟩
          by_cases hjk : j = k
          · subst hjk; exact ⟨_, by rw [List.getElem?_set_self hkl]⟩
          · obtain ⟨t', ht'⟩ := hint j hj
            exact ⟨t', by rw [List.getElem?_set_ne (by omega)]; exact ht'⟩
        · exact fin _ (hl22.ch hc23 (by simp; omega)) (hk22.ch hc23 (by simp; omega)) (hc022.trans hc23 (by simp; omega))
    refine ⟨_, rfl, br_dec (fun hpos => br_dec (fun h => ?_) fun _ => tail) fun _ => tail⟩
    omega
end Go.Proofs.Ytgkbokhmmoemfaa
