/- Lines of those who wait: what the document's functions do. Conditions: none. -/
import Derived.Test.YtecacohkkdhphaaLnD
import Derived.Test.YtecacohkkdhphaaLnE
import Derived.Test.YtecacohkkdhphaaNr
namespace Go.Proofs.Ytecacohkkdhphaa
open Go.Vc
set_option linter.unusedSimpArgs false
set_option linter.unusedVariables false
set_option maxRecDepth 100000

def encR : Enc Wt := ⟨3, fun x => [.int .i64 x.id, .int .i64 x.prio, .int .i64 x.until_], fun _ => rfl, by decide, fun x v hv => by
  simp at hv; rcases hv with h | h | h <;> rw [h] <;> rfl⟩
theorem elR : ElT Try.prog 75 135 encR 24 := by
  refine ⟨by kernel_rfl, ?_⟩
  have h : (Try.prog.info? 135).map (fun i => (i.zero.isSome, i.size, i.bytes, (i.zero.getD .nilIface).cells.size)) = some (true, 3, 24, 3) := by kernel_rfl
  cases hi : Try.prog.info? 135 with
  | none => rw [hi] at h; cases h
  | some i =>
    rw [hi] at h
    simp only [Option.map_some, Option.some.injEq, Prod.mk.injEq] at h
    obtain ⟨h1, h2, h3, h4⟩ := h
    obtain ⟨z, hz⟩ := Option.isSome_iff_exists.1 h1
    exact ⟨i, z, rfl, hz, h2, h3, by rw [hz] at h4; exact h4⟩

theorem ref_find_any {w : World} {a : Option Addr} {c : Nat} {ws : List Wt} (id : Int) (hs : SlR encR w a ws) (hm : ws.length ≤ 1000000) :
    Calls Try.prog 75 #[.slice a ws.length c, .int .i64 id] w (Ret fun v w' => v = .int .i64 (findW ws id) ∧ w' = w) := by
  apply purlinref14_find.calls
  unfold purlinref14_find.F
  refine ⟨fun n i w' => ∃ k : Nat, i = k ∧ k ≤ ws.length ∧ n = ws.length - k ∧ (∀ x ∈ ws.take k, x.id ≠ id) ∧ w' = w, ⟨_, 0, rfl, by omega, rfl, by simp, rfl⟩, ?_⟩
  rintro n dead w1 i ⟨k, rfl, hk, rfl, hno, rfl⟩
  unfold purlinref14_find.L0
  refine br_dec (fun hlt => ?_) fun hge => ?_
  · have hlt : k < ws.length := by omega
    obtain ⟨x, hxk⟩ : ∃ x, ws[k]? = some x := ⟨ws[k], by simp [hlt]⟩
    have hxe : ws[k] = x := by have h := hxk; rw [List.getElem?_eq_getElem hlt] at h; exact Option.some.inj h
    refine ⟨by omega, by omega, ?_⟩
    obtain ⟨ab, ao, rfl, hcell⟩ := hs k x hxk
    simp only [okP_some, pb_some, po_some, toNat_nat]
    refine ⟨_, hcell 0 _ rfl, ?_⟩
    refine br_intro (fun h => ⟨?_, by trivial⟩) fun h => ?_
    · have h : x.id = id := by simpa using h
      have : ws.findIdx? (fun x => x.id == id) = some k := by
        rw [List.findIdx?_eq_some_iff_getElem]
        refine ⟨hlt, by simp [hxe, h], fun j hj => ?_⟩
        have := hno ws[j] (by rw [List.mem_take_iff_getElem]; exact ⟨j, by omega, rfl⟩)
        simpa using this
      simp [findW, this]
    · have h : x.id ≠ id := by simpa using h
      have hk1 : IntKind.wrap .i64 ((k : Int) + 1) = ((k + 1 : Nat) : Int) := by rw [← Int.natCast_succ, wrap64_nat (by omega)]
      refine ⟨ws.length - (k + 1), by omega, k + 1, hk1, by omega, rfl, ?_, by trivial⟩
      rw [List.take_succ_eq_append_getElem hlt, hxe]
      intro y hy
      rcases List.mem_append.1 hy with hy | hy
      · exact hno y hy
      · simp at hy; subst hy; exact h
  · have hke : k = ws.length := by omega
    subst hke
    rw [List.take_of_length_le (Nat.le_refl _)] at hno
    exact ⟨by rw [findW_neg hno], rfl⟩

theorem bndR (us vs : List Wt) (h : us.length + vs.length ≤ 2000000) : us.length + vs.length ≤ maxLen ∧ (us.length + vs.length) * 24 ≤ 140737488355328 := ⟨by simp [maxLen]; omega, by omega⟩

theorem ref_without_any {w : World} {a : Option Addr} {c k : Nat} {ws : List Wt} (hs : SlR encR w a ws) (hcap : ws.length ≤ c) (hm : ws.length ≤ 1000000) (hk : k < ws.length) :
    Calls Try.prog 76 #[.slice a ws.length c, .int .i64 k] w (Ret fun v w' => ∃ a' c', v = .slice a' (ws.take k ++ ws.drop (k + 1)).length c' ∧ Own encR 135 w.heap.size w' a' c' (ws.take k ++ ws.drop (k + 1)) ∧ Ch [] w w') := by
  apply purlinref14_without.calls
  unfold purlinref14_without.F
  refine drawC_intro fun w1 hc1 _ => ?_
  have hk1 : IntKind.wrap .i64 ((k : Int) + 1) = ((k + 1 : Nat) : Int) := by rw [← Int.natCast_succ, wrap64_nat (by omega)]
  rw [hk1]
  refine ⟨by omega, by omega, by omega, by omega, ?_⟩
  refine newBlk_row fun b w2 hb hs2 hr2 hc2 => ?_
  have hc02 := hc1.trans0 hc2
  have ho2 : Own encR 135 w1.heap.size w2 (some ⟨b, 0, none⟩) 0 [] := Own.row (E := encR) (xs := []) hr2 (by omega) (by simp)
  have z1 := hc1.size
  have hx1 : SlR encR w2 (cutBase a 0 c encR.k) (ws.take k) := by
    have := ((hc02.slr hs (.inr (by simp))).cut (l := 0) hcap).take (n := k)
    simpa using this
  obtain ⟨a3, c3, w3, hrun3, ho3, hc3, _⟩ := append_new (P := Try.prog) (ty := 75) elR hc2 ho2 (c2 := c - 0) hx1 (bndR _ _ (by simp; omega)).1 (bndR _ _ (by simp; omega)).2 (by omega) (Nat.le_refl _)
  have e1 : (ws.take k).length = k - 0 := by simp; omega
  simp only [toNat_nat]
  rw [e1] at hrun3
  refine ⟨a3, _, c3, w3, hrun3, ?_⟩
  simp only [List.nil_append] at ho3 ⊢
  have hc03 := hc1.trans0 hc3
  have hx3 : SlR encR w3 (cutBase a (k + 1) c encR.k) (ws.drop (k + 1)) := (hc03.slr hs (.inr (by simp))).cut hcap
  obtain ⟨a4, c4, w4, hrun4, ho4, hc4, _⟩ := append_new (P := Try.prog) (ty := 75) elR hc3 ho3 (c2 := c - (k + 1)) hx3 (bndR _ _ (by simp; omega)).1 (bndR _ _ (by simp; omega)).2 (by have := hc3.size; omega) (Nat.le_refl _)
  have e2 : (ws.drop (k + 1)).length = ws.length - (k + 1) := by simp
  rw [e2] at hrun4
  exact ⟨a4, _, c4, w4, hrun4, a4, c4, rfl, ho4.mono z1, hc1.trans0 hc4⟩

theorem ref_Order_any {w : World} {a : Option Addr} {c : Nat} {ws : List Wt} (hs : SlR encR w a ws) (hm : ws.length ≤ 10000) :
    Calls Try.prog 77 #[.slice a ws.length c] w (Ret fun v w' => ∃ a' c', v = .slice a' (ordP ws 64).length c' ∧ Own encR 135 w.heap.size w' a' c' (ordP ws 64) ∧ Ch [] w w') := by
  apply purlinref14_Order.calls
  unfold purlinref14_Order.F
  refine newBlk_row fun b w1 hb hs1 hr1 hc1 => ?_
  have hlenP : ∀ k, (ordP ws k).length ≤ 10000 := fun k => by
    rw [(ordP_perm ws k).length_eq]
    have := List.length_filter_le (fun x : Wt => decide (63 - (k : Int) < x.prio ∧ x.prio ≤ 63)) ws
    omega
  refine ⟨fun n oa oN oc prio w' => ∃ k : Nat, prio = 63 - (k : Int) ∧ k ≤ 64 ∧ n = 64 - k ∧ oN = (ordP ws k).length ∧ Own encR 135 w.heap.size w' oa oc (ordP ws k) ∧ Ch [] w w',
    ⟨_, 0, rfl, by omega, rfl, rfl, Own.row (E := encR) (xs := []) hr1 (by omega) (by simp), hc1⟩, ?_⟩
  rintro n dead w2 oa oN oc prio ⟨k, rfl, hk, rfl, rfl, ho, hc2⟩
  unfold purlinref14_Order.L0
  refine br_dec (fun hlt => ?_) fun hge => ?_
  · have hlt : k < 64 := by omega
    refine ⟨fun n oa oN oc i w' => ∃ j : Nat, i = j ∧ j ≤ ws.length ∧ n = ws.length - j ∧ oN = (ordP ws k ++ (ws.take j).filter fun x => x.prio == 63 - (k : Int)).length ∧ Own encR 135 w.heap.size w' oa oc (ordP ws k ++ (ws.take j).filter fun x => x.prio == 63 - (k : Int)) ∧ Ch [] w w',
      ⟨_, 0, rfl, by omega, rfl, by simp, by simpa using ho, hc2⟩, ?_⟩
    rintro n dead w3 oa oN oc i ⟨j, rfl, hj, rfl, rfl, ho3, hc3⟩
    unfold purlinref14_Order.L1
    refine br_dec (fun hlt2 => ?_) fun hge2 => ?_
    · have hlt2 : j < ws.length := by omega
      obtain ⟨x, hxk⟩ : ∃ x, ws[j]? = some x := ⟨ws[j], by simp [hlt2]⟩
      have hxe : ws[j] = x := by have h := hxk; rw [List.getElem?_eq_getElem hlt2] at h; exact Option.some.inj h
      refine ⟨by omega, by omega, ?_⟩
      obtain ⟨ab, ao, rfl, hcell⟩ := (hc3.slr hs (.inr (by simp))) j x hxk
      simp only [okP_some, pb_some, po_some, toNat_nat]
      refine ⟨_, hcell 1 _ rfl, ?_⟩
      have hk1 : IntKind.wrap .i64 ((j : Int) + 1) = ((j + 1 : Nat) : Int) := by rw [← Int.natCast_succ, wrap64_nat (by omega)]
      have htk : ws.take (j + 1) = ws.take j ++ [x] := by rw [List.take_succ_eq_append_getElem hlt2, hxe]
      refine br_intro (fun h => ?_) fun h => ?_
      · refine ⟨by omega, by omega, _, hcell 0 _ rfl, _, hcell 1 _ rfl, _, hcell 2 _ rfl, ?_⟩
        refine newBlk_row fun b4 w4 hb4 hs4 hr4 hc4 => ?_
        have hfl : ((ws.take j).filter fun x => x.prio == 63 - (k : Int)).length ≤ 10000 := by
          have := List.length_filter_le (fun x : Wt => x.prio == 63 - (k : Int)) (ws.take j)
          have : (ws.take j).length ≤ 10000 := by simp; omega
          omega
        have hP := hlenP k
        have z3 := hc3.size
        obtain ⟨a5, c5, w5, hrun5, ho5, hc5, _⟩ := append_new (P := Try.prog) (ty := 75) elR (hc3.trans0 hc4) (hc4.own ho3 (.inr (by simp))) (ys := [x]) (c2 := 1) (SlR.one (E := encR) (x := x) hr4) (bndR _ _ (by simp; omega)).1 (bndR _ _ (by simp; omega)).2 (by omega) (Nat.le_refl _)
        have hflt : ordP ws k ++ ((ws.take (j + 1)).filter fun x => x.prio == 63 - (k : Int)) = (ordP ws k ++ (ws.take j).filter fun x => x.prio == 63 - (k : Int)) ++ [x] := by
          rw [htk, List.filter_append, ← List.append_assoc]; simp at h; simp [h]
        exact ⟨a5, _, c5, w5, hrun5, ws.length - (j + 1), by omega, j + 1, hk1, by omega, rfl, by rw [hflt], by rw [hflt]; exact ho5, hc5⟩
      · have hflt : ordP ws k ++ ((ws.take (j + 1)).filter fun x => x.prio == 63 - (k : Int)) = (ordP ws k ++ (ws.take j).filter fun x => x.prio == 63 - (k : Int)) := by
          rw [htk, List.filter_append]; simp at h; simp [h]
        exact ⟨ws.length - (j + 1), by omega, j + 1, hk1, by omega, rfl, by rw [hflt], by rw [hflt]; exact ho3, hc3⟩
    · have hje : j = ws.length := by omega
      subst hje
      rw [List.take_of_length_le (Nat.le_refl _)] at ho3 ⊢
      have hp1 : IntKind.wrap .i64 (63 - (k : Int) - 1) = 63 - ((k + 1 : Nat) : Int) := by
        rw [wrap64_in (by omega) (by omega)]; omega
      exact ⟨64 - (k + 1), by omega, k + 1, hp1, by omega, rfl, rfl, ho3, hc3⟩
  · have hke : k = 64 := by omega
    subst hke
    exact ⟨oa, oc, rfl, ho, hc2⟩

theorem ref_List_any {w : World} {a : Option Addr} {c : Nat} {s : LS} {now : Int} (hs : SlR encR w a s.ws) (hok : s.ok) (hm : s.ws.length ≤ 10000) :
    Calls Try.prog 45 #[.agg #[.slice a s.ws.length c, .int .i64 now]] w (Ret fun v w' => ∃ a' c', v = .slice a' s.list.length c' ∧ Own (Enc.int .i64) 3 w.heap.size w' a' c' s.list ∧ Ch [] w w') := by
  apply purlinref14_List.calls
  unfold purlinref14_List.F
  refine newBlk_row fun b w1 hb hs1 hr1 hc1 => ?_
  refine ⟨_, _, _, hr1.cell rfl, ?_⟩
  refine Calls.ret (ref_Order_any (hc1.slr hs (.inr (by simp))) hm) ?_
  rintro v w2 ⟨a2, c2, rfl, ho2, hc2⟩
  refine ⟨_, _, _, rfl, ?_⟩
  rw [ordP_eq hok] at ho2 ⊢
  refine newBlk_row fun b3 w3 hb3 hs3 hr3 hc3 => ?_
  have ho3 := hc3.own ho2 (.inr (by simp))
  have hc03 := (hc1.trans0 hc2).trans0 hc3
  have hol : (ordL s.ws).length ≤ 10000 := by rw [(ordL_perm s.ws).length_eq]; exact hm
  obtain ⟨o, hoo⟩ : ∃ o, o = ordL s.ws := ⟨_, rfl⟩
  have hlist : s.list = o.map Wt.id := by rw [hoo]; rfl
  rw [← hoo] at ho3 hol ⊢
  rw [hlist]
  have z2 := (hc1.trans0 hc2).size
  have ho2' := ho2
  rw [← hoo] at ho2'
  refine ⟨fun n oa oN oc i w' => ∃ k : Nat, i = k ∧ k ≤ o.length ∧ n = o.length - k ∧ oN = ((o.take k).map Wt.id).length ∧ Own (Enc.int .i64) 3 w2.heap.size w' oa oc ((o.take k).map Wt.id) ∧ Ch [] w2 w',
    ⟨_, 0, rfl, by omega, rfl, rfl, Own.row (E := Enc.int .i64) (xs := []) hr3 (by omega) (by simp), hc3⟩, ?_⟩
  rintro n dead w4 oa oN oc i ⟨k, rfl, hk, rfl, rfl, ho4, hc4⟩
  unfold purlinref14_List.L0
  refine br_dec (fun hlt => ?_) fun hge => ?_
  · have hlt : k < o.length := by omega
    obtain ⟨x, hxk⟩ : ∃ x, o[k]? = some x := ⟨o[k], by simp [hlt]⟩
    have hxe : o[k] = x := by have h := hxk; rw [List.getElem?_eq_getElem hlt] at h; exact Option.some.inj h
    refine ⟨by omega, by omega, ?_⟩
    obtain ⟨ab, ao, rfl, hcell⟩ := (hc4.slr ho2'.slr (.inr (by simp))) k x hxk
    simp only [okP_some, pb_some, po_some, toNat_nat]
    refine ⟨_, hcell 0 _ rfl, ?_⟩
    refine newBlk_row fun b5 w5 hb5 hs5 hr5 hc5 => ?_
    have z4 := hc4.size
    obtain ⟨a6, c6, w6, hrun6, ho6, hc6, _⟩ := append_new (P := Try.prog) (ty := 29) elI (hc4.trans0 hc5) (hc5.own ho4 (.inr (by simp))) (ys := [x.id]) (c2 := 1) (SlR.one (E := Enc.int .i64) (x := x.id) hr5) (by simp [maxLen]; omega) (by simp; omega) (by omega) (Nat.le_refl _)
    have hk1 : IntKind.wrap .i64 ((k : Int) + 1) = ((k + 1 : Nat) : Int) := by rw [← Int.natCast_succ, wrap64_nat (by omega)]
    have htk : (o.take (k + 1)).map Wt.id = (o.take k).map Wt.id ++ [x.id] := by rw [List.take_succ_eq_append_getElem hlt, hxe]; simp
    exact ⟨a6, _, c6, w6, hrun6, o.length - (k + 1), by omega, k + 1, hk1, by omega, rfl, by rw [htk], by rw [htk]; exact ho6, hc6⟩
  · have hke : k = o.length := by omega
    subst hke
    rw [List.take_of_length_le (Nat.le_refl _)] at ho4 ⊢
    exact ⟨oa, oc, rfl, ho4.mono z2, (hc1.trans0 hc2).trans0 hc4⟩
end Go.Proofs.Ytecacohkkdhphaa
