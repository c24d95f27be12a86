/- Processes: ProcApart returns true. Conditions: none. -/
import Derived.Test.YtecacohkkdhphaaPrM
import Derived.Test.YtecacohkkdhphaaPl4
namespace Go.Proofs.Ytecacohkkdhphaa
open Go.Vc Go.Sort
set_option linter.unusedSimpArgs false
set_option linter.unusedVariables false
set_option maxRecDepth 100000

/-- An array of sixteen. -/
def tab (g : Nat → Value) : List Value := (List.range 16).map g
theorem tab_get {g : Nat → Value} {k : Nat} (hk : k < 16) : (tab g)[0 + k * 1]? = some (g k) := by
  unfold tab; simp [hk]
theorem tab_set {g : Nat → Value} {k : Nat} {v : Value} (hk : k < 16) : splice (tab g) (0 + k * 1) [v] = tab (fun i => if i = k then v else g i) := by
  rw [Nat.zero_add, Nat.mul_one, splice_one (by unfold tab; simpa using hk)]
  unfold tab
  apply List.ext_getElem?
  intro j
  rw [List.getElem?_set, List.getElem?_map]
  by_cases hkj : k = j
  · subst hkj; simp [hk]
  · rw [if_neg hkj, List.getElem?_map]
    by_cases hj : j < 16
    · have : (List.range 16)[j]? = some j := by simp [hj]
      rw [this]; simp [Ne.symm hkj]
    · rw [List.getElem?_eq_none (by simpa using hj)]; rfl
theorem tab_len (g : Nat → Value) : (tab g).length = 16 := by simp [tab]
theorem withS_err {t : PT} {i z : Int} {is : Pr → Bool} {f : Pr → Pr} (h : t.withE i is ≠ 0) : t.withS i is f z = t := by
  unfold PT.withE at h
  unfold PT.withS
  split
  · rfl
  · rename_i hi
    rw [if_neg hi] at h
    split
    · rename_i hs; rw [if_pos hs] at h; exact absurd rfl h
    · rfl
theorem doS_err {t : PT} {k i p : Int} (h : t.doE k i p ≠ 0) : t.doS k i p = t := by
  unfold PT.doE at h
  unfold PT.doS
  by_cases h8 : k = 8
  · rw [if_pos h8] at h; exact absurd rfl h
  rw [if_neg h8] at h ⊢
  by_cases h6 : k = 6
  · rw [if_pos h6] at h ⊢
    unfold PT.raiseE at h
    unfold PT.raiseS
    split
    · rfl
    · rename_i hp; rw [if_neg hp] at h; exact withS_err h
  · rw [if_neg h6] at h ⊢
    exact withS_err h
theorem withS_other {t : PT} {i z : Int} {is : Pr → Bool} {f : Pr → Pr} {j : Nat} (hj : (j : Int) ≠ i) : (t.withS i is f z).l[j]? = t.l[j]? := by
  unfold PT.withS PT.put
  split
  · rfl
  rename_i hi
  obtain ⟨k, rfl⟩ := Int.eq_ofNat_of_zero_le (show 0 ≤ i by omega)
  have hkj : k ≠ j := by omega
  split
  · rw [toNat_nat]
    split
    · simp only [List.getElem?_set_ne hkj]
    split
    · simp only [List.getElem?_set_ne hkj]
    · simp only [List.getElem?_set_ne hkj]
  · rfl
theorem doS_other {t : PT} {k i p : Int} {j : Nat} (h8 : k ≠ 8) (hj : (j : Int) ≠ i) : (t.doS k i p).at (j : Int) = t.at (j : Int) := by
  have : (t.doS k i p).l[j]? = t.l[j]? := by
    unfold PT.doS
    rw [if_neg h8]
    split
    · unfold PT.raiseS
      split
      · rfl
      · exact withS_other hj
    · exact withS_other hj
  unfold PT.at; rw [toNat_nat, this]
theorem reset_at {t : PT} {j : Nat} {p : Int} (hp : t.pr[j]? = some p) : t.reset.at (j : Int) = dorm p := by
  unfold PT.at PT.reset; rw [toNat_nat]; simp [hp]

theorem ProcApart_any {w0 : World} {a a2 : Option Addr} {c c2 : Nat} {pr : List Int} {xs : List PCall} {x0 x1 x2 : Int} (hpr : SlR (Enc.int .u8) w0 a pr) (hq : ∀ p ∈ pr, 0 ≤ p ∧ p < 256) (hx : SlR encK w0 a2 xs) :
    Calls Try.prog 7 #[.slice a pr.length c, .slice a2 xs.length c2, .agg #[.int .i64 x0, .int .i64 x1, .int .i64 x2]] w0 (Ret fun v w' => v = .bool true ∧ Ch [] w0 w') := by
  have H := St.init w0
  have hx := hx.sli
  have hpr := hpr.sli
  have hm := hle_refl (hpOf w0)
  apply purlinlaw17_ProcApart.calls
  unfold purlinlaw17_ProcApart.F
  refine H.new fun b w H => ?_
  refine Calls.ret (proc_New_sp H (fun w H => H.sli hpr) (fun p hp => (hq p hp).1)) ?_
  rintro v w1 ⟨h1, h2⟩
  by_cases hb : ¬ prErr pr = 0
  · obtain ⟨rfl, H⟩ := h1 hb
    refine ⟨_, _, rfl, ?_⟩
    refine Calls.ret (awake17_sp H) ?_
    rintro v w2 ⟨rfl, H⟩
    refine ⟨_, rfl, br_f rfl (br_t (by simpa using hb) ?_)⟩
    refine Calls.ret (awake17_sp H) ?_
    rintro v w3 ⟨rfl, H⟩
    exact ⟨_, rfl, br_t rfl ⟨rfl, H.fin hm⟩⟩
  have hb : prErr pr = 0 := Classical.not_not.1 hb
  obtain ⟨tb, rfl, H⟩ := h2 hb
  refine ⟨_, _, rfl, ?_⟩
  refine Calls.ret (awake17_sp H) ?_
  rintro v w2 ⟨rfl, H⟩
  refine ⟨_, rfl, br_f rfl (br_f rfl (br_f rfl ?_))⟩
  have hl16 : pr.length ≤ 16 := by
    have := (PT.new_fit hb (fun p hp => (hq p hp).1) 0).most
    exact this
  refine ⟨fun n i w' => ∃ (k : Nat) (t : PT), i = k ∧ k ≤ 40 ∧ n = 40 - k ∧ t.inv k ∧ t.pr = pr ∧ St w0 (hpOf w0) w' [table tb t, row b 46 [.int .i64 x0, .int .i64 x1, .int .i64 x2]],
    ⟨_, 0, _, rfl, by omega, rfl, inv_new hb (fun p hp => (hq p hp).1) 0, rfl, H.re⟩, ?_⟩
  rintro n9 dead w5 i ⟨k, t, rfl, hk, rfl, hi, htp, H⟩
  unfold purlinlaw17_ProcApart.L0
  have tail : purlinlaw17_ProcApart.K2 a pr.length (fun v w' => v = .bool true ∧ Ch [] w0 w') b (some ⟨tb, 0, none⟩) w5 := by
    unfold purlinlaw17_ProcApart.K2
    have hlen : t.l.length = pr.length := by rw [hi.fit.len, htp]
    refine ⟨_, H.ld, _, H.ld, _, H.ld, ?_⟩
    refine Calls.ret (call_sp H x0 x1 x2) ?_
    rintro v w6 ⟨rfl, H⟩
    refine ⟨_, _, _, rfl, ?_⟩
    refine H.st fun w H => H.new fun b1 w H => H.new fun b2 w H => H.new fun b3 w H => ?_
    obtain ⟨kd, hkd⟩ : ∃ kd, kd = ck x0 := ⟨_, rfl⟩
    have hko : okKind kd := hkd ▸ ck_ok x0
    rw [← hkd] at H
    have H : St w0 (hpOf w0) w [table tb t, row b 46 [.int .i64 kd, .int .i64 x1, .int .i64 x2], row b1 64 (tab fun _ => .int .i64 0), row b2 62 (tab fun _ => .bool false), row b3 65 (tab fun _ => .int .i64 0)] := H.re
    refine ⟨fun n j w' => ∃ (q : Nat) (g1 g2 g3 : Nat → Value), j = q ∧ q ≤ pr.length ∧ n = pr.length - q ∧ (∀ i, i < q → g1 i = .int .i64 (t.at (i : Int)).st ∧ g2 i = .bool (t.at (i : Int)).held ∧ g3 i = .int .i64 (t.at (i : Int)).prio) ∧
        St w0 (hpOf w0) w' [table tb t, row b 46 [.int .i64 kd, .int .i64 x1, .int .i64 x2], row b1 64 (tab g1), row b2 62 (tab g2), row b3 65 (tab g3)],
      ⟨_, 0, _, _, _, rfl, by omega, rfl, fun i hi => by omega, H⟩, ?_⟩
    rintro n9 dead w7 j ⟨q, g1, g2, g3, rfl, hqle, rfl, hg, H⟩
    unfold purlinlaw17_ProcApart.L1
    refine br_dec (fun hql => ?_) fun hql => ?_
    · have hql : q < pr.length := by omega
      have hq16 : q < 16 := by omega
      refine Calls.ret (state_in H (k := q) (by omega)) ?_
      rintro v w8 ⟨rfl, H⟩
      refine ⟨_, _, _, rfl, by omega, by omega, ?_⟩
      simp only [toNat_nat]
      refine St.st (cs := tab g1) H (fun w H => ?_) (ho := by rw [tab_len]; simp; omega)
      refine ⟨by omega, by omega, ?_⟩
      refine St.st (cs := tab g2) H (fun w H => ?_) (ho := by rw [tab_len]; simp; omega)
      refine ⟨by omega, by omega, ?_⟩
      refine St.st (cs := tab g3) H (fun w H => ?_) (ho := by rw [tab_len]; simp; omega)
      rw [tab_set hq16, tab_set hq16, tab_set hq16] at H
      refine ⟨pr.length - (q + 1), by omega, q + 1, _, _, _, by rw [← Int.natCast_succ, wrap64_nat (by omega)], by omega, rfl, fun i hi => ?_, H.re⟩
      by_cases hiq : i = q
      · subst hiq; simp
      · simp only [if_neg hiq]; exact hg i (by omega)
    · have hqe : q = pr.length := by omega
      subst hqe
      refine Calls.ret (proc_Running_sp H hi.fit hi.good) ?_
      rintro v w8 ⟨rfl, H⟩
      refine ⟨_, _, rfl, _, H.ld, _, H.ld, _, H.ld, ?_⟩
      refine Calls.ret (do_sp H hi (by omega) hko x1 x2) ?_
      rintro v w9 ⟨rfl, H⟩
      refine ⟨_, rfl, ?_⟩
      have hi2 := inv_do hi hko (i := x1) (p := x2)
      have hdl := doS_len hi kd x1 x2
      have hF1 := doS_err (t := t) (k := kd) (i := x1) (p := x2)
      have hF2 : ∀ j : Nat, kd ≠ 8 → (j : Int) ≠ x1 → _ := fun j h1 h2 => doS_other (t := t) (p := x2) (j := j) h1 h2
      have hF3 : ∀ (j : Nat) (p : Int), kd = 8 → pr[j]? = some p → (t.doS kd x1 x2).at (j : Int) = dorm p := fun j p h1 h2 => by
        unfold PT.doS; rw [if_pos h1]; exact reset_at (by rw [htp]; exact h2)
      obtain ⟨t2, ht2⟩ : ∃ t2, t2 = t.doS kd x1 x2 := ⟨_, rfl⟩
      obtain ⟨E, hE⟩ : ∃ E, E = t.doE kd x1 x2 := ⟨_, rfl⟩
      rw [← ht2] at H hi2 hdl hF1 hF3
      rw [← hE] at hF1 ⊢
      simp only [← ht2] at hF2
      have hlen2 : t2.l.length = pr.length := by rw [hdl.1, hlen]
      refine ⟨fun n j w' => ∃ q : Nat, j = q ∧ q ≤ pr.length ∧ n = pr.length - q ∧ St w0 (hpOf w0) w' [table tb t2, row b 46 [.int .i64 kd, .int .i64 x1, .int .i64 x2], row b1 64 (tab g1), row b2 62 (tab g2), row b3 65 (tab g3)],
        ⟨_, 0, rfl, by omega, rfl, H.re⟩, ?_⟩
      rintro n9 dead w10 j ⟨q, rfl, hqle, rfl, H⟩
      unfold purlinlaw17_ProcApart.L2
      refine br_dec (fun hql => ?_) fun hql => ?_
      · have hql : q < pr.length := by omega
        have hq16 : q < 16 := by omega
        obtain ⟨p, hp⟩ : ∃ p, pr[q]? = some p := ⟨_, List.getElem?_eq_getElem hql⟩
        obtain ⟨gg1, gg2, gg3⟩ := hg q hql
        refine Calls.ret (state_in H (k := q) (by omega)) ?_
        rintro v w11 ⟨rfl, H⟩
        refine ⟨_, _, _, rfl, ?_⟩
        have done : ∃ m, m < pr.length - q ∧ ∃ q_1 : Nat, IntKind.wrap .i64 ((q : Int) + 1) = q_1 ∧ q_1 ≤ pr.length ∧ m = pr.length - q_1 ∧ St w0 (hpOf w0) w11 [table tb t2, row b 46 [.int .i64 kd, .int .i64 x1, .int .i64 x2], row b1 64 (tab g1), row b2 62 (tab g2), row b3 65 (tab g3)] :=
          ⟨pr.length - (q + 1), by omega, q + 1, by rw [← Int.natCast_succ, wrap64_nat (by omega)], by omega, rfl, H⟩
        have hwp : IntKind.wrap .i64 p = p := by
          have := hq p (List.mem_of_getElem? hp)
          exact wrap64_in (by omega) (by omega)
        have k0 : purlinlaw17_ProcApart.K0 a pr.length (fun v w' => v = .bool true ∧ Ch [] w0 w') b q
            (fun x0 w9 => ∃ m, m < pr.length - q ∧ ∃ q_1 : Nat, x0 = q_1 ∧ q_1 ≤ pr.length ∧ m = pr.length - q_1 ∧ St w0 (hpOf w0) w9 [table tb t2, row b 46 [.int .i64 kd, .int .i64 x1, .int .i64 x2], row b1 64 (tab g1), row b2 62 (tab g2), row b3 65 (tab g3)])
            (t2.at (q : Int)).st (t2.at (q : Int)).held (t2.at (q : Int)).prio w11 := by
          unfold purlinlaw17_ProcApart.K0
          refine ⟨_, H.ld, br_intro (fun h8 => ?_) fun _ => done⟩
          have h8 : kd = 8 := by simpa using h8
          rw [hF3 q p h8 hp]
          refine br_f rfl (br_f rfl ⟨by omega, by omega, ?_⟩)
          obtain ⟨ab, ao, rfl, hcell⟩ := (H.sli hpr) q _ hp
          simp only [okP_some, pb_some, po_some, toNat_nat]
          exact ⟨_, hcell 0 _ rfl, br_f (by rw [hwp]; simp [dorm]) done⟩
        have k1 : ∀ z : Bool, z = false → purlinlaw17_ProcApart.K1 a pr.length (fun v w' => v = .bool true ∧ Ch [] w0 w') b q
            (fun x0 w9 => ∃ m, m < pr.length - q ∧ ∃ q_1 : Nat, x0 = q_1 ∧ q_1 ≤ pr.length ∧ m = pr.length - q_1 ∧ St w0 (hpOf w0) w9 [table tb t2, row b 46 [.int .i64 kd, .int .i64 x1, .int .i64 x2], row b1 64 (tab g1), row b2 62 (tab g2), row b3 65 (tab g3)])
            (t2.at (q : Int)).st (t2.at (q : Int)).held (t2.at (q : Int)).prio z w11 := by
          intro z hz
          unfold purlinlaw17_ProcApart.K1
          exact br_f hz k0
        have l1 : w11.cell? ⟨b1, 0 + q * 1, none⟩ = some (.int .i64 (t.at (q : Int)).st) := (H.at_ (A := row b1 _ _)).rowAt.cell (by rw [tab_get hq16, gg1])
        have l2 : w11.cell? ⟨b2, 0 + q * 1, none⟩ = some (.bool (t.at (q : Int)).held) := (H.at_ (A := row b2 _ _)).rowAt.cell (by rw [tab_get hq16, gg2])
        have l3 : w11.cell? ⟨b3, 0 + q * 1, none⟩ = some (.int .i64 (t.at (q : Int)).prio) := (H.at_ (A := row b3 _ _)).rowAt.cell (by rw [tab_get hq16, gg3])
        simp only [toNat_nat]
        refine ⟨_, H.ld, br_intro (fun hne => ⟨_, H.ld, br_intro (fun h8 => ?_) fun h8 => br_intro (fun hE0 => ?_) fun hE0 => k0⟩) fun hne => br_intro (fun hE0 => ?_) fun hE0 => k0⟩
        · have he := hF2 q (by simpa using h8) (by simpa using hne)
          exact ⟨by omega, by omega, _, l1, br_f (by rw [he]; simp) ⟨by omega, by omega, _, l2, br_f (by rw [he]; simp) ⟨by omega, by omega, _, l3, k1 _ (by rw [he]; simp)⟩⟩⟩
        · have he : t2.at (q : Int) = t.at (q : Int) := by rw [hF1 (by simpa using hE0)]
          exact ⟨by omega, by omega, _, l1, br_f (by rw [he]; simp) ⟨by omega, by omega, _, l2, br_f (by rw [he]; simp) ⟨by omega, by omega, _, l3, k1 _ (by rw [he]; simp)⟩⟩⟩
        · have he : t2.at (q : Int) = t.at (q : Int) := by rw [hF1 (by simpa using hE0)]
          exact ⟨by omega, by omega, _, l1, br_f (by rw [he]; simp) ⟨by omega, by omega, _, l2, br_f (by rw [he]; simp) ⟨by omega, by omega, _, l3, k1 _ (by rw [he]; simp)⟩⟩⟩
      · refine Calls.ret (proc_Running_sp H hi2.fit hi2.good) ?_
        rintro v w11 ⟨rfl, H⟩
        refine ⟨_, _, rfl, br_intro (fun _ => ⟨rfl, H.fin hm⟩) fun hE0 => ?_⟩
        have he : t2 = t := hF1 (by simpa using hE0)
        rw [he]
        exact br_t (by simp) ⟨by simp, H.fin hm⟩
  refine br_dec (fun hlt => br_dec (fun hlt2 => ?_) fun _ => tail) fun _ => tail
  clear tail
  have hlt : k < xs.length := by omega
  have hlt2 : k < 40 := by omega
  obtain ⟨x, hxk⟩ : ∃ x, xs[k]? = some x := ⟨xs[k], by simp [hlt]⟩
  have hxe : xs[k] = x := by have h := hxk; rw [List.getElem?_eq_getElem hlt] at h; exact Option.some.inj h
  refine ⟨by omega, by omega, ?_⟩
  obtain ⟨ab, ao, rfl, hcell⟩ := (H.sli hx) k _ hxk
  simp only [okP_some, pb_some, po_some, toNat_nat]
  refine ⟨_, hcell 0 _ rfl, _, hcell 1 _ rfl, _, hcell 2 _ rfl, ?_⟩
  refine Calls.ret (call_sp H x.kind x.i x.prio) ?_
  rintro v w6 ⟨rfl, H⟩
  refine ⟨_, _, _, rfl, ?_⟩
  refine Calls.ret (do_sp H hi (by omega) (ck_ok x.kind) x.i x.prio) ?_
  rintro v w7 ⟨rfl, H⟩
  have hk1 : IntKind.wrap .i64 ((k : Int) + 1) = ((k + 1 : Nat) : Int) := by rw [← Int.natCast_succ, wrap64_nat (by omega)]
  exact ⟨_, rfl, 40 - (k + 1), by omega, k + 1, _, hk1, by omega, rfl, inv_do hi (ck_ok x.kind), by rw [(doS_len hi _ _ _).2]; exact htp, H⟩
end Go.Proofs.Ytecacohkkdhphaa
