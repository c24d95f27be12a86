/- Processes: ProcTurns returns true. Conditions: none. -/
import Derived.Test.YtecacohkkdhphaaPrD
import Derived.Test.YtecacohkkdhphaaPl3
namespace Go.Proofs.Ytecacohkkdhphaa
open Go.Vc Go.Sort
set_option linter.unusedSimpArgs false
set_option linter.unusedVariables false
set_option maxRecDepth 100000

theorem yield_step {t : PT} {h : Nat} (hh : h < t.l.length) (hm : (t.at (h : Int)).may = true) :
    t.opE 7 (h : Int) = 0 ∧ (t.opS 7 (h : Int) 0).came = t.came + 1 ∧ (t.opS 7 (h : Int) 0).l.length = t.l.length ∧ (∀ j : Nat, j ≠ h → (t.opS 7 (h : Int) 0).at (j : Int) = t.at (j : Int)) ∧
      (t.opS 7 (h : Int) 0).at (h : Int) = ⟨(t.at (h : Int)).st, (t.at (h : Int)).held, (t.at (h : Int)).prio, t.came + 1⟩ := by
  have hx := at_fin hh
  unfold PT.opE PT.opS PT.withE PT.withS
  have h1 : ¬ ((h : Int) < 0 ∨ (t.l.length : Int) ≤ h) := by omega
  rw [if_neg h1, if_neg h1, toNat_nat, hx, Option.getD_some]
  have h2 : opIs 7 (t.at (h : Int)) = true := by simpa [opIs] using hm
  rw [if_pos h2, if_pos h2]
  have h3 : opDo 7 (t.first (h : Int)) 0 (t.at (h : Int)) = t.at (h : Int) := by simp [opDo]
  rw [h3]
  have h4 : opZ 7 = 2 := by decide
  rw [h4]
  unfold PT.put
  rw [if_neg (by decide), if_pos rfl]
  refine ⟨rfl, rfl, by simp, fun j hj => ?_, ?_⟩
  · unfold PT.at
    simp only [toNat_nat]
    rw [List.getElem?_set_ne (Ne.symm hj)]
  · show ((t.l.set h _)[((h : Int)).toNat]?).getD default = _
    rw [toNat_nat, List.getElem?_set_self hh]; rfl

theorem countP_upd {l : List Nat} {g : Nat → Bool} {h : Nat} (hn : l.Nodup) (hh : h ∈ l) (hg : g h = false) : l.countP (fun j => if j = h then true else g j) = l.countP g + 1 := by
  induction l with
  | nil => cases hh
  | cons a l ih =>
    obtain ⟨ha, hn⟩ := List.nodup_cons.1 hn
    rw [List.countP_cons, List.countP_cons]
    rcases List.mem_cons.1 hh with rfl | hm
    · have : l.countP (fun j => if j = h then true else g j) = l.countP g := by
        apply List.countP_congr
        intro x hx
        have : x ≠ h := fun e => ha (e ▸ hx)
        simp [this]
      rw [this]; simp [hg]
    · have hah : a ≠ h := fun e => ha (e ▸ hm)
      rw [ih hn hm]; simp [hah]; omega
theorem countP_lt {l : List Nat} {g p : Nat → Bool} {j : Nat} (hs : ∀ a ∈ l, g a = true → p a = true) (hj : j ∈ l) (hp : p j = true) (hg : g j = false) : l.countP g < l.countP p := by
  induction l with
  | nil => cases hj
  | cons a l ih =>
    rw [List.countP_cons, List.countP_cons]
    have hle : l.countP g ≤ l.countP p := List.countP_mono_left fun x hx h => hs x (List.mem_cons_of_mem _ hx) h
    rcases List.mem_cons.1 hj with rfl | hm
    · simp [hp, hg]; omega
    · have := ih (fun a ha => hs a (List.mem_cons_of_mem _ ha)) hm
      have ha := hs a List.mem_cons_self
      cases hga : g a with
      | false => simp; omega
      | true => rw [ha hga]; simp; omega

/-- Who runs at the highest rank. -/
def top (t : PT) (m : Int) (j : Nat) : Bool := (t.at (j : Int)).may && decide ((t.at (j : Int)).prio = m)
structure Turn (t0 t : PT) (m : Int) (i0 : Nat) (g : Nat → Bool) (q : Nat) : Prop where
  inv : t.inv (60 + q)
  len : t.l.length = t0.l.length
  came : t.came = t0.came + q
  same : ∀ j : Nat, (t.at (j : Int)).st = (t0.at (j : Int)).st ∧ (t.at (j : Int)).held = (t0.at (j : Int)).held ∧ (t.at (j : Int)).prio = (t0.at (j : Int)).prio
  old : ∀ j : Nat, g j = false → (t.at (j : Int)).came = (t0.at (j : Int)).came
  new : ∀ j : Nat, g j = true → top t0 m j = true ∧ t0.came < (t.at (j : Int)).came
  fst : 0 < q → g i0 = true ∧ (t.at (i0 : Int)).came = t0.came + 1 ∧ ∀ j : Nat, g j = true → j ≠ i0 → t0.came + 1 < (t.at (j : Int)).came
  zero : q = 0 → t = t0
  cnt : (List.range t0.l.length).countP g = q

structure Tops (t0 : PT) (m : Int) (i0 : Nat) : Prop where
  inv : t0.inv 60
  lt : i0 < t0.l.length
  top : top t0 m i0 = true
  head : t0.order.head? = some (i0 : Int)
  max : ∀ j : Nat, j < t0.l.length → (t0.at (j : Int)).may = true → (t0.at (j : Int)).prio ≤ m

section
variable {t0 t : PT} {m : Int} {i0 q : Nat} {g : Nat → Bool}
theorem Turn.may (h : Turn t0 t m i0 g q) (j : Nat) : (t.at (j : Int)).may = (t0.at (j : Int)).may := by
  obtain ⟨h1, h2, _⟩ := h.same j
  unfold Pr.may; rw [h1, h2]
theorem Turn.next (h0 : Tops t0 m i0) (h : Turn t0 t m i0 g q) (hq : q < (List.range t0.l.length).countP (top t0 m)) :
    ∃ k : Nat, t.order.head? = some (k : Int) ∧ k < t0.l.length ∧ top t0 m k = true ∧ g k = false ∧ (q = 0 → k = i0) := by
  obtain ⟨j, hj, hjt, hjg⟩ : ∃ j, j < t0.l.length ∧ top t0 m j = true ∧ g j = false := by
    apply Classical.byContradiction
    intro hn
    have : (List.range t0.l.length).countP (top t0 m) ≤ (List.range t0.l.length).countP g := List.countP_mono_left fun x hx hxt => by
      cases hg : g x with
      | true => rfl
      | false => exact absurd ⟨x, List.mem_range.1 hx, hxt, hg⟩ hn
    rw [h.cnt] at this; omega
  have hjm : (t0.at (j : Int)).may = true ∧ (t0.at (j : Int)).prio = m := by simpa [top] using hjt
  have hjl : j < t.l.length := by rw [h.len]; exact hj
  cases ho : t.order.head? with
  | none =>
    have := order_nil.1 (List.head?_eq_none_iff.1 ho) ⟨j, hjl⟩
    rw [h.may j] at this
    rw [hjm.1] at this; cases this
  | some x =>
    obtain ⟨i, rfl, him, hib⟩ := order_head_spec ho
    have hb := hib ⟨j, hjl⟩ (by rw [h.may j]; exact hjm.1)
    have him0 := him
    rw [h.may] at him0
    have hil : i.val < t0.l.length := by rw [← h.len]; exact i.isLt
    have hmx := h0.max i.val hil him0
    obtain ⟨_, _, s3⟩ := h.same i.val
    obtain ⟨_, _, s4⟩ := h.same j
    have hjc := h.old j hjg
    have hjle := h0.inv.good.le j _ (at_fin hj)
    have hb : (t.at (j : Int)).prio < (t.at (i.val : Int)).prio ∨ (t.at (i.val : Int)).prio = (t.at (j : Int)).prio ∧ (t.at (i.val : Int)).came ≤ (t.at (j : Int)).came := by
      simpa [leI, lePr] using hb
    have e := hjm.2
    refine ⟨i.val, rfl, hil, ?_, ?_, fun hq0 => ?_⟩
    · unfold top; rw [him0]; simp; omega
    · cases hg : g i.val with
      | false => rfl
      | true =>
        have := (h.new i.val hg).2
        omega
    · have ht := h.zero hq0
      have hd := h0.head
      rw [← ht, ho] at hd
      have := Option.some.inj hd
      omega
theorem Turn.last (h0 : Tops t0 m i0) (h : Turn t0 t m i0 g q) (hq : q = (List.range t0.l.length).countP (top t0 m)) : t.order.head? = some (i0 : Int) := by
  have hall : ∀ j, j < t0.l.length → top t0 m j = true → g j = true := by
    intro j hj hjt
    cases hg : g j with
    | true => rfl
    | false =>
      have := countP_lt (l := List.range t0.l.length) (g := g) (p := top t0 m) (fun a _ ha => (h.new a ha).1) (List.mem_range.2 hj) hjt hg
      rw [h.cnt] at this; omega
  have hq0 : 0 < q := by
    rw [hq]; exact List.countP_pos_iff.2 ⟨i0, List.mem_range.2 h0.lt, h0.top⟩
  obtain ⟨f1, f2, f3⟩ := h.fst hq0
  have ht : (t0.at (i0 : Int)).may = true ∧ (t0.at (i0 : Int)).prio = m := by simpa [top] using h0.top
  have hl : i0 < t.l.length := by rw [h.len]; exact h0.lt
  refine order_head (i := ⟨i0, hl⟩) h.inv.good (by rw [h.may]; exact ht.1) fun j hj => ?_
  have hjl : j.val < t0.l.length := by rw [← h.len]; exact j.isLt
  rw [h.may] at hj
  have hmx := h0.max j.val hjl hj
  obtain ⟨_, _, s3⟩ := h.same i0
  obtain ⟨_, _, s4⟩ := h.same j.val
  have e := ht.2
  have : (t.at (j.val : Int)).prio < (t.at (i0 : Int)).prio ∨ (t.at (i0 : Int)).prio = (t.at (j.val : Int)).prio ∧ (t.at (i0 : Int)).came ≤ (t.at (j.val : Int)).came := by
    by_cases hp : (t0.at (j.val : Int)).prio = m
    · right
      refine ⟨by omega, ?_⟩
      by_cases hji : j.val = i0
      · rw [hji]; exact Int.le_refl _
      · have := f3 j.val (hall _ hjl (by unfold top; rw [hj]; simpa using hp)) hji
        omega
    · left; omega
  simpa [leI, lePr] using this
theorem Turn.step (h0 : Tops t0 m i0) (h : Turn t0 t m i0 g q) {k : Nat} (hk : k < t0.l.length) (hkt : top t0 m k = true) (hkg : g k = false) (hz : q = 0 → k = i0) :
    t.opE 7 (k : Int) = 0 ∧ Turn t0 (t.opS 7 (k : Int) 0) m i0 (fun j => if j = k then true else g j) (q + 1) := by
  have hm : (t0.at (k : Int)).may = true ∧ (t0.at (k : Int)).prio = m := by simpa [top] using hkt
  have hm1 : (t.at (k : Int)).may = true := by rw [h.may]; exact hm.1
  obtain ⟨y1, y2, y3, y4, y5⟩ := yield_step (by rw [h.len]; exact hk) hm1
  have hc := h.came
  refine ⟨y1, ?_, by rw [y3, h.len], by rw [y2, hc]; omega, ?_, ?_, ?_, ?_, fun h => by omega, ?_⟩
  · exact inv_op h.inv (by omega) (fun h => by omega)
  · intro j
    by_cases hj : j = k
    · rw [hj, y5]; exact h.same k
    · rw [y4 j hj]; exact h.same j
  · intro j hj
    by_cases hjk : j = k
    · simp [hjk] at hj
    · rw [y4 j hjk]; exact h.old j (by simpa [hjk] using hj)
  · intro j hj
    by_cases hjk : j = k
    · rw [hjk, y5]; exact ⟨hkt, by show t0.came < t.came + 1; omega⟩
    · rw [y4 j hjk]; exact h.new j (by simpa [hjk] using hj)
  · intro _
    by_cases hq : q = 0
    · obtain rfl := hz hq
      refine ⟨by simp, by rw [y5]; show t.came + 1 = _; omega, fun j hj hji => ?_⟩
      simp only [if_neg hji] at hj
      have hc : (List.range t0.l.length).countP g = 0 := by rw [h.cnt]; exact hq
      have := h.new j hj
      have hlt : j < t0.l.length := by
        apply Classical.byContradiction
        intro hn
        have hd : t0.at (j : Int) = default := by unfold PT.at; rw [toNat_nat, List.getElem?_eq_none (by omega)]; rfl
        have h1 := this.1
        unfold top at h1
        rw [hd] at h1
        simp [Pr.may, default, instInhabitedPr.default] at h1
      exact absurd hj (by simpa using List.countP_eq_zero.1 hc j (List.mem_range.2 hlt))
    · obtain ⟨f1, f2, f3⟩ := h.fst (by omega)
      have hki : i0 ≠ k := fun e => by rw [e, hkg] at f1; cases f1
      refine ⟨by simp [hki, f1], by rw [y4 i0 hki]; exact f2, fun j hj hji => ?_⟩
      by_cases hjk : j = k
      · rw [hjk, y5]; show t0.came + 1 < t.came + 1; omega
      · rw [y4 j hjk]; exact f3 j (by simpa [hjk] using hj) hji
  · rw [countP_upd List.nodup_range (List.mem_range.2 hk) hkg, h.cnt]
end

theorem ProcTurns_any {w0 : World} {a a2 : Option Addr} {c c2 : Nat} {pr : List Int} {xs : List PCall} (hpr : SlR (Enc.int .u8) w0 a pr) (hq : ∀ p ∈ pr, 0 ≤ p ∧ p < 256) (hx : SlR encK w0 a2 xs) :
    Calls Try.prog 6 #[.slice a pr.length c, .slice a2 xs.length c2] w0 (Ret fun v w' => v = .bool true ∧ Ch [] w0 w') := by
  have H := St.init w0
  have hx := hx.sli
  have hpr := hpr.sli
  have hm := hle_refl (hpOf w0)
  apply purlinlaw17_ProcTurns.calls
  unfold purlinlaw17_ProcTurns.F
  refine Calls.ret (proc_New_sp H (fun w H => H.sli hpr) (fun p hp => (hq p hp).1)) ?_
  rintro v w1 ⟨h1, h2⟩
  by_cases hb : ¬ prErr pr = 0
  · obtain ⟨rfl, H⟩ := h1 hb
    refine ⟨_, _, rfl, ?_⟩
    refine Calls.ret (awake17_sp H) ?_
    rintro v w2 ⟨rfl, H⟩
    refine ⟨_, rfl, br_f rfl (br_t (by simpa using hb) ?_)⟩
    refine Calls.ret (awake17_sp H) ?_
    rintro v w3 ⟨rfl, H⟩
    exact ⟨_, rfl, br_t rfl ⟨rfl, H.fin hm⟩⟩
  have hb : prErr pr = 0 := Classical.not_not.1 hb
  obtain ⟨tb, rfl, H⟩ := h2 hb
  refine ⟨_, _, rfl, ?_⟩
  refine Calls.ret (awake17_sp H) ?_
  rintro v w2 ⟨rfl, H⟩
  refine ⟨_, rfl, br_f rfl (br_f rfl (br_f rfl ?_))⟩
  have hl16 : pr.length ≤ 16 := by
    have := (PT.new_fit hb (fun p hp => (hq p hp).1) 0).most
    exact this
  refine ⟨fun n i w' => ∃ (k : Nat) (t : PT), i = k ∧ k ≤ 60 ∧ n = 60 - k ∧ t.inv k ∧ t.pr = pr ∧ St w0 (hpOf w0) w' [table tb t],
    ⟨_, 0, _, rfl, by omega, rfl, inv_new hb (fun p hp => (hq p hp).1) 0, rfl, H.re⟩, ?_⟩
  rintro n9 dead w5 i ⟨k, t, rfl, hk, rfl, hi, htp, H⟩
  unfold purlinlaw17_ProcTurns.L0
  have tail : purlinlaw17_ProcTurns.K0 pr.length (fun v w' => v = .bool true ∧ Ch [] w0 w') (some ⟨tb, 0, none⟩) w5 := by
    unfold purlinlaw17_ProcTurns.K0
    have hlen : t.l.length = pr.length := by rw [hi.fit.len, htp]
    have hi : t.inv 60 := hi.mono hk
    refine Calls.ret (proc_Running_sp H hi.fit hi.good) ?_
    rintro v w6 ⟨rfl, H⟩
    refine ⟨_, _, rfl, ?_⟩
    cases hh : t.order.head? with
    | none => exact br_t rfl ⟨rfl, H.fin hm⟩
    | some x =>
      obtain ⟨i0, rfl, him, hib⟩ := order_head_spec hh
      obtain ⟨i0, hi0⟩ := i0
      refine br_f rfl ?_
      refine Calls.ret (state_in H hi0) ?_
      rintro v w7 ⟨rfl, H⟩
      refine ⟨_, _, _, rfl, ?_⟩
      refine H.new fun b w H => ?_
      obtain ⟨m, hme⟩ : ∃ m, m = (t.at (i0 : Int)).prio := ⟨_, rfl⟩
      rw [← hme]
      have hT : Tops t m i0 := ⟨hi, hi0, by unfold top; rw [hme]; simpa using him, hh, fun j hj hjm => by
        have := hib ⟨j, hj⟩ hjm
        simp [leI, lePr] at this
        omega⟩
      have H : St w0 (hpOf w0) w [table tb t, row b 62 (tab fun _ => .bool false)] := H.re
      refine ⟨fun n9 n k w' => ∃ q : Nat, k = q ∧ q ≤ pr.length ∧ n9 = pr.length - q ∧ n = (((List.range q).countP (top t m) : Nat) : Int) ∧ St w0 (hpOf w0) w' [table tb t, row b 62 (tab fun _ => .bool false)],
        ⟨_, 0, rfl, by omega, rfl, rfl, H⟩, ?_⟩
      rintro n9 dead w8 n k' ⟨q, rfl, hqle, rfl, rfl, H⟩
      unfold purlinlaw17_ProcTurns.L1
      refine br_dec (fun hql => ?_) fun hql => ?_
      · have hql : q < pr.length := by omega
        refine Calls.ret (state_in H (k := q) (by omega)) ?_
        rintro v w9 ⟨rfl, H⟩
        refine ⟨_, _, _, rfl, ?_⟩
        have hcs : (List.range (q + 1)).countP (top t m) = (List.range q).countP (top t m) + (if top t m q = true then 1 else 0) := by
          rw [List.range_succ, List.countP_append]; simp [List.countP_cons]
        have hcl : (List.range q).countP (top t m) ≤ q := by
          have := List.countP_le_length (p := top t m) (l := List.range q); simpa using this
        have hw1 : IntKind.wrap .i64 ((q : Int) + 1) = ((q + 1 : Nat) : Int) := by rw [← Int.natCast_succ, wrap64_nat (by omega)]
        have no : top t m q = false → ∃ m_1, m_1 < pr.length - q ∧ ∃ q_1 : Nat, IntKind.wrap .i64 ((q : Int) + 1) = q_1 ∧ q_1 ≤ pr.length ∧ m_1 = pr.length - q_1 ∧ (((List.range q).countP (top t m) : Nat) : Int) = (((List.range q_1).countP (top t m) : Nat) : Int) ∧ St w0 (hpOf w0) w9 [table tb t, row b 62 (tab fun _ => .bool false)] :=
          fun hf => ⟨pr.length - (q + 1), by omega, q + 1, hw1, by omega, rfl, by rw [hcs, hf]; simp, H⟩
        refine br_intro (fun h1 => br_intro (fun h2 => br_intro (fun h3 => ?_) fun h3 => no ?_) fun h2 => no ?_) fun h1 => no ?_
        · refine ⟨pr.length - (q + 1), by omega, q + 1, hw1, by omega, rfl, ?_, H⟩
          have : top t m q = true := by simp at h1 h2 h3; simp [top, Pr.may, h1, h2, h3]
          rw [hcs, this, if_pos rfl, ← Int.natCast_succ, wrap64_nat (by omega)]
        · unfold top; simp at h3; simp [h3]
        · unfold top Pr.may; simp at h2; simp [h2]
        · unfold top Pr.may; simp at h1; simp [h1]
      · have hqe : q = t.l.length := by omega
        subst hqe
        obtain ⟨N, hN⟩ : ∃ N, N = (List.range t.l.length).countP (top t m) := ⟨_, rfl⟩
        rw [← hN]
        have hNl : N ≤ 16 := by
          have := List.countP_le_length (p := top t m) (l := List.range t.l.length); simp at this; omega
        refine ⟨fun n9 k w' => ∃ (q : Nat) (u : PT) (g : Nat → Bool), k = q ∧ q ≤ N ∧ n9 = N - q ∧ Turn t u m i0 g q ∧ St w0 (hpOf w0) w' [table tb u, row b 62 (tab fun j => .bool (g j))],
          ⟨_, 0, t, fun _ => false, rfl, by omega, rfl, ⟨hi, rfl, by simp, fun j => ⟨rfl, rfl, rfl⟩, fun j _ => rfl, fun j h => (by cases h), fun h => (by omega), fun _ => rfl, by simp⟩, H⟩, ?_⟩
        rintro n9 dead w9 k' ⟨q, u, g, rfl, hqN, rfl, hU, H⟩
        unfold purlinlaw17_ProcTurns.L2
        refine br_dec (fun hlt => ?_) fun hlt => ?_
        · have hlt : q < N := by omega
          obtain ⟨kk, hk1, hk2, hk3, hk4, hk5⟩ := hU.next hT (by omega)
          refine Calls.ret (proc_Running_sp H hU.inv.fit hU.inv.good) ?_
          rintro v w10 ⟨rfl, H⟩
          rw [hk1]
          refine ⟨_, _, rfl, br_f rfl (br_dec (fun h => absurd h (by simp)) fun _ => br_dec (fun h => absurd h (by simp; omega)) fun _ => ⟨by simp, by simp; omega, ?_⟩)⟩
          have hk16 : kk < 16 := by omega
          simp only [Option.getD_some, toNat_nat]
          have l1 : w10.cell? ⟨b, 0 + kk * 1, none⟩ = some (.bool false) := (H.at_ (A := row b _ _)).rowAt.cell (by rw [tab_get hk16, hk4])
          refine ⟨_, l1, br_f rfl ?_⟩
          obtain ⟨s1, s2⟩ := hU.step hT hk2 hk3 hk4 hk5
          refine Calls.ret (proc_Yield_sp H hU.inv.fit (by omega) kk) ?_
          rintro v w11 ⟨rfl, H⟩
          rw [s1]
          refine ⟨_, rfl, br_f rfl ⟨by omega, by omega, ?_⟩⟩
          refine St.st (cs := tab fun j => .bool (g j)) H (fun w H => ?_) (ho := by rw [tab_len]; simp; omega)
          rw [tab_set hk16] at H
          have he : (fun i => if i = kk then Value.bool true else Value.bool (g i)) = fun i => .bool (if i = kk then true else g i) := by
            funext i; split <;> rfl
          rw [he] at H
          exact ⟨N - (q + 1), by omega, q + 1, _, _, by rw [← Int.natCast_succ, wrap64_nat (by omega)], by omega, rfl, s2, H.re⟩
        · have hqe : q = N := by omega
          have hl := hU.last hT (by omega)
          refine Calls.ret (proc_Running_sp H hU.inv.fit hU.inv.good) ?_
          rintro v w10 ⟨rfl, H⟩
          rw [hl]
          exact ⟨_, _, rfl, by simp, H.fin hm⟩
  refine br_dec (fun hlt => br_dec (fun hlt2 => ?_) fun _ => tail) fun _ => tail
  clear tail
  have hlt : k < xs.length := by omega
  have hlt2 : k < 60 := by omega
  obtain ⟨x, hxk⟩ : ∃ x, xs[k]? = some x := ⟨xs[k], by simp [hlt]⟩
  have hxe : xs[k] = x := by have h := hxk; rw [List.getElem?_eq_getElem hlt] at h; exact Option.some.inj h
  refine ⟨by omega, by omega, ?_⟩
  obtain ⟨ab, ao, rfl, hcell⟩ := (H.sli hx) k _ hxk
  simp only [okP_some, pb_some, po_some, toNat_nat]
  refine ⟨_, hcell 0 _ rfl, _, hcell 1 _ rfl, _, hcell 2 _ rfl, ?_⟩
  refine Calls.ret (call_sp H x.kind x.i x.prio) ?_
  rintro v w6 ⟨rfl, H⟩
  refine ⟨_, _, _, rfl, ?_⟩
  refine Calls.ret (do_sp H hi (by omega) (ck_ok x.kind) x.i x.prio) ?_
  rintro v w7 ⟨rfl, H⟩
  have hk1 : IntKind.wrap .i64 ((k : Int) + 1) = ((k + 1 : Nat) : Int) := by rw [← Int.natCast_succ, wrap64_nat (by omega)]
  exact ⟨_, rfl, 60 - (k + 1), by omega, k + 1, _, hk1, by omega, rfl, inv_do hi (ck_ok x.kind), by rw [(doS_len hi _ _ _).2]; exact htp, H⟩
end Go.Proofs.Ytecacohkkdhphaa
