/- Processes: ProcRuns returns true. Conditions: none. -/
import Derived.Test.YtecacohkkdhphaaPrL
import Derived.Test.YtecacohkkdhphaaPl2
namespace Go.Proofs.Ytecacohkkdhphaa
open Go.Vc Go.Sort
set_option linter.unusedSimpArgs false
set_option linter.unusedVariables false
set_option maxRecDepth 100000

section
variable {e w : World} {m : Hp} {L : List HP} {b n : Nat} {t : PT}
theorem state_in (H : St e m w (table b t :: L)) {k : Nat} (hk : k < t.l.length) : Calls Try.prog 32 #[.pointer (some ⟨b, 0, none⟩), .int .i64 (k : Int)] w (Ret fun v w' =>
    v = .tuple #[.int .i64 (t.at (k : Int)).st, .bool (t.at (k : Int)).held, .int .i64 (t.at (k : Int)).prio] ∧ St e m w' (table b t :: L)) := by
  refine (proc_State_sp H (k : Int)).mono ?_
  rintro _ w' ⟨v, rfl, rfl, H⟩
  refine ⟨_, rfl, ?_, H⟩
  rw [if_neg (by omega)]; rfl
/-- The state of any number. -/
def stA (t : PT) (i : Int) : Pr := if i < 0 ∨ (t.l.length : Int) ≤ i then ⟨0, false, 0, 0⟩ else t.at i
theorem state_any (H : St e m w (table b t :: L)) (i : Int) : Calls Try.prog 32 #[.pointer (some ⟨b, 0, none⟩), .int .i64 i] w (Ret fun v w' =>
    v = .tuple #[.int .i64 (stA t i).st, .bool (stA t i).held, .int .i64 (stA t i).prio] ∧ St e m w' (table b t :: L)) := by
  refine (proc_State_sp H i).mono ?_
  rintro _ w' ⟨v, rfl, rfl, H⟩
  refine ⟨_, rfl, ?_, H⟩
  unfold stA
  split <;> rfl
end
theorem withS_len (t : PT) (i : Int) (is : Pr → Bool) (f : Pr → Pr) (z : Int) : (t.withS i is f z).l.length = t.l.length ∧ (t.withS i is f z).pr = t.pr := by
  unfold PT.withS PT.put
  split
  · exact ⟨rfl, rfl⟩
  split
  · split
    · simp
    split
    · simp
    · simp
  · exact ⟨rfl, rfl⟩
theorem doS_len {t : PT} {n : Nat} (h : t.inv n) (k i p : Int) : (t.doS k i p).l.length = t.l.length ∧ (t.doS k i p).pr = t.pr := by
  unfold PT.doS
  split
  · have := h.fit.len; simp [PT.reset, this]
  split
  · unfold PT.raiseS
    split
    · exact ⟨rfl, rfl⟩
    · exact withS_len _ _ _ _ _
  · exact withS_len _ _ _ _ _
theorem may_iff (x : Pr) : x.may = true ↔ x.st = 1 ∧ x.held = false := by unfold Pr.may; simp
/-- The greatest priority of those of the first k that may run. -/
def Mx (t : PT) (k : Nat) (m : Int) : Prop := (m = -1 ∨ ∃ i : Nat, i < k ∧ i < t.l.length ∧ (t.at (i : Int)).may = true ∧ (t.at (i : Int)).prio = m) ∧ ∀ i : Nat, i < k → i < t.l.length → (t.at (i : Int)).may = true → (t.at (i : Int)).prio ≤ m
theorem Mx_keep {t : PT} {k : Nat} {m : Int} (h : Mx t k m) (hn : (t.at (k : Int)).may = true → (t.at (k : Int)).prio ≤ m) : Mx t (k + 1) m := by
  refine ⟨h.1.imp id fun ⟨i, h1, h2⟩ => ⟨i, by omega, h2⟩, fun i hi hl hm => ?_⟩
  by_cases hik : i = k
  · subst hik; exact hn hm
  · exact h.2 i (by omega) hl hm
theorem Mx_up {t : PT} {k : Nat} {m : Int} (h : Mx t k m) (hl : k < t.l.length) (hm : (t.at (k : Int)).may = true) (hp : m < (t.at (k : Int)).prio) : Mx t (k + 1) (t.at (k : Int)).prio := by
  refine ⟨.inr ⟨k, by omega, hl, hm, rfl⟩, fun i hi hl2 hm2 => ?_⟩
  by_cases hik : i = k
  · subst hik; exact Int.le_refl _
  · have := h.2 i (by omega) hl2 hm2; omega
theorem at_fin {t : PT} {k : Nat} (hk : k < t.l.length) : t.l[k]? = some (t.at (k : Int)) := PT.at_get ⟨k, hk⟩
theorem Mx_head {t : PT} {n : Nat} (hi : t.inv n) {m : Int} (h : Mx t t.l.length m) : (t.order.head? = none → m = -1) ∧ (∀ x, t.order.head? = some x → ∃ i : Nat, x = i ∧ i < t.l.length ∧ (t.at (i : Int)).may = true ∧ (t.at (i : Int)).prio = m ∧ 0 ≤ m) := by
  constructor
  · intro hn
    have hnil : t.order = [] := by cases ho : t.order with | nil => rfl | cons a r => rw [ho] at hn; cases hn
    rcases h.1 with h | ⟨i, _, hl, hm, _⟩
    · exact h
    · have := order_nil.1 hnil ⟨i, hl⟩
      simp only at this
      rw [hm] at this; cases this
  · intro x hx
    obtain ⟨i, rfl, hm, hb⟩ := order_head_spec hx
    have h1 := h.2 i.val i.isLt i.isLt hm
    have hp := hi.pb i.val _ (at_fin i.isLt)
    refine ⟨i.val, rfl, i.isLt, hm, ?_, by omega⟩
    rcases h.1 with h | ⟨j, hj, hl, hm2, hp2⟩
    · omega
    · have := hb ⟨j, hl⟩ hm2
      simp [leI, lePr] at this
      omega

theorem ProcRuns_any {w0 : World} {a a2 : Option Addr} {c c2 : Nat} {pr : List Int} {xs : List PCall} (hpr : SlR (Enc.int .u8) w0 a pr) (hq : ∀ p ∈ pr, 0 ≤ p ∧ p < 256) (hx : SlR encK w0 a2 xs) :
    Calls Try.prog 5 #[.slice a pr.length c, .slice a2 xs.length c2] w0 (Ret fun v w' => v = .bool true ∧ Ch [] w0 w') := by
  have H := St.init w0
  have hx := hx.sli
  have hpr := hpr.sli
  have hm := hle_refl (hpOf w0)
  apply purlinlaw17_ProcRuns.calls
  unfold purlinlaw17_ProcRuns.F
  refine Calls.ret (proc_New_sp H (fun w H => H.sli hpr) (fun p hp => (hq p hp).1)) ?_
  rintro v w1 ⟨h1, h2⟩
  by_cases hb : ¬ prErr pr = 0
  · obtain ⟨rfl, H⟩ := h1 hb
    refine ⟨_, _, rfl, ?_⟩
    refine Calls.ret (awake17_sp H) ?_
    rintro v w2 ⟨rfl, H⟩
    refine ⟨_, rfl, br_f rfl (br_t (by simpa using hb) ?_)⟩
    refine Calls.ret (awake17_sp H) ?_
    rintro v w3 ⟨rfl, H⟩
    exact ⟨_, rfl, br_t rfl ⟨rfl, H.fin hm⟩⟩
  have hb : prErr pr = 0 := Classical.not_not.1 hb
  obtain ⟨tb, rfl, H⟩ := h2 hb
  refine ⟨_, _, rfl, ?_⟩
  refine Calls.ret (awake17_sp H) ?_
  rintro v w2 ⟨rfl, H⟩
  refine ⟨_, rfl, br_f rfl (br_f rfl (br_f rfl ?_))⟩
  refine ⟨fun n i w' => ∃ (k : Nat) (t : PT), i = k ∧ k ≤ 60 ∧ n = 60 - k ∧ t.inv k ∧ t.pr = pr ∧ St w0 (hpOf w0) w' [table tb t],
    ⟨_, 0, _, rfl, by omega, rfl, inv_new hb (fun p hp => (hq p hp).1) 0, rfl, H⟩, ?_⟩
  rintro n9 dead w5 i ⟨k, t, rfl, hk, rfl, hi, htp, H⟩
  unfold purlinlaw17_ProcRuns.L0
  refine br_dec (fun hlt => br_dec (fun hlt2 => ?_) fun _ => ⟨rfl, H.fin hm⟩) fun _ => ⟨rfl, H.fin hm⟩
  have hlt : k < xs.length := by omega
  have hlt2 : k < 60 := by omega
  obtain ⟨x, hxk⟩ : ∃ x, xs[k]? = some x := ⟨xs[k], by simp [hlt]⟩
  have hxe : xs[k] = x := by have h := hxk; rw [List.getElem?_eq_getElem hlt] at h; exact Option.some.inj h
  refine ⟨by omega, by omega, ?_⟩
  obtain ⟨ab, ao, rfl, hcell⟩ := (H.sli hx) k _ hxk
  simp only [okP_some, pb_some, po_some, toNat_nat]
  refine ⟨_, hcell 0 _ rfl, _, hcell 1 _ rfl, _, hcell 2 _ rfl, ?_⟩
  refine Calls.ret (call_sp H x.kind x.i x.prio) ?_
  rintro v w6 ⟨rfl, H⟩
  refine ⟨_, _, _, rfl, ?_⟩
  refine Calls.ret (do_sp H hi (by omega) (ck_ok x.kind) x.i x.prio) ?_
  rintro v w7 ⟨rfl, H⟩
  refine ⟨_, rfl, ?_⟩
  have hi2 := inv_do hi (ck_ok x.kind) (i := x.i) (p := x.prio)
  have hdl := doS_len hi (ck x.kind) x.i x.prio
  obtain ⟨t2, ht2⟩ : ∃ t2, t2 = t.doS (ck x.kind) x.i x.prio := ⟨_, rfl⟩
  rw [← ht2] at H hi2 hdl
  have hlen : t2.l.length = pr.length := by rw [hi2.fit.len, hdl.2, htp]
  have hprl : t2.pr.length = pr.length := by rw [hdl.2, htp]
  refine Calls.ret (proc_Running_sp H hi2.fit hi2.good) ?_
  rintro v w8 ⟨rfl, H⟩
  refine ⟨_, _, rfl, ?_⟩
  refine ⟨fun n mo j w' => ∃ q : Nat, j = q ∧ q ≤ pr.length ∧ n = pr.length - q ∧ Mx t2 q mo ∧ St w0 (hpOf w0) w' [table tb t2], ⟨_, 0, rfl, by omega, rfl, ⟨.inl rfl, fun i hi => by omega⟩, H⟩, ?_⟩
  rintro n9 dead w9 mo j ⟨q, rfl, hqle, rfl, hmx, H⟩
  unfold purlinlaw17_ProcRuns.L1
  refine br_dec (fun hql => ?_) fun hql => ?_
  · have hql : q < pr.length := by omega
    refine Calls.ret (state_in H (k := q) (by omega)) ?_
    rintro v w10 ⟨rfl, H⟩
    refine ⟨_, _, _, rfl, ?_⟩
    have done : ∀ {m2 : Int}, Mx t2 (q + 1) m2 → ∃ m, m < pr.length - q ∧ ∃ (q_1 : Nat), IntKind.wrap .i64 ((q : Int) + 1) = q_1 ∧ q_1 ≤ pr.length ∧ m = pr.length - q_1 ∧ Mx t2 q_1 m2 ∧ St w0 (hpOf w0) w10 [table tb t2] :=
      fun h => ⟨pr.length - (q + 1), by omega, q + 1, by rw [← Int.natCast_succ, wrap64_nat (by have := hi2.fit.most; omega)], by omega, rfl, h, H⟩
    refine br_intro (fun hs => br_intro (fun hh => br_dec (fun hp => done (Mx_up hmx (by omega) ?_ hp)) fun hp => done (Mx_keep hmx fun _ => by omega)) fun hh => done (Mx_keep hmx fun h => ?_)) fun hs => done (Mx_keep hmx fun h => ?_)
    · exact (may_iff _).2 ⟨by simpa using hs, by simpa using hh⟩
    · have := ((may_iff _).1 h).2; simp [this] at hh
    · have := ((may_iff _).1 h).1; simp [this] at hs
  · have hqe : q = t2.l.length := by omega
    subst hqe
    obtain ⟨g1, g2⟩ := Mx_head hi2 hmx
    refine Calls.ret (state_any H _) ?_
    rintro v w10 ⟨rfl, H⟩
    refine ⟨_, _, _, rfl, ?_⟩
    have done : ∃ m, m < 60 - k ∧ ∃ (k_1 : Nat) (t : PT), IntKind.wrap .i64 ((k : Int) + 1) = k_1 ∧ k_1 ≤ 60 ∧ m = 60 - k_1 ∧ t.inv k_1 ∧ t.pr = pr ∧ St w0 (hpOf w0) w10 [table tb t] :=
      ⟨60 - (k + 1), by omega, k + 1, t2, by rw [← Int.natCast_succ, wrap64_nat (by omega)], by omega, rfl, hi2, by rw [hdl.2, htp], H⟩
    cases ho : t2.order.head? with
    | none =>
      have := g1 ho
      subst this
      exact br_f rfl (br_f rfl (br_t rfl (br_f rfl done)))
    | some y =>
      obtain ⟨i, rfl, hil, hma, hpr2, hm0⟩ := g2 y ho
      have hA : stA t2 (i : Int) = t2.at (i : Int) := by unfold stA; rw [if_neg (by omega)]
      simp only [Option.getD_some, Option.isSome_some, hA]
      have hma := (may_iff _).1 hma
      exact br_f (by simp; omega) (br_t rfl (br_f (by simp [hma.1]) (br_f hma.2 (br_f (by simp [hpr2]) (br_f rfl done)))))
end Go.Proofs.Ytecacohkkdhphaa
