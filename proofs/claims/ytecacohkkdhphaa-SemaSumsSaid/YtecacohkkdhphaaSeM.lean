/- Semaphores: SemaSums returns true. Conditions: none. -/
import Derived.Test.YtecacohkkdhphaaSeB
namespace Go.Proofs.Ytecacohkkdhphaa
open Go.Vc
set_option linter.unusedSimpArgs false
set_option linter.unusedVariables false
set_option maxRecDepth 100000

/-- While one waits it lets in none. -/
def SS.calm (s : SS) : Prop := 0 < s.count → s.l.ws = []
theorem scalm_wait {s : SS} (h : s.calm) (id prio u : Int) : (s.wait id prio u).calm := by
  unfold SS.wait
  split
  · exact h
  split
  · rename_i hc; intro _; exact h hc
  split
  · exact h
  · rename_i hc _; intro hc'; exact absurd hc' hc
theorem scalm_sig {s : SS} (h : s.calm) : s.sig.calm := by
  unfold SS.sig
  split
  · rename_i hh
    intro hc
    have := h hc
    rw [list_nil this] at hh; cases hh
  split
  · exact h
  · rename_i hh _
    intro _
    show s.l.ws = []
    have : s.l.list = [] := by
      cases hl : s.l.list with
      | nil => rfl
      | cons x r => rw [hl] at hh; exact absurd rfl hh
    have h2 := list_len s.l
    rw [this] at h2
    exact List.eq_nil_of_length_eq_zero h2.symm
theorem scalm_drop {s : SS} (h : s.calm) (id : Int) : (s.drop id).calm := fun hc => by
  show s.l.ws.filter _ = []
  rw [h hc]; rfl
theorem scalm_exp {s : SS} (h : s.calm) (now : Int) : (s.exp now).calm := fun hc => by
  show (s.l.exp now).ws = []
  unfold LS.exp; split
  · exact h hc
  · show s.l.ws.filter _ = []
    rw [h hc]; rfl

theorem SemaSums_any {w0 : World} {a : Option Addr} {c : Nat} {xs : List SCall} {init most : Int} (hi0 : 0 ≤ init) (hi1 : init < 256) (hm0 : 0 ≤ most) (hm1 : most < 256) (hx : SlR encS w0 a xs) :
    Calls Try.prog 14 #[.int .u8 init, .int .u8 most, .slice a xs.length c] w0 (Ret fun v w' => v = .bool true ∧ Ch [] w0 w') := by
  have H := St.init w0
  have hx := hx.sli
  have hm := hle_refl (hpOf w0)
  apply purlinlaw15_SemaSums.calls
  unfold purlinlaw15_SemaSums.F
  have e1 : IntKind.wrap .i64 most = most := wrap64_in (by omega) (by omega)
  have e2 : IntKind.wrap .i64 init = init := wrap64_in (by omega) (by omega)
  have e3 : most.tmod 255 = most % 255 := Int.tmod_eq_emod_of_nonneg hm0
  obtain ⟨N, hN⟩ : ∃ N, N = 1 + most % 255 := ⟨_, rfl⟩
  have e4 : IntKind.wrap .i64 (1 + most % 255) = N := by rw [hN]; exact wrap64_in (by omega) (by omega)
  have e5 : IntKind.wrap .i64 (N + 1) = N + 1 := wrap64_in (by omega) (by omega)
  have e6 : init.tmod (N + 1) = init % (N + 1) := Int.tmod_eq_emod_of_nonneg hi0
  have hF0 : 0 ≤ init % (N + 1) := Int.emod_nonneg _ (by omega)
  have hF1 : init % (N + 1) < N + 1 := Int.emod_lt_of_pos _ (by omega)
  obtain ⟨F, hF⟩ : ∃ F, F = init % (N + 1) := ⟨_, rfl⟩
  rw [e1, e2, e3, e4, e5, e6, ← hF]
  rw [← hF] at hF0 hF1
  refine ⟨by omega, by omega, ?_⟩
  refine Calls.ret (sema_New_sp H F N) ?_
  rintro v w1 ⟨_, hv⟩
  obtain ⟨sb, rfl, H⟩ := hv (by unfold semaBad; omega)
  refine ⟨_, _, rfl, ?_⟩
  refine Calls.ret (awake15_sp H) ?_
  rintro v w2 ⟨rfl, H⟩
  refine ⟨_, rfl, br_f rfl (br_f rfl (br_f rfl ?_))⟩
  refine ⟨fun n in_ more i w' => ∃ (k : Nat) (s : SS), i = k ∧ k ≤ 80 ∧ n = 80 - k ∧ s.fit k ∧ s.most = N ∧ s.calm ∧ 0 ≤ more ∧ more ≤ k ∧ in_ + s.count = F + more ∧ St w0 (hpOf w0) w' [sema sb s],
    ⟨_, 0, ⟨LS.new, F, N⟩, rfl, by omega, rfl, ⟨LS.new_fit 0, by show 0 ≤ F; omega, by show F ≤ N; omega, by show N ≤ 255; omega⟩, rfl, fun _ => rfl, by omega, by omega, by show 0 + F = F + 0; omega, H⟩, ?_⟩
  rintro n9 dead w5 in_ more i ⟨k, s, rfl, hk, rfl, hf, hN', hca, hmo0, hmo1, hsum, H⟩
  unfold purlinlaw15_SemaSums.L0
  refine br_dec (fun hlt => br_dec (fun hlt2 => ?_) fun _ => ⟨rfl, H.fin hm⟩) fun _ => ⟨rfl, H.fin hm⟩
  have hlt : k < xs.length := by omega
  have hlt2 : k < 80 := by omega
  have c0 := hf.c0
  have cm := hf.cm
  obtain ⟨x, hxk⟩ : ∃ x, xs[k]? = some x := ⟨xs[k], by simp [hlt]⟩
  have hxe : xs[k] = x := by have h := hxk; rw [List.getElem?_eq_getElem hlt] at h; exact Option.some.inj h
  refine ⟨by omega, by omega, ?_⟩
  obtain ⟨ab, ao, rfl, hcell⟩ := (H.sli hx) k _ hxk
  simp only [okP_some, pb_some, po_some, toNat_nat]
  refine ⟨_, hcell 0 _ rfl, _, hcell 1 _ rfl, _, hcell 2 _ rfl, _, hcell 3 _ rfl, ?_⟩
  refine H.new fun b1 w H => H.st fun w H => ⟨_, H.ld, ?_⟩
  have fin : ∀ (w9 : World) (s' : SS) (in2 more2 : Int), s'.fit (k + 1) → s'.most = N → s'.calm → 0 ≤ more2 → more2 ≤ k + 1 → in2 + s'.count = F + more2 → St w0 (hpOf w0) w9 [sema sb s'] →
      purlinlaw15_SemaSums.K0 init most (fun v w' => v = .bool true ∧ Ch [] w0 w') (some ⟨sb, 0, none⟩) k
        (fun x0 x1 x2 w9 => ∃ m, m < 80 - k ∧ ∃ (k : Nat) (s : SS), x2 = k ∧ k ≤ 80 ∧ m = 80 - k ∧ s.fit k ∧ s.most = N ∧ s.calm ∧ 0 ≤ x1 ∧ x1 ≤ k ∧ x0 + s.count = F + x1 ∧ St w0 (hpOf w0) w9 [sema sb s]) in2 more2 w9 := by
    intro w9 s' in2 more2 hf' hN2 hca' hm0' hm1' hsum' H
    have d0 := hf'.c0
    have dm := hf'.cm
    unfold purlinlaw15_SemaSums.K0
    rw [e1, e2, e3, e4, e5, e6, ← hF]
    have ww1 : IntKind.wrap .i64 (in2 + s'.count) = in2 + s'.count := wrap64_in (by omega) (by omega)
    have ww2 : IntKind.wrap .i64 (F + more2) = F + more2 := wrap64_in (by omega) (by omega)
    refine Calls.ret (sema_Count_sp H) ?_
    rintro v w1 ⟨rfl, rfl⟩
    refine ⟨_, rfl, br_f (by simpa using d0) ?_⟩
    refine Calls.ret (sema_Count_sp H) ?_
    rintro v w1 ⟨rfl, rfl⟩
    refine ⟨_, rfl, br_f (by simp; omega) ?_⟩
    try simp only [okP_some]
    obtain ⟨lb, hc, hd⟩ := se_List H hf'.l (by omega)
    refine ⟨_, hc, ?_⟩
    refine Calls.ret hd ?_
    rintro v w2 ⟨a2, c2, rfl, H⟩
    refine ⟨_, _, _, rfl, ?_⟩
    have H := H.drop
    have done : ∃ m, m < 80 - k ∧ ∃ (k_1 : Nat) (s : SS), IntKind.wrap .i64 ((k : Int) + 1) = k_1 ∧ k_1 ≤ 80 ∧ m = 80 - k_1 ∧ s.fit k_1 ∧ s.most = N ∧ s.calm ∧ 0 ≤ more2 ∧ more2 ≤ k_1 ∧ in2 + s.count = F + more2 ∧ St w0 (hpOf w0) w2 [sema sb s] :=
      ⟨80 - (k + 1), by omega, k + 1, s', wrapk1 (by omega), by omega, rfl, hf', hN2, hca', hm0', by omega, hsum', H⟩
    refine br_dec (fun hl => ?_) fun hl => ?_
    · have hz : ¬ 0 < s'.count := fun h => by
        have := list_nil (hca' h)
        rw [this] at hl; simp at hl
      refine Calls.ret (sema_Count_sp H) ?_
      rintro v w3 ⟨rfl, rfl⟩
      refine ⟨_, rfl, br_f (by simp; omega) ?_⟩
      refine Calls.ret (sema_Count_sp H) ?_
      rintro v w3 ⟨rfl, rfl⟩
      exact ⟨_, rfl, br_f (by rw [ww1, ww2, hsum']; simp) done⟩
    · refine Calls.ret (sema_Count_sp H) ?_
      rintro v w3 ⟨rfl, rfl⟩
      exact ⟨_, rfl, br_f (by rw [ww1, ww2, hsum']; simp) done⟩
  have wi : IntKind.wrap .i64 (in_ + 1) = in_ + 1 := wrap64_in (by omega) (by omega)
  have wm : IntKind.wrap .i64 (more + 1) = more + 1 := wrap64_in (by omega) (by omega)
  refine br_intro (fun h0 => ?_) fun h0 => br_intro (fun h1 => ?_) fun h1 => br_intro (fun h2 => ?_) fun h2 => br_intro (fun h3 => ?_) fun h3 => ?_
  · refine ⟨_, H.ld, _, H.ld, _, H.ld, ?_⟩
    refine Calls.ret (sema_Wait_sp H.at_ hf (by omega) x.id x.prio x.until_) ?_
    rintro v w2 ⟨rfl, H⟩
    refine ⟨_, _, rfl, ?_⟩
    have hmst : (s.wait x.id x.prio x.until_).most = s.most := by unfold SS.wait; split; rfl; split; rfl; split <;> rfl
    refine br_intro (fun hb => ?_) fun hb => ?_
    · unfold SS.waitB at hb
      simp only [Bool.and_eq_true, decide_eq_true_eq] at hb
      have hE : s.waitE x.id x.prio x.until_ = 0 := by unfold SS.waitE; rw [if_neg (by simp [hb.1]), if_pos (.inl hb.2)]
      have hC : (s.wait x.id x.prio x.until_).count = s.count - 1 := by unfold SS.wait; rw [if_neg (by simp [hb.1]), if_pos hb.2]
      refine br_f (by rw [hE]; rfl) ?_
      rw [wi]
      exact fin _ _ _ _ (hf.wait _ _ _) (by rw [hmst]; exact hN') (scalm_wait hca _ _ _) hmo0 (by omega) (by rw [hC]; omega) H.re
    · have hC : (s.wait x.id x.prio x.until_).count = s.count := by
        unfold SS.waitB at hb
        unfold SS.wait
        split
        · rfl
        split
        · rename_i h1 h2
          have h1 : s.l.err x.id x.prio (-1) = 0 := by omega
          simp [h1, h2] at hb
        split <;> rfl
      exact fin _ _ _ _ (hf.wait _ _ _) (by rw [hmst]; exact hN') (scalm_wait hca _ _ _) hmo0 (by omega) (by rw [hC]; omega) H.re
  · refine Calls.ret (sema_Signal_sp H.at_ hf (by omega)) ?_
    rintro v w2 ⟨rfl, H⟩
    refine ⟨_, _, _, rfl, ?_⟩
    have hmst : s.sig.most = s.most := by unfold SS.sig; split; rfl; split <;> rfl
    have hca' := scalm_sig hca
    have hf' := hf.sig.mono (Nat.le_succ k)
    by_cases hh : s.l.list.head?.isSome = true
    · have hE : s.sigE = 0 := by unfold SS.sigE; rw [if_pos hh]
      have hC : s.sig.count = s.count := by unfold SS.sig; rw [if_pos hh]
      rw [hE]
      refine br_t rfl (br_t hh ?_)
      rw [wi, wm]
      exact fin _ _ _ _ hf' (by rw [hmst]; exact hN') hca' (by omega) (by omega) (by rw [hC]; omega) H.re
    · have hB : s.sigB = false := by unfold SS.sigB; simpa using hh
      by_cases hc : s.count = s.most
      · have hE : s.sigE = 151 := by unfold SS.sigE; rw [if_neg hh, if_pos hc]
        have hC : s.sig.count = s.count := by unfold SS.sig; rw [if_neg hh, if_pos hc]
        rw [hE]
        refine br_f rfl (br_f hB ?_)
        exact fin _ _ _ _ hf' (by rw [hmst]; exact hN') hca' (by omega) (by omega) (by rw [hC]; omega) H.re
      · have hE : s.sigE = 0 := by unfold SS.sigE; rw [if_neg hh, if_neg hc]
        have hC : s.sig.count = s.count + 1 := by unfold SS.sig; rw [if_neg hh, if_neg hc]
        rw [hE]
        refine br_t rfl (br_f hB ?_)
        rw [wm]
        exact fin _ _ _ _ hf' (by rw [hmst]; exact hN') hca' (by omega) (by omega) (by rw [hC]; omega) H.re
  · refine H.drw fun w H => ?_
    try simp only [okP_some]
    obtain ⟨lb, hc, hd⟩ := se_Drop (H.at_ (A := sema sb s)) x.id
    refine ⟨_, hc, _, H.ld, ?_⟩
    refine Calls.ret hd ?_
    rintro v w2 ⟨rfl, H⟩
    refine ⟨_, rfl, ?_⟩
    exact fin _ _ _ _ ((hf.drop _).mono (by omega)) hN' (scalm_drop hca x.id) hmo0 (by omega) hsum H.re
  · refine H.drw fun w H => ?_
    try simp only [okP_some]
    obtain ⟨lb, hc, hd⟩ := se_Expire (H.at_ (A := sema sb s)) hf.l (by omega) x.until_
    refine ⟨_, hc, _, H.ld, ?_⟩
    refine Calls.ret hd ?_
    rintro v w2 ⟨a3, c3, rfl, H⟩
    refine ⟨_, _, _, _, rfl, ?_⟩
    exact fin _ _ _ _ ((hf.exp _).mono (by omega)) hN' (scalm_exp hca x.until_) hmo0 (by omega) hsum H.re
  · exact fin _ s _ _ (hf.mono (by omega)) hN' hca hmo0 (by omega) hsum H.re
end Go.Proofs.Ytecacohkkdhphaa
