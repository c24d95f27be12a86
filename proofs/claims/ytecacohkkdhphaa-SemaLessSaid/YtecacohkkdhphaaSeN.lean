/- Semaphores: SemaOrder returns true. Conditions: none. -/
import Derived.Test.YtecacohkkdhphaaSeB
import Derived.Test.YtecacohkkdhphaaEvP
namespace Go.Proofs.Ytecacohkkdhphaa
open Go.Vc
set_option linter.unusedSimpArgs false
set_option linter.unusedVariables false
set_option maxRecDepth 100000

theorem sOf_fit {l : LS} {n : Nat} (h : l.fit n) : (SS.mk l 0 255).fit n := ⟨h, Int.le_refl _, by show (0 : Int) ≤ 255; decide, by show (255 : Int) ≤ 255; decide⟩
theorem head_drop {l : List Int} {k : Nat} {x : Int} (h : l[k]? = some x) : (l.drop k).head? = some x := by
  rw [List.head?_drop]; exact h
theorem SemaOrder_any {w0 : World} {a : Option Addr} {c : Nat} {pr : List Int} {sg : Int} (hs0 : 0 ≤ sg) (hs1 : sg < 256) (hx : SlR (Enc.int .u8) w0 a pr) (hq : ∀ p ∈ pr, 0 ≤ p ∧ p < 256) :
    Calls Try.prog 9 #[.slice a pr.length c, .int .u8 sg] w0 (Ret fun v w' => v = .bool true ∧ Ch [] w0 w') := by
  have H := St.init w0
  have hx := hx.sli
  have hm := hle_refl (hpOf w0)
  apply purlinlaw15_SemaOrder.calls
  unfold purlinlaw15_SemaOrder.F
  refine Calls.ret (sema_New_sp H 0 255) ?_
  rintro v w1 ⟨_, hv⟩
  obtain ⟨sb, rfl, H⟩ := hv (by decide)
  refine ⟨_, _, rfl, ?_⟩
  refine Calls.ret (awake15_sp H) ?_
  rintro v w2 ⟨rfl, H⟩
  refine ⟨_, rfl, br_f rfl (br_f rfl (br_f rfl ?_))⟩
  have hget : ∀ (k : Nat) (x : Int), pr[k]? = some x → 0 ≤ x ∧ x < 256 := fun k x h => hq x (List.mem_of_getElem? h)
  have esg : IntKind.wrap .i64 sg = sg := wrap64_in (by omega) (by omega)
  refine ⟨fun n i w' => ∃ k : Nat, i = k ∧ k ≤ pr.length ∧ k ≤ 80 ∧ n = 80 - k ∧ St w0 (hpOf w0) w' [sema sb ⟨lineC pr k, 0, 255⟩], ⟨_, 0, rfl, by omega, by omega, rfl, H⟩, ?_⟩
  rintro n9 dead w5 i ⟨k, rfl, hk, hk8, rfl, H⟩
  unfold purlinlaw15_SemaOrder.L0
  have tail : (k = pr.length ∨ k = 80) → purlinlaw15_SemaOrder.K0 a pr.length sg (fun v w' => v = .bool true ∧ Ch [] w0 w') (some ⟨sb, 0, none⟩) w5 := by
    intro hend
    unfold purlinlaw15_SemaOrder.K0
    have hfit : (SS.mk (lineC pr k) 0 255).fit k := sOf_fit (lineC_fit hk (by omega))
    obtain ⟨L, hL⟩ : ∃ L, L = (lineC pr k).list := ⟨_, rfl⟩
    have hLl : L.length = k := by rw [hL, list_len]; simp [lineC, comers]
    refine ⟨fun n last at_ i w' => ∃ (j : Nat) (s : SS), i = j ∧ j ≤ k ∧ n = k - j ∧ s.fit k ∧ s.l.list = L.drop j ∧ St w0 (hpOf w0) w' [sema sb s] ∧
        ((j = 0 ∧ last = 64 ∧ at_ = -1) ∨ ∃ (j' q : Nat), j = j' + 1 ∧ L[j']? = some (q : Int) ∧ at_ = q ∧ q < k ∧ last = pr[q]?.getD 0 % 64),
      ⟨_, 0, _, rfl, by omega, rfl, hfit, by rw [hL]; rfl, H, .inl ⟨rfl, rfl, rfl⟩⟩, ?_⟩
    rintro n9 dead w6 last at_ i ⟨j, s, rfl, hj, rfl, hf, hl, H, hlast⟩
    unfold purlinlaw15_SemaOrder.L1
    rw [esg]
    refine br_dec (fun h1 => br_dec (fun h2 => br_dec (fun h3 => ?_) fun _ => ⟨rfl, H.fin hm⟩) fun _ => ⟨rfl, H.fin hm⟩) fun _ => ⟨rfl, H.fin hm⟩
    have hjk : j < k := by omega
    obtain ⟨A, hA⟩ : ∃ A, L[j]? = some A := ⟨_, List.getElem?_eq_getElem (by omega)⟩
    have hhead : s.l.list.head? = some A := by rw [hl]; exact head_drop hA
    refine Calls.ret (sema_Signal_sp H hf (by omega)) ?_
    rintro v w7 ⟨rfl, H⟩
    have hI : s.sigI = A := by unfold SS.sigI; rw [hhead]; rfl
    have hB : s.sigB = true := by unfold SS.sigB; rw [hhead]; rfl
    have hE : s.sigE = 0 := by unfold SS.sigE; rw [hhead]; rfl
    have hS : s.sig = ⟨s.l.taken, s.count, s.most⟩ := by unfold SS.sig; rw [hhead]; rfl
    have hl2 : s.sig.l.list = L.drop (j + 1) := by rw [hS]; show s.l.taken.list = _; rw [taken_list hf.l.ok, hl, List.tail_drop]
    rw [hI, hB, hE]
    have hmem : A ∈ L := List.mem_of_getElem? hA
    obtain ⟨q, hq, hAq⟩ : ∃ q : Nat, q < k ∧ A = (q : Int) := by
      rw [hL] at hmem
      obtain ⟨x, hx, he⟩ := LS.has_iff.1 (mem_list.1 hmem)
      obtain ⟨q, hq, rfl⟩ := mem_comers.1 hx
      exact ⟨q, hq, he.symm⟩
    subst hAq
    refine ⟨_, _, _, rfl, br_f rfl (br_f rfl (br_f (by simp) (br_f (by simp; omega) ?_)))⟩
    obtain ⟨p, hp⟩ : ∃ p, pr[q]? = some p := ⟨_, List.getElem?_eq_getElem (by omega)⟩
    obtain ⟨p0, p1⟩ := hget q p hp
    refine ⟨by omega, by omega, ?_⟩
    obtain ⟨ab, ao, rfl, hcell⟩ := (H.sli hx) q _ hp
    simp only [okP_some, pb_some, po_some, toNat_nat]
    refine ⟨_, hcell 0 _ rfl, ?_⟩
    rw [and63 p0 p1, wrap63]
    have hpq : pr[q]?.getD 0 % 64 = p % 64 := by rw [hp]; rfl
    have hk1 : IntKind.wrap .i64 ((j : Int) + 1) = ((j + 1 : Nat) : Int) := by rw [← Int.natCast_succ, wrap64_nat (by omega)]
    have done : ∃ m, m < k - j ∧ ∃ (j_1 : Nat) (s : SS), IntKind.wrap .i64 ((j : Int) + 1) = j_1 ∧ j_1 ≤ k ∧ m = k - j_1 ∧ s.fit k ∧ s.l.list = L.drop j_1 ∧ St w0 (hpOf w0) w7 [sema sb s] ∧
        ((j_1 = 0 ∧ p % 64 = 64 ∧ (q : Int) = -1) ∨ ∃ (j' q_1 : Nat), j_1 = j' + 1 ∧ L[j']? = some (q_1 : Int) ∧ (q : Int) = q_1 ∧ q_1 < k ∧ p % 64 = pr[q_1]?.getD 0 % 64) :=
      ⟨k - (j + 1), by omega, j + 1, s.sig, hk1, by omega, rfl, hf.sig, hl2, H, .inr ⟨j, q, rfl, hA, rfl, hq, hpq.symm⟩⟩
    rcases hlast with ⟨rfl, rfl, rfl⟩ | ⟨j', q', rfl, hA', rfl, hq', rfl⟩
    · refine br_f (by simp; omega) (br_f (by simp; omega) done)
    · rw [hL] at hA hA' hLl
      obtain ⟨i1, i2, e1, e2, _, _, hij⟩ := lineC_sorted pr (n := k) (k := j') (by omega) hA' hA
      have e1 : q' = i1 := by omega
      have e2 : q = i2 := by omega
      subst e1; subst e2
      rw [hpq] at hij
      refine br_f (by simp; omega) (br_intro (fun he => br_f ?_ done) fun he => done)
      have he : p % 64 = pr[q']?.getD 0 % 64 := by simpa using he
      simp; omega
  refine br_dec (fun hlt => br_dec (fun hlt2 => ?_) fun h => tail (by omega)) fun h => tail (by omega)
  have hlt : k < pr.length := by omega
  have hlt2 : k < 80 := by omega
  clear tail
  obtain ⟨x, hxk⟩ : ∃ x, pr[k]? = some x := ⟨pr[k], by simp [hlt]⟩
  have hxe : pr[k] = x := by have h := hxk; rw [List.getElem?_eq_getElem hlt] at h; exact Option.some.inj h
  obtain ⟨h0, h1⟩ := hget k x hxk
  have hpx : pr[k]?.getD 0 % 64 = x % 64 := by rw [hxk]; rfl
  refine ⟨by omega, by omega, ?_⟩
  obtain ⟨ab, ao, rfl, hcell⟩ := (H.sli hx) k _ hxk
  simp only [okP_some, pb_some, po_some, toNat_nat]
  refine ⟨_, hcell 0 _ rfl, ?_⟩
  rw [and63 h0 h1, wrap63, ← hpx]
  have hfit : (SS.mk (lineC pr k) 0 255).fit k := sOf_fit (lineC_fit hk (by omega))
  refine Calls.ret (sema_Wait_sp H hfit (by omega) k (pr[k]?.getD 0 % 64) (-1)) ?_
  rintro v w6 ⟨rfl, H⟩
  have he := lineC_err (pr := pr) (k := k) (by omega) hlt
  have e1 : (SS.mk (lineC pr k) 0 255).waitB k (pr[k]?.getD 0 % 64) = false := by simp [SS.waitB]
  have e2 : (SS.mk (lineC pr k) 0 255).waitE k (pr[k]?.getD 0 % 64) (-1) = 0 := by simp [SS.waitE, he]
  have e3 : (SS.mk (lineC pr k) 0 255).wait k (pr[k]?.getD 0 % 64) (-1) = ⟨lineC pr (k + 1), 0, 255⟩ := by
    unfold SS.wait
    rw [if_neg (by simp [he]), if_neg (show ¬ (0 : Int) < 0 by decide), if_neg (show ¬ (-1 : Int) = 0 by decide), lineC_put (by omega) hlt]
  rw [e3] at H
  rw [e1, e2]
  refine ⟨_, _, rfl, br_f rfl (br_f rfl ?_)⟩
  have hk1 : IntKind.wrap .i64 ((k : Int) + 1) = ((k + 1 : Nat) : Int) := by rw [← Int.natCast_succ, wrap64_nat (by omega)]
  exact ⟨80 - (k + 1), by omega, k + 1, hk1, by omega, by omega, rfl, H⟩
end Go.Proofs.Ytecacohkkdhphaa
