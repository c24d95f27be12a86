/- Semaphores: SemaLess returns true. Conditions: none. -/
import Derived.Test.YtecacohkkdhphaaSeN
namespace Go.Proofs.Ytecacohkkdhphaa
open Go.Vc
set_option linter.unusedSimpArgs false
set_option linter.unusedVariables false
set_option maxRecDepth 100000

/-- Up to when the i-th waits. -/
def upto (us : List Int) (i : Nat) : Int := if 0 < us[i]?.getD 0 then us[i]?.getD 0 else -1
def waiters (us : List Int) (k : Nat) : List Wt := (List.range k).map fun (i : Nat) => (⟨(i : Int), 5, upto us i, (i : Int) + 1⟩ : Wt)
def lineU (us : List Int) (k : Nat) : LS := ⟨waiters us k, k, 0⟩
theorem waiters_succ (us : List Int) (k : Nat) : waiters us (k + 1) = waiters us k ++ [⟨k, 5, upto us k, k + 1⟩] := by
  unfold waiters; rw [List.range_succ, List.map_append]; rfl
theorem mem_waiters {us : List Int} {k : Nat} {x : Wt} : x ∈ waiters us k ↔ ∃ i : Nat, i < k ∧ x = ⟨i, 5, upto us i, i + 1⟩ := by
  unfold waiters
  rw [List.mem_map]
  constructor
  · rintro ⟨i, hi, rfl⟩; exact ⟨i, List.mem_range.1 hi, rfl⟩
  · rintro ⟨i, hi, rfl⟩; exact ⟨i, List.mem_range.2 hi, rfl⟩
theorem upto_cases (us : List Int) (hq : ∀ p ∈ us, 0 ≤ p ∧ p < 256) (i : Nat) : upto us i = -1 ∨ (1 ≤ upto us i ∧ upto us i < 256) := by
  unfold upto
  split
  · rename_i h
    right
    cases hu : us[i]? with
    | none => rw [hu] at h; simp at h
    | some x =>
      have := hq x (List.mem_of_getElem? hu)
      rw [hu] at h
      simp at h ⊢; omega
  · exact .inl rfl
theorem lineU_err {us : List Int} (hq : ∀ p ∈ us, 0 ≤ p ∧ p < 256) {k : Nat} (hk : k < 60000) {u : Int} (hu : u = -1 ∨ (1 ≤ u ∧ u < 256)) : (lineU us k).err k 5 u = 0 := by
  unfold LS.err
  rw [if_neg (by omega), if_neg (by omega), if_neg, if_neg]
  · intro hh
    obtain ⟨x, hx, he⟩ := LS.has_iff.1 hh
    obtain ⟨i, hi, rfl⟩ := mem_waiters.1 hx
    simp at he; omega
  · show ¬ (u ≠ -1 ∧ (u ≤ 0 ∨ 1099511627776 < u)); omega
theorem lineU_put {us : List Int} (hq : ∀ p ∈ us, 0 ≤ p ∧ p < 256) {k : Nat} (hk : k < 60000) : (lineU us k).put k 5 (upto us k) = lineU us (k + 1) := by
  unfold LS.put; rw [if_pos (lineU_err hq hk (upto_cases us hq k))]
  unfold LS.add lineU
  rw [waiters_succ]
  simp
theorem lineU_fit {us : List Int} (hq : ∀ p ∈ us, 0 ≤ p ∧ p < 256) : ∀ {k : Nat}, k ≤ 60000 → (lineU us k).fit k
  | 0, _ => LS.new_fit 0
  | k + 1, h => by rw [← lineU_put hq (by omega)]; exact (lineU_fit hq (by omega)).put _ _ _
/-- All of one priority: the list is as they came. -/
theorem list_asc {s : LS} (hok : s.ok) (h5 : ∀ x ∈ s.ws, x.prio = 5) : s.list = s.ws.map (·.id) := by
  unfold LS.list
  rw [← ordL_eq hok.came_ (List.Perm.refl _)]
  refine hok.asc.imp_of_mem ?_
  intro a b ha hb hab
  have := h5 a ha
  have := h5 b hb
  simp [leO]; omega
/-- Those numbers from k on that hold. -/
def left_ (n : Nat) (p : Nat → Bool) (k : Nat) : List Int := ((List.range n).filter (fun i => p i && decide (k ≤ i))).map fun (i : Nat) => (i : Int)
theorem filter_range_skip {n k : Nat} {p : Nat → Bool} (h : p k = false ∨ n ≤ k) : (List.range n).filter (fun i => p i && decide (k ≤ i)) = (List.range n).filter (fun i => p i && decide (k + 1 ≤ i)) := by
  refine List.filter_congr fun i hi => ?_
  have := List.mem_range.1 hi
  by_cases hik : i = k
  · subst hik
    rcases h with h | h
    · simp [h]
    · omega
  · have : decide (k ≤ i) = decide (k + 1 ≤ i) := by by_cases h : k ≤ i <;> simp [h] <;> omega
    rw [this]
theorem filter_range_take {n k : Nat} {p : Nat → Bool} (h : p k = true) (hk : k < n) : (List.range n).filter (fun i => p i && decide (k ≤ i)) = k :: (List.range n).filter (fun i => p i && decide (k + 1 ≤ i)) := by
  have e : List.range n = List.range k ++ (k :: (List.range' (k + 1) (n - (k + 1)))) := by
    rw [List.range_eq_range', List.range_eq_range']
    have h1 : n = k + ((n - (k + 1)) + 1) := by omega
    conv => lhs; rw [h1, ← List.range'_append_1]
    rw [Nat.zero_add, List.range'_succ]
  rw [e, List.filter_append, List.filter_append, List.filter_cons, List.filter_cons]
  have z : ∀ j, (List.range k).filter (fun i => p i && decide (k + j ≤ i)) = [] := fun j => by
    rw [List.filter_eq_nil_iff]; intro i hi; have := List.mem_range.1 hi; simp; omega
  have z0 := z 0
  have z1 := z 1
  rw [Nat.add_zero] at z0
  rw [z0, z1]
  simp only [h, Nat.le_refl, decide_true, Bool.and_self, if_true, List.nil_append]
  have : decide (k + 1 ≤ k) = false := by simp
  rw [this]
  simp only [Bool.and_false, Bool.false_eq_true, if_false]
  congr 1
  refine List.filter_congr fun i hi => ?_
  have hi : k + 1 ≤ i := by have := List.mem_range'_1.1 hi; omega
  simp [hi]; omega
theorem left_skip {n k : Nat} {p : Nat → Bool} (h : p k = false ∨ n ≤ k) : left_ n p k = left_ n p (k + 1) := by unfold left_; rw [filter_range_skip h]
theorem left_take {n k : Nat} {p : Nat → Bool} (h : p k = true) (hk : k < n) : left_ n p k = (k : Int) :: left_ n p (k + 1) := by unfold left_; rw [filter_range_take h hk]; rfl
theorem left_end (n : Nat) (p : Nat → Bool) : left_ n p n = [] := by
  unfold left_
  have : (List.range n).filter (fun i => p i && decide (n ≤ i)) = [] := by
    rw [List.filter_eq_nil_iff]; intro i hi; have := List.mem_range.1 hi; simp; omega
  rw [this]; rfl

theorem SemaLess_any {w0 : World} {a : Option Addr} {c : Nat} {us : List Int} {drop now : Int} (hd0 : 0 ≤ drop) (hd1 : drop < 256) (hn0 : 0 ≤ now) (hn1 : now < 256) (hx : SlR (Enc.int .u8) w0 a us) (hq : ∀ p ∈ us, 0 ≤ p ∧ p < 256) :
    Calls Try.prog 15 #[.slice a us.length c, .int .u8 drop, .int .u8 now] w0 (Ret fun v w' => v = .bool true ∧ Ch [] w0 w') := by
  have H := St.init w0
  have hx := hx.sli
  have hm := hle_refl (hpOf w0)
  apply purlinlaw15_SemaLess.calls
  unfold purlinlaw15_SemaLess.F
  refine Calls.ret (sema_New_sp H 0 255) ?_
  rintro v w1 ⟨_, hv⟩
  obtain ⟨sb, rfl, H⟩ := hv (by decide)
  refine ⟨_, _, rfl, ?_⟩
  refine Calls.ret (awake15_sp H) ?_
  rintro v w2 ⟨rfl, H⟩
  refine ⟨_, rfl, br_f rfl (br_f rfl (br_f rfl ?_))⟩
  refine br_dec (fun h => ?_) fun hl => ?_
  · refine Calls.ret (awake15_sp H) ?_
    rintro v w3 ⟨rfl, H⟩
    exact ⟨_, rfl, rfl, H.fin hm⟩
  have hl : us.length ≤ 40 := by omega
  have hget : ∀ (k : Nat) (x : Int), us[k]? = some x → 0 ≤ x ∧ x < 256 := fun k x h => hq x (List.mem_of_getElem? h)
  have enow : IntKind.wrap .i64 now = now := wrap64_in (by omega) (by omega)
  have edrop : IntKind.wrap .i64 drop = drop := wrap64_in (by omega) (by omega)
  refine ⟨fun n i w' => ∃ k : Nat, i = k ∧ k ≤ us.length ∧ n = us.length - k ∧ St w0 (hpOf w0) w' [sema sb ⟨lineU us k, 0, 255⟩], ⟨_, 0, rfl, by omega, rfl, H⟩, ?_⟩
  rintro n9 dead w5 i ⟨k, rfl, hk, rfl, H⟩
  unfold purlinlaw15_SemaLess.L0
  refine br_dec (fun hlt => ?_) fun hge => ?_
  · have hlt : k < us.length := by omega
    obtain ⟨x, hxk⟩ : ∃ x, us[k]? = some x := ⟨us[k], by simp [hlt]⟩
    have hxe : us[k] = x := by have h := hxk; rw [List.getElem?_eq_getElem hlt] at h; exact Option.some.inj h
    obtain ⟨h0, h1⟩ := hget k x hxk
    have hsf : (SS.mk (lineU us k) 0 255).fit k := sOf_fit (lineU_fit hq (by omega))
    have after : ∀ {w : World} (u : Int), u = upto us k → St w0 (hpOf w0) w [sema sb ⟨lineU us k, 0, 255⟩] →
        Calls Try.prog 37 #[.pointer (some ⟨sb, 0, none⟩), .int .i64 k, .int .i64 5, .int .i64 u] w (fun e w8 => ∃ t63 : Bool, ∃ t631 : Int, e = .returned (.tuple #[.bool t63, .int .i64 t631]) ∧
          br t63 (Value.bool false = .bool true ∧ Ch [] w0 w8) (br (t631 != 0) (Value.bool false = .bool true ∧ Ch [] w0 w8)
            (∃ m, m < us.length - k ∧ ∃ k_1 : Nat, IntKind.wrap .i64 ((k : Int) + 1) = k_1 ∧ k_1 ≤ us.length ∧ m = us.length - k_1 ∧ St w0 (hpOf w0) w8 [sema sb ⟨lineU us k_1, 0, 255⟩]))) := by
      intro w u hu H
      refine Calls.ret (sema_Wait_sp H hsf (by omega) k 5 u) ?_
      rintro v w6 ⟨rfl, H⟩
      have he1 := lineU_err (us := us) hq (k := k) (by omega) (u := -1) (.inl rfl)
      have he2 := lineU_err (us := us) hq (k := k) (by omega) (u := u) (by rw [hu]; exact upto_cases us hq k)
      have hu0 : u ≠ 0 := by rcases upto_cases us hq k with h | h <;> omega
      have e1 : (SS.mk (lineU us k) 0 255).waitB k 5 = false := by simp [SS.waitB]
      have e2 : (SS.mk (lineU us k) 0 255).waitE k 5 u = 0 := by unfold SS.waitE; simp [he1, he2]
      have e3 : (SS.mk (lineU us k) 0 255).wait k 5 u = ⟨lineU us (k + 1), 0, 255⟩ := by
        unfold SS.wait
        rw [if_neg (by simp [he1]), if_neg (show ¬ (0 : Int) < 0 by decide), if_neg hu0, hu, lineU_put hq (by omega)]
      rw [e3] at H
      rw [e1, e2]
      have hk1 : IntKind.wrap .i64 ((k : Int) + 1) = ((k + 1 : Nat) : Int) := by rw [← Int.natCast_succ, wrap64_nat (by omega)]
      exact ⟨_, _, rfl, br_f rfl (br_f rfl ⟨us.length - (k + 1), by omega, k + 1, hk1, by omega, rfl, H⟩)⟩
    refine ⟨by omega, by omega, ?_⟩
    obtain ⟨ab, ao, rfl, hcell⟩ := (H.sli hx) k _ hxk
    simp only [okP_some, pb_some, po_some, toNat_nat]
    refine ⟨_, hcell 0 _ rfl, ?_⟩
    refine br_dec (fun hpos => ?_) fun hpos => ?_
    · refine ⟨by omega, by omega, _, hcell 0 _ rfl, ?_⟩
      have ex : IntKind.wrap .i64 x = x := wrap64_in (by omega) (by omega)
      rw [ex]
      exact after x (by unfold upto; rw [hxk]; simp only [Option.getD_some]; rw [if_pos (by omega)]) H
    · exact after (-1) (by unfold upto; rw [hxk]; simp only [Option.getD_some]; rw [if_neg (by omega)]) H
  · have hke : k = us.length := by omega
    subst hke
    obtain ⟨n, hn⟩ : ∃ n, n = us.length := ⟨_, rfl⟩
    have hfU := lineU_fit (us := us) hq (k := us.length) (by omega)
    -- what is done behind the dropping of one, or of none
    have tail : ∀ {w : World} (g : Int) (s : LS), s.fit us.length → s.ws = (waiters us us.length).filter (fun x => x.id != g) → s.now = 0 → St w0 (hpOf w0) w [sema sb ⟨s, 0, 255⟩] →
        purlinlaw15_SemaLess.K1 a us.length now (fun v w' => v = .bool true ∧ Ch [] w0 w') (some ⟨sb, 0, none⟩) g w := by
      intro w g s hs hws hnow H
      unfold purlinlaw15_SemaLess.K1
      rw [enow]
      try simp only [okP_some]
      obtain ⟨lb, hc, hd⟩ := se_Expire H hs (by omega) now
      refine ⟨_, hc, ?_⟩
      refine Calls.ret hd ?_
      rintro v w3 ⟨a3, c3, rfl, H⟩
      have hlate : ¬ s.late now := by unfold LS.late; rw [hnow]; omega
      refine ⟨_, _, _, _, rfl, br_f (by show ((if s.late now then (144 : Int) else 0) != 0) = false; rw [if_neg hlate]; rfl) ?_⟩
      have H := H.drop
      obtain ⟨keep, hkeep⟩ : ∃ keep : Nat → Bool, keep = fun (i : Nat) => (((i : Nat) : Int) != g) && !(decide (upto us i ≠ -1) && decide (upto us i ≤ now)) := ⟨_, rfl⟩
      have hexp : (SS.mk s 0 255).exp now = ⟨s.stay now, 0, 255⟩ := by unfold SS.exp LS.exp; rw [if_neg hlate]
      rw [hexp] at H
      have hfs : (s.stay now).fit us.length := hs.stay now
      have hws2 : (s.stay now).ws = (waiters us us.length).filter (fun x => (x.id != g) && !(decide (x.until_ ≠ -1) && decide (x.until_ ≤ now))) := by
        show s.ws.filter _ = _
        rw [hws, List.filter_filter]
        refine List.filter_congr fun x _ => ?_
        rw [Bool.and_comm]
      have hlist : (s.stay now).list = left_ us.length keep 0 := by
        rw [list_asc hfs.ok, hws2]
        · unfold waiters left_
          rw [List.filter_map, List.map_map, hkeep]
          congr 1
          refine List.filter_congr fun i _ => ?_
          simp
        · intro x hx
          rw [hws2] at hx
          obtain ⟨i, _, rfl⟩ := mem_waiters.1 (List.mem_filter.1 hx).1
          rfl
      refine ⟨fun n i w' => ∃ (j : Nat) (s : SS), i = j ∧ j ≤ us.length ∧ n = us.length - j ∧ s.fit us.length ∧ s.count = 0 ∧ s.most = 255 ∧ s.l.list = left_ us.length keep j ∧ St w0 (hpOf w0) w' [sema sb s],
        ⟨_, 0, _, rfl, by omega, rfl, sOf_fit hfs, rfl, rfl, hlist, H⟩, ?_⟩
      rintro n9 dead w4 i ⟨j, s', rfl, hj, rfl, hf, hct, hmo, hll, H⟩
      unfold purlinlaw15_SemaLess.L1
      refine br_dec (fun hlt => ?_) fun hge => ?_
      · have hlt : j < us.length := by omega
        obtain ⟨x, hxk⟩ : ∃ x, us[j]? = some x := ⟨us[j], by simp [hlt]⟩
        have hxe : us[j] = x := by have h := hxk; rw [List.getElem?_eq_getElem hlt] at h; exact Option.some.inj h
        obtain ⟨h0, h1⟩ := hget j x hxk
        have hup : upto us j = if 0 < x then x else -1 := by unfold upto; rw [hxk]; rfl
        have hk1 : IntKind.wrap .i64 ((j : Int) + 1) = ((j + 1 : Nat) : Int) := by rw [← Int.natCast_succ, wrap64_nat (by omega)]
        have skip : keep j = false → ∃ m, m < us.length - j ∧ ∃ (j_1 : Nat) (s : SS), IntKind.wrap .i64 ((j : Int) + 1) = j_1 ∧ j_1 ≤ us.length ∧ m = us.length - j_1 ∧ s.fit us.length ∧ s.count = 0 ∧ s.most = 255 ∧ s.l.list = left_ us.length keep j_1 ∧ St w0 (hpOf w0) w4 [sema sb s] :=
          fun h => ⟨us.length - (j + 1), by omega, j + 1, s', hk1, by omega, rfl, hf, hct, hmo, by rw [hll, left_skip (.inl h)], H⟩
        have take : keep j = true → purlinlaw15_SemaLess.K0 (fun v w' => v = .bool true ∧ Ch [] w0 w') (some ⟨sb, 0, none⟩) j w4
            (fun x0 w9 => ∃ m, m < us.length - j ∧ ∃ (j : Nat) (s : SS), x0 = j ∧ j ≤ us.length ∧ m = us.length - j ∧ s.fit us.length ∧ s.count = 0 ∧ s.most = 255 ∧ s.l.list = left_ us.length keep j ∧ St w0 (hpOf w0) w9 [sema sb s]) := by
          intro h
          unfold purlinlaw15_SemaLess.K0
          rw [left_take h hlt] at hll
          refine Calls.ret (sema_Signal_sp H hf (by omega)) ?_
          rintro v w5 ⟨rfl, H⟩
          have hI : s'.sigI = j := by unfold SS.sigI; rw [hll]; rfl
          have hB : s'.sigB = true := by unfold SS.sigB; rw [hll]; rfl
          have hE : s'.sigE = 0 := by unfold SS.sigE; rw [hll]; rfl
          have hS : s'.sig = ⟨s'.l.taken, s'.count, s'.most⟩ := by unfold SS.sig; rw [hll]; rfl
          have hl2 : s'.sig.l.list = left_ us.length keep (j + 1) := by rw [hS]; show s'.l.taken.list = _; rw [taken_list hf.l.ok, hll]; rfl
          rw [hI, hB, hE]
          refine ⟨_, _, _, rfl, br_f (by simp) (br_f rfl (br_f rfl ?_))⟩
          exact ⟨us.length - (j + 1), by omega, j + 1, s'.sig, hk1, by omega, rfl, hf.sig, by rw [hS]; exact hct, by rw [hS]; exact hmo, hl2, H⟩
        refine br_intro (fun hg => skip ?_) fun hg => ?_
        · have hg : (j : Int) = g := by simpa using hg
          rw [hkeep]; simp [hg]
        · have hg : (j : Int) ≠ g := by simpa using hg
          refine ⟨by omega, by omega, ?_⟩
          obtain ⟨ab, ao, rfl, hcell⟩ := (H.sli hx) j _ hxk
          simp only [okP_some, pb_some, po_some, toNat_nat]
          refine ⟨_, hcell 0 _ rfl, ?_⟩
          refine br_dec (fun hpos => ⟨by omega, by omega, _, hcell 0 _ rfl, br_dec (fun hle => skip ?_) fun hle => take ?_⟩) fun hpos => take ?_
          · rw [hkeep]; simp only [hup]; rw [if_pos (by omega)]; simp [hg]; omega
          · rw [hkeep]; simp only [hup]; rw [if_pos (by omega)]; simp [hg]; omega
          · rw [hkeep]; simp only [hup]; rw [if_neg (by omega)]; simp [hg]
      · have hje : j = us.length := by omega
        subst hje
        rw [left_end] at hll
        refine Calls.ret (sema_Signal_sp H hf (by omega)) ?_
        rintro v w5 ⟨rfl, H⟩
        have hB : s'.sigB = false := by unfold SS.sigB; rw [hll]; rfl
        have hE : s'.sigE = 0 := by unfold SS.sigE; rw [hll, hct, hmo]; rfl
        have hC : s'.sig.count = 1 := by unfold SS.sig; rw [hll, hct, hmo]; rfl
        rw [hB, hE]
        refine ⟨_, _, _, rfl, br_t rfl (br_t rfl ?_)⟩
        refine Calls.ret (sema_Count_sp H) ?_
        rintro v w6 ⟨rfl, rfl⟩
        exact ⟨_, rfl, by rw [hC]; rfl, H.fin hm⟩
    rw [edrop]
    refine br_dec (fun hpos => ?_) fun hpos => ?_
    · have hpos : 0 < us.length := by omega
      refine ⟨by omega, ?_⟩
      have e1 : drop.tmod ((us.length : Nat) : Int) = drop % ((us.length : Nat) : Int) := Int.tmod_eq_emod_of_nonneg hd0
      have g0 : 0 ≤ drop % ((us.length : Nat) : Int) := Int.emod_nonneg _ (by omega)
      have g1 : drop % ((us.length : Nat) : Int) < ((us.length : Nat) : Int) := Int.emod_lt_of_pos _ (by omega)
      rw [e1]
      obtain ⟨g, hg⟩ := Int.eq_ofNat_of_zero_le g0
      rw [hg] at g1 ⊢
      try simp only [okP_some]
      obtain ⟨lb, hc, hd⟩ := se_Drop H (g : Int)
      refine ⟨_, hc, ?_⟩
      refine Calls.ret hd ?_
      rintro v w3 ⟨rfl, H⟩
      have hh : (lineU us us.length).has (g : Int) = true := LS.has_iff.2 ⟨_, mem_waiters.2 ⟨g, by omega, rfl⟩, rfl⟩
      refine ⟨_, rfl, br_f (by show ((if (lineU us us.length).has (g : Int) = true then (0 : Int) else 142) != 0) = false; rw [hh]; rfl) ?_⟩
      exact tail g _ (hfU.without _) rfl rfl H
    · have hz : us.length = 0 := by omega
      refine tail (-1) _ hfU ?_ rfl H
      show waiters us us.length = _
      rw [hz]; rfl
end Go.Proofs.Ytecacohkkdhphaa
