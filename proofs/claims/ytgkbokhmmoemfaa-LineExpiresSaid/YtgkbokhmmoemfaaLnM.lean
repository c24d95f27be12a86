/- Lines of those who wait: LineOrder returns true. Conditions: none. -/
import Derived.Test.YtgkbokhmmoemfaaLnL
namespace Go.Proofs.Ytgkbokhmmoemfaa
open Go.Vc
set_option linter.unusedSimpArgs false
set_option linter.unusedVariables false
set_option maxRecDepth 100000

/-- Those who came, with the time at which. -/
def ofC : List LCall → Nat → List Wt
  | [], _ => []
  | c :: r, n => ⟨c.id, c.prio, c.until_, ((n + 1 : Nat) : Int)⟩ :: ofC r (n + 1)
theorem ofC_snoc (l : List LCall) (c : LCall) : ∀ n, ofC (l ++ [c]) n = ofC l n ++ [⟨c.id, c.prio, c.until_, ((n + l.length + 1 : Nat) : Int)⟩] := by
  induction l with
  | nil => intro n; rfl
  | cons x r ih =>
    intro n
    have e : n + 1 + r.length + 1 = n + (x :: r).length + 1 := by simp; omega
    simp only [List.cons_append, ofC, ih, e]
theorem ofC_len (l : List LCall) : ∀ n, (ofC l n).length = l.length := by
  induction l with
  | nil => intro n; rfl
  | cons x r ih => intro n; simp [ofC, ih]
theorem ofC_get (l : List LCall) : ∀ (n j : Nat) (c : LCall), l[j]? = some c → (ofC l n)[j]? = some ⟨c.id, c.prio, c.until_, ((n + j + 1 : Nat) : Int)⟩ := by
  induction l with
  | nil => intro n j c h; simp at h
  | cons x r ih =>
    intro n j c h
    cases j with
    | zero => simp at h; subst h; rfl
    | succ j =>
      have := ih (n + 1) j c (by simpa using h)
      have e : n + 1 + j + 1 = n + (j + 1) + 1 := by omega
      rw [e] at this
      simpa [ofC] using this
theorem ofC_mem {l : List LCall} {x : Wt} (h : x ∈ ofC l 0) : ∃ (j : Nat) (c : LCall), l[j]? = some c ∧ x = ⟨c.id, c.prio, c.until_, ((j + 1 : Nat) : Int)⟩ := by
  obtain ⟨j, hj⟩ := List.getElem?_of_mem h
  have hlt := (List.getElem?_eq_some_iff.1 hj).1
  rw [ofC_len] at hlt
  have := ofC_get l 0 j l[j] (List.getElem?_eq_getElem hlt)
  rw [hj] at this
  exact ⟨j, l[j], List.getElem?_eq_getElem hlt, by rw [Option.some.inj this]; simp⟩

theorem elC : ElT Try.prog 50 55 encC 32 := by
  refine ⟨by kernel_rfl, ?_⟩
  have h : (Try.prog.info? 55).map (fun i => (i.zero.isSome, i.size, i.bytes, (i.zero.getD .nilIface).cells.size)) = some (true, 4, 32, 4) := by kernel_rfl
  cases hi : Try.prog.info? 55 with
  | none => rw [hi] at h; cases h
  | some i =>
    rw [hi] at h
    simp only [Option.map_some, Option.some.injEq, Prod.mk.injEq] at h
    obtain ⟨h1, h2, h3, h4⟩ := h
    obtain ⟨z, hz⟩ := Option.isSome_iff_exists.1 h1
    exact ⟨i, z, rfl, hz, h2, h3, by rw [hz] at h4; exact h4⟩

/-- At which place each one of the order came. -/
def ats (o : List Wt) : List Int := o.map fun x => x.came - 1

theorem LineOrder_any {w : World} {a : Option Addr} {c : Nat} {xs : List LCall} (hx : SlR encC w a xs) :
    Calls Try.prog 7 #[.slice a xs.length c] w (Ret fun v w' => v = .bool true ∧ Ch [] w w') := by
  apply purlinlaw14_LineOrder.calls
  unfold purlinlaw14_LineOrder.F
  refine Calls.ret line_New_any ?_
  rintro v w1 ⟨b, mb, rfl, hl1, hc1, hb, hmb⟩
  refine ⟨_, rfl, ?_⟩
  refine Calls.ret awake14_any ?_
  rintro v w2 ⟨rfl, hc2⟩
  refine ⟨_, rfl, br_f rfl (br_f rfl ?_)⟩
  have D : ∀ y ∈ [b, mb], y ∈ ([] : List Nat) ∨ w.heap.size ≤ y := by intro y hy; right; simp at hy; omega
  have hl2 := hl1.ch hc2 (by simp) (by simp)
  have hc02 := hc1.trans0 hc2
  have hlt2 := hl2.lt
  have z02 := hc02.size
  refine newBlk_row fun b3 w3 hb3 hs3 hr3 hc3 => ?_
  have hl3 := hl2.ch hc3 (by simp) (by simp)
  refine ⟨fun n ca cN cc i w' => ∃ (k : Nat) (cm : List LCall), i = k ∧ k ≤ 60 ∧ n = 60 - k ∧ cN = cm.length ∧ cm.length ≤ k ∧ LineRep w' b mb ⟨ofC cm 0, cm.length, 0⟩ ∧ (LS.mk (ofC cm 0) cm.length 0).ok ∧ Own encC 55 w2.heap.size w' ca cc cm ∧ Ch [b, mb] w2 w',
    ⟨_, 0, [], rfl, by omega, rfl, rfl, by simp, hl3, LS.new_ok, Own.row (E := encC) (xs := []) hr3 (by omega) (by simp), hc3.mono (by simp)⟩, ?_⟩
  rintro n dead w4 ca cN cc i ⟨k, cm, rfl, hk, rfl, rfl, hcm, hl4, hok4, ho4, hc4⟩
  have hc04 : Ch [] w w4 := hc02.trans hc4 D
  have tail : purlinlaw14_LineOrder.K1 (fun v w' => v = .bool true ∧ Ch [] w w') (some ⟨b, 0, none⟩) ca cm.length w4 := by
    unfold purlinlaw14_LineOrder.K1
    have hwl : (ofC cm 0).length = cm.length := ofC_len cm 0
    refine Calls.ret (line_List_any sortO hl4 hok4 (by show (ofC cm 0).length ≤ _; omega)) ?_
    rintro v w5 ⟨a5, c5, rfl, ho5, hc5⟩
    refine ⟨_, _, _, rfl, ?_⟩
    obtain ⟨o, hoo⟩ : ∃ o, o = ordL (ofC cm 0) := ⟨_, rfl⟩
    have hoperm : o.Perm (ofC cm 0) := by rw [hoo]; exact ordL_perm _
    have hosort : o.Pairwise (fun a b => leO a b = true) := by rw [hoo]; exact ordL_sorted _
    have hlist : (LS.mk (ofC cm 0) cm.length 0).list = o.map Wt.id := by rw [hoo]; rfl
    have hol : o.length = cm.length := by rw [hoperm.length_eq, hwl]
    rw [hlist] at ho5 ⊢
    refine br_f (by simp [hol]) ?_
    refine newBlk_row fun b6 w6 hb6 hs6 hr6 hc6 => ?_
    have z4 := hc4.size
    have z5 := hc5.size
    have ho6 := hc6.own ho5 (.inr (by simp))
    have hcm6 := (hc5.trans0 hc6).own ho4 (.inr (by simp))
    have hc06 := (hc04.trans0 hc5).trans0 hc6
    refine ⟨fun n ta tN tc i w' => ∃ k : Nat, i = k ∧ k ≤ o.length ∧ n = o.length - k ∧ tN = (ats (o.take k)).length ∧ Own (Enc.int .i64) 3 w5.heap.size w' ta tc (ats (o.take k)) ∧ Ch [] w5 w',
      ⟨_, 0, rfl, by omega, rfl, rfl, Own.row (E := Enc.int .i64) (xs := []) hr6 (by omega) (by simp), hc6⟩, ?_⟩
    rintro n dead w7 ta tN tc i ⟨k, rfl, hk, rfl, rfl, ho7, hc7⟩
    unfold purlinlaw14_LineOrder.L1
    have hlen60 : o.length ≤ 60 := by omega
    simp only [List.length_map]
    refine br_dec (fun hlt => ?_) fun hge => ⟨by trivial, (hc04.trans0 hc5).trans0 hc7⟩
    have hlt : k < o.length := by omega
    obtain ⟨x, hxk⟩ : ∃ x, o[k]? = some x := ⟨o[k], by simp [hlt]⟩
    have hxe : o[k] = x := by have h := hxk; rw [List.getElem?_eq_getElem hlt] at h; exact Option.some.inj h
    have hxm : x ∈ ofC cm 0 := hoperm.mem_iff.1 (List.mem_of_getElem? hxk)
    obtain ⟨j0, c0, hc0, hx0⟩ := ofC_mem hxm
    have hj0 := (List.getElem?_eq_some_iff.1 hc0).1
    have uniq : ∀ (j : Nat) (cj : LCall), cm[j]? = some cj → cj.id = x.id → j = j0 := by
      intro j cj hj he
      have h1 := List.mem_of_getElem? (ofC_get cm 0 j cj hj)
      have h2 := inj_of_nodup (f := fun y : Wt => y.id) hok4.ids h1 hxm he
      rw [hx0] at h2
      simp only [Wt.mk.injEq] at h2
      omega
    refine ⟨fun n ta tN tc i w' => ∃ j : Nat, i = j ∧ j ≤ cm.length ∧ n = cm.length - j ∧ tN = (ats (o.take k) ++ (if j0 < j then [(j0 : Int)] else [])).length ∧ Own (Enc.int .i64) 3 w5.heap.size w' ta tc (ats (o.take k) ++ (if j0 < j then [(j0 : Int)] else [])) ∧ Ch [] w5 w',
      ⟨_, 0, rfl, by omega, rfl, by simp, by simpa using ho7, hc7⟩, ?_⟩
    rintro n dead w8 ta tN tc i ⟨j, rfl, hj, rfl, rfl, ho8, hc8⟩
    unfold purlinlaw14_LineOrder.L2
    have hatl : (ats (o.take k)).length = k := by simp [ats]; omega
    refine br_dec (fun hltj => ?_) fun hgej => ?_
    · have hltj : j < cm.length := by omega
      refine drawC_intro fun w9 hc9 _ => ?_
      have hc59 := hc8.trans0 hc9
      obtain ⟨cj, hcj⟩ : ∃ cj, cm[j]? = some cj := ⟨cm[j], by simp [hltj]⟩
      have hj1 : IntKind.wrap .i64 ((j : Int) + 1) = ((j + 1 : Nat) : Int) := by rw [← Int.natCast_succ, wrap64_nat (by omega)]
      refine ⟨by omega, by omega, ?_⟩
      obtain ⟨ab, ao, rfl, hcell⟩ := ((hc5.trans0 hc59).own ho4 (.inr (by simp))).slr j cj hcj
      simp only [okP_some, pb_some, po_some, toNat_nat]
      refine ⟨_, hcell 1 _ rfl, by omega, by omega, ?_⟩
      obtain ⟨lb, lo, rfl, hcl⟩ := (hc59.own ho5 (.inr (by simp))).slr k x.id (by rw [List.getElem?_map, hxk]; rfl)
      simp only [okP_some, pb_some, po_some]
      refine ⟨_, hcl 0 _ rfl, ?_⟩
      refine br_intro (fun he => ?_) fun he => ?_
      · have he : cj.id = x.id := by simpa using he
        have hjj := uniq j cj hcj he
        subst hjj
        rw [if_neg (by omega)] at ho8
        simp only [List.append_nil] at ho8
        refine newBlk_row fun b10 w10 hb10 hs10 hr10 hc10 => ?_
        obtain ⟨a11, c11, w11, hrun11, ho11, hc11, _⟩ := append_new (P := Try.prog) (ty := 56) elI (hc59.trans0 hc10) ((hc9.trans0 hc10).own ho8 (.inr (by simp))) (ys := [(j : Int)]) (c2 := 1) (SlR.one (E := Enc.int .i64) (x := (j : Int)) hr10) (by simp [maxLen]; omega) (by simp; omega) (by have := (hc59.trans0 hc10).size; omega) (Nat.le_refl _)
        rw [if_neg (by omega)]
        simp only [List.append_nil]
        refine ⟨a11, _, c11, w11, hrun11, cm.length - (j + 1), by omega, j + 1, hj1, by omega, rfl, ?_, ?_, hc11⟩
        · rw [if_pos (by omega)]
        · rw [if_pos (by omega)]; exact ho11
      · have he : cj.id ≠ x.id := by simpa using he
        have hjj : j ≠ j0 := by
          rintro rfl
          rw [hcj] at hc0
          rw [Option.some.inj hc0] at he
          exact he (by rw [hx0])
        have hif : (if j0 < j + 1 then [(j0 : Int)] else []) = (if j0 < j then [(j0 : Int)] else []) := by
          by_cases h : j0 < j
          · rw [if_pos h, if_pos (by omega)]
          · rw [if_neg h, if_neg (by omega)]
        refine ⟨cm.length - (j + 1), by omega, j + 1, hj1, by omega, rfl, by rw [hif], by rw [hif]; exact hc9.own ho8 (.inr (by simp)), hc59⟩
    · have hje : j = cm.length := by omega
      subst hje
      rw [if_pos hj0] at ho8 ⊢
      have hk1 : IntKind.wrap .i64 ((k : Int) + 1) = ((k + 1 : Nat) : Int) := by rw [← Int.natCast_succ, wrap64_nat (by omega)]
      have htk : ats (o.take (k + 1)) = ats (o.take k) ++ [(j0 : Int)] := by
        have : x.came - 1 = (j0 : Int) := by rw [hx0]; show ((j0 + 1 : Nat) : Int) - 1 = j0; omega
        rw [List.take_succ_eq_append_getElem hlt, hxe]
        simp [ats, this]
      rw [← htk] at ho8 ⊢
      have hatl1 : (ats (o.take (k + 1))).length = k + 1 := by simp [ats]; omega
      have nxt : ∀ w9, Ch [] w8 w9 → ∃ m, m < o.length - k ∧ ∃ k_1 : Nat, IntKind.wrap .i64 ((k : Int) + 1) = k_1 ∧ k_1 ≤ o.length ∧ m = o.length - k_1 ∧ (ats (o.take (k + 1))).length = (ats (o.take k_1)).length ∧ Own (Enc.int .i64) 3 w5.heap.size w9 ta tc (ats (o.take k_1)) ∧ Ch [] w5 w9 := fun w9 h9 =>
        ⟨o.length - (k + 1), by omega, k + 1, hk1, by omega, rfl, rfl, h9.own ho8 (.inr (by simp)), hc8.trans0 h9⟩
      refine br_f (by rw [hatl1, hk1]; simp) ?_
      refine br_dec (fun hpos => ?_) fun _ => nxt w8 (Ch.refl _ _)
      have hpos : 0 < k := by omega
      obtain ⟨y, hyk⟩ : ∃ y, o[k - 1]? = some y := ⟨o[k - 1]'(by omega), List.getElem?_eq_getElem (by omega)⟩
      have hym : y ∈ ofC cm 0 := hoperm.mem_iff.1 (List.mem_of_getElem? hyk)
      obtain ⟨j1, c1, hc1', hy1⟩ := ofC_mem hym
      have hj1 := (List.getElem?_eq_some_iff.1 hc1').1
      have hm1 : IntKind.wrap .i64 ((k : Int) - 1) = ((k - 1 : Nat) : Int) := by
        have : (k : Int) - 1 = ((k - 1 : Nat) : Int) := by omega
        rw [this, wrap64_nat (by omega)]
      have hle : leO y x = true := by
        have := List.pairwise_iff_getElem.1 hosort (k - 1) k (by omega) hlt (by omega)
        rw [List.getElem?_eq_getElem (by omega)] at hyk
        rw [Option.some.inj hyk, hxe] at this
        exact this
      have hne : j1 ≠ j0 := by
        rintro rfl
        have hxy : y = x := by
          rw [hc1'] at hc0
          rw [hy1, hx0, Option.some.inj hc0]
        have hnd : o.Nodup := hoperm.nodup_iff.2 (nodup_of_map hok4.ids)
        have := (List.getElem?_inj (by omega) hnd).1 (hyk.trans (by rw [hxy, hxk]) : o[k - 1]? = o[k]?)
        omega
      have g1 : (ats (o.take (k + 1)))[k - 1]? = some (j1 : Int) := by
        unfold ats
        rw [List.getElem?_map, List.getElem?_take, if_pos (by omega), hyk, hy1]
        show some (((j1 + 1 : Nat) : Int) - 1) = some (j1 : Int)
        congr 1; omega
      have g0 : (ats (o.take (k + 1)))[k]? = some (j0 : Int) := by
        unfold ats
        rw [List.getElem?_map, List.getElem?_take, if_pos (by omega), hxk, hx0]
        show some (((j0 + 1 : Nat) : Int) - 1) = some (j0 : Int)
        congr 1; omega
      refine drawS_intro [] fun w9 hc9 _ => ?_
      rw [hm1, hatl1]
      have ho9 := hc9.own ho8 (.inr (by simp))
      have hcm9 := (hc5.trans0 (hc8.trans0 hc9)).own ho4 (.inr (by simp))
      have sa : ∀ w', Ch [] w9 w' → SlR (Enc.int .i64) w' ta (ats (o.take (k + 1))) := fun w' h => (h.own ho9 (.inr (by simp))).slr
      have sm : ∀ w', Ch [] w9 w' → SlR encC w' ca cm := fun w' h => (h.own hcm9 (.inr (by simp))).slr
      obtain ⟨tb, to, hta, _⟩ := sa w9 (Ch.refl _ _) _ _ g1
      obtain ⟨mb', mo', hca, _⟩ := sm w9 (Ch.refl _ _) _ _ hc0
      subst hta
      subst hca
      have ca1 : ∀ w', Ch [] w9 w' → ∀ (i : Nat) (v : Int), (ats (o.take (k + 1)))[i]? = some v → w'.cell? ⟨tb, to + i * 1, none⟩ = some (.int .i64 v) := fun w' h i v hv => by
        obtain ⟨_, _, he, hc⟩ := sa w' h i v hv
        simp only [Option.some.injEq, Addr.mk.injEq, and_true] at he
        obtain ⟨rfl, rfl⟩ := he
        exact hc 0 _ rfl
      have cm1 : ∀ w', Ch [] w9 w' → ∀ (i : Nat) (y : LCall), cm[i]? = some y → ∀ j v, (encC.f y)[j]? = some v → w'.cell? ⟨mb', mo' + i * 4 + j, none⟩ = some v := fun w' h i y hv j v hjv => by
        obtain ⟨_, _, he, hc⟩ := sm w' h i y hv
        simp only [Option.some.injEq, Addr.mk.injEq, and_true] at he
        obtain ⟨rfl, rfl⟩ := he
        exact hc j v hjv
      simp only [okP_some, pb_some, po_some, toNat_nat]
      refine ⟨by omega, by omega, by omega, by omega, _, fun w' h => ca1 w' h (k - 1) _ g1, by omega, by omega, ?_⟩
      refine ⟨_, fun w' h => cm1 w' h j1 c1 hc1' 0 _ rfl, _, fun w' h => cm1 w' h j1 c1 hc1' 1 _ rfl, _, fun w' h => cm1 w' h j1 c1 hc1' 2 _ rfl, _, fun w' h => cm1 w' h j1 c1 hc1' 3 _ rfl, ?_⟩
      refine ⟨_, fun w' h => ca1 w' h k _ g0, by omega, by omega, ?_⟩
      refine ⟨_, fun w' h => cm1 w' h j0 c0 hc0 0 _ rfl, _, fun w' h => cm1 w' h j0 c0 hc0 1 _ rfl, _, fun w' h => cm1 w' h j0 c0 hc0 2 _ rfl, _, fun w' h => cm1 w' h j0 c0 hc0 3 _ rfl, ?_⟩
      have hpr : ¬ c1.prio < c0.prio ∧ (c1.prio = c0.prio → j1 < j0) := by
        rw [hx0, hy1] at hle
        simp [leO] at hle
        omega
      have k0 : ∀ (w12 : World) (aB bB : Nat), Row w12 aB 55 (encC.f c1) → Row w12 bB 55 (encC.f c0) → Ch [] w9 w12 →
          purlinlaw14_LineOrder.K0 (fun v w' => v = .bool true ∧ Ch [] w w') k (fun x0 x1 x2 x3 w9 => ∃ m, m < o.length - k ∧ ∃ k_1 : Nat, x3 = k_1 ∧ k_1 ≤ o.length ∧ m = o.length - k_1 ∧ x1 = (ats (o.take k_1)).length ∧ Own (Enc.int .i64) 3 w5.heap.size w9 x0 x2 (ats (o.take k_1)) ∧ Ch [] w5 w9)
            (some ⟨tb, to, none⟩) (ats (o.take (k + 1))).length tc aB bB w12 := by
        intro w12 aB bB hra hrb hc12
        unfold purlinlaw14_LineOrder.K0
        refine drawC_intro fun w13 hc13 _ => ?_
        have hc913 := hc12.trans0 hc13
        have hra := hc13.row hra (by simp)
        have hrb := hc13.row hrb (by simp)
        have n13 := nxt w13 (hc9.trans0 hc913)
        refine ⟨_, hra.cell rfl, _, hrb.cell rfl, br_dec (fun h => absurd h hpr.1) fun _ => ⟨_, hra.cell rfl, _, hrb.cell rfl, br_intro (fun he => ?_) fun _ => n13⟩⟩
        have he : c1.prio = c0.prio := by simpa using he
        rw [hm1, hatl1]
        simp only [okP_some, pb_some, po_some, toNat_nat]
        refine ⟨by omega, by omega, _, ca1 w13 hc913 (k - 1) _ g1, by omega, by omega, _, ca1 w13 hc913 k _ g0, ?_⟩
        refine br_dec (fun h => by have := hpr.2 he; omega) fun _ => ?_
        rw [← hatl1]
        exact n13
      have k0' := k0
      rw [hatl1] at k0'
      refine ⟨?_, ?_⟩
      · refine newBlk_row fun b10 w10 hb10 hs10 hr10 hc10 => ⟨hc10, ?_⟩
        refine newBlk_row fun b11 w11 hb11 hs11 hr11 hc11 => ⟨hc10.trans0 hc11, ?_⟩
        refine storeC_row (hc11.row hr10 (by simp)) (by simp) fun w12 hr12 hc12 _ => ?_
        have hc912 : Ch [] w9 w12 := (hc10.trans0 hc11).trans hc12 (by simp; omega)
        refine ⟨hc912, ?_⟩
        refine storeC_row (hc12.row hr11 (by simp; omega)) (by simp) fun w13 hr13 hc13 _ => ?_
        exact k0' w13 b10 b11 (hc13.row hr12 (by simp; omega)) hr13 (hc912.trans hc13 (by simp; omega))
      · refine newBlk_row fun b10 w10 hb10 hs10 hr10 hc10 => ⟨hc10, ?_⟩
        refine newBlk_row fun b11 w11 hb11 hs11 hr11 hc11 => ⟨hc10.trans0 hc11, ?_⟩
        refine storeC_row hr11 (by simp) fun w12 hr12 hc12 _ => ?_
        have hc912 : Ch [] w9 w12 := (hc10.trans0 hc11).trans hc12 (by simp; omega)
        refine ⟨hc912, ?_⟩
        refine storeC_row (hc12.row (hc11.row hr10 (by simp)) (by simp; omega)) (by simp) fun w13 hr13 hc13 _ => ?_
        exact k0' w13 b11 b10 (hc13.row hr12 (by simp; omega)) hr13 (hc912.trans hc13 (by simp; omega))
  unfold purlinlaw14_LineOrder.L0
  refine br_dec (fun hlt => br_dec (fun hlt2 => ?_) fun _ => tail) fun _ => tail
  have hlt : k < xs.length := by omega
  have hlt2 : k < 60 := by omega
  obtain ⟨x, hxk⟩ : ∃ x, xs[k]? = some x := ⟨xs[k], by simp [hlt]⟩
  refine drawC_intro fun w5 hc5 _ => ?_
  have hc05 := hc04.trans0 hc5
  refine ⟨by omega, by omega, ?_⟩
  obtain ⟨ab, ao, rfl, hcell⟩ := (hc05.slr hx (.inr (by simp))) k x hxk
  simp only [okP_some, pb_some, po_some, toNat_nat]
  refine ⟨_, hcell 1 _ rfl, by omega, by omega, _, hcell 2 _ rfl, by omega, by omega, _, hcell 3 _ rfl, ?_⟩
  have hl5 := hl4.ch hc5 (by simp) (by simp)
  refine Calls.ret (line_Put_any hl5 hok4 (by show (0 : Int) ≤ (cm.length : Int); omega) (by show (cm.length : Int) ≤ _; omega) x.id x.prio x.until_) ?_
  rintro v w6 ⟨rfl, hl6, hc6⟩
  refine ⟨_, rfl, ?_⟩
  have hk1 : IntKind.wrap .i64 ((k : Int) + 1) = ((k + 1 : Nat) : Int) := by rw [← Int.natCast_succ, wrap64_nat (by omega)]
  have hob4 := ho4.base
  have hno4 : ca = none ∨ pb ca ∉ [b, mb] := by
    rcases hob4 with h | h
    · exact .inl h
    · right; simp; omega
  have hc06 : Ch [] w w6 := hc05.trans hc6 D
  have hc26 : Ch [b, mb] w2 w6 := (hc4.trans0 hc5).trans hc6 (by simp)
  have ho6 := hc6.own (hc5.own ho4 (.inr (by simp))) hno4
  refine br_intro (fun he => ?_) fun he => ?_
  · have he : (LS.mk (ofC cm 0) cm.length 0).err x.id x.prio x.until_ = 0 := by simpa using he
    obtain ⟨ab6, ao6, he6, hcell6⟩ := (hc06.slr hx (.inr (by simp))) k x hxk
    simp only [Option.some.injEq, Addr.mk.injEq, and_true] at he6
    obtain ⟨rfl, rfl⟩ := he6
    refine ⟨by omega, by omega, _, hcell6 0 _ rfl, _, hcell6 1 _ rfl, _, hcell6 2 _ rfl, _, hcell6 3 _ rfl, ?_⟩
    refine newBlk_row fun b7 w7 hb7 hs7 hr7 hc7 => ?_
    have hput : (LS.mk (ofC cm 0) cm.length 0).put x.id x.prio x.until_ = ⟨ofC (cm ++ [x]) 0, (cm ++ [x]).length, 0⟩ := by
      unfold LS.put; rw [if_pos he]
      unfold LS.add
      rw [ofC_snoc]
      simp
    have hokp := hok4.add he
    have hadd : (LS.mk (ofC cm 0) cm.length 0).add x.id x.prio x.until_ = ⟨ofC (cm ++ [x]) 0, (cm ++ [x]).length, 0⟩ := by
      rw [← hput]; unfold LS.put; rw [if_pos he]
    rw [hadd] at hokp
    rw [hput] at hl6
    obtain ⟨a8, c8, w8, hrun8, ho8, hc8, hd8⟩ := append_new (P := Try.prog) (ty := 50) elC (w0 := w2) (D := [b, mb]) (hc26.trans0 hc7) (hc7.own ho6 (.inr (by simp))) (ys := [x]) (c2 := 1) (SlR.one (E := encC) (x := x) hr7) (by simp [maxLen]; omega) (by simp; omega) (by have := (hc26.trans0 hc7).size; omega) (Nat.le_refl _)
    have hnd : b ∉ (ca.map (·.block)).toList ∧ mb ∉ (ca.map (·.block)).toList := by
      rcases hob4 with h | h
      · simp [h]
      · cases ca with
        | none => simp
        | some ad => simp [pb] at h ⊢; omega
    refine ⟨a8, _, c8, w8, hrun8, 60 - (k + 1), by omega, k + 1, cm ++ [x], hk1, by omega, rfl, rfl, by simp; omega, (hl6.ch hc7 (by simp) (by simp)).ch hd8 hnd.1 hnd.2, hokp, ho8, hc8⟩
  · have he : (LS.mk (ofC cm 0) cm.length 0).err x.id x.prio x.until_ ≠ 0 := by simpa using he
    have hput : (LS.mk (ofC cm 0) cm.length 0).put x.id x.prio x.until_ = ⟨ofC cm 0, cm.length, 0⟩ := by unfold LS.put; rw [if_neg he]
    rw [hput] at hl6
    exact ⟨60 - (k + 1), by omega, k + 1, cm, hk1, by omega, rfl, rfl, by omega, hl6, hok4, ho6, hc26⟩
end Go.Proofs.Ytgkbokhmmoemfaa
