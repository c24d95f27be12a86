/- Processes: ProcAnew returns true. Conditions: none. -/
import Derived.Test.YtecacohkkdhphaaPrM
import Derived.Test.YtecacohkkdhphaaPl5
import Derived.Test.YtecacohkkdhphaaNr
import Derived.Test.YtecacohkkdhphaaLnG
namespace Go.Proofs.Ytecacohkkdhphaa
open Go.Vc Go.Sort
set_option linter.unusedSimpArgs false
set_option linter.unusedVariables false
set_option maxRecDepth 100000

theorem same_sp' {e w : World} {m : Hp} {L : List HP} {a b : Option Addr} {c c' : Nat} {xs ys : List Int} (H : St e m w L) (hx : SlR (Enc.int .i64) w a xs) (hy : SlR (Enc.int .i64) w b ys) (hm : xs.length ≤ 1000000) :
    Calls Try.prog 29 #[.slice a xs.length c, .slice b ys.length c'] w (Ret fun v w' => v = .bool (decide (xs = ys)) ∧ St e m w' L) :=
  (same_any hx hy hm).mono fun _ w' ⟨v, h, h2, hc⟩ => ⟨v, h, h2, H.ch0 hc⟩

def relP (off : Int) (x y : Pr) : Prop := x.st = y.st ∧ x.held = y.held ∧ x.prio = y.prio ∧ (x.st ≠ 0 → x.came = y.came + off)
/-- Two tables alike but for when who came. -/
structure Shf (t u : PT) (off : Int) : Prop where
  pr : t.pr = u.pr
  len : t.l.length = u.l.length
  came : t.came = u.came + off
  st : ∀ (i : Nat) (x y : Pr), t.l[i]? = some x → u.l[i]? = some y → relP off x y
theorem withS_shf {t u : PT} {off i z : Int} {is : Pr → Bool} {f g : Pr → Pr} (h : Shf t u off) (his : ∀ x y, relP off x y → is x = is y)
    (hf : ∀ x y, relP off x y → is x = true → (f x).st = (g y).st ∧ (f x).held = (g y).held ∧ (f x).prio = (g y).prio ∧ (z = 0 → (f x).st ≠ 0 → (f x).came = (g y).came + off)) (hz : z = 0 ∨ z = 1 ∨ z = 2) :
    Shf (t.withS i is f z) (u.withS i is g z) off ∧ t.withE i is = u.withE i is := by
  unfold PT.withS PT.withE
  rw [h.len]
  by_cases hi : i < 0 ∨ (u.l.length : Int) ≤ i
  · simp only [if_pos hi]; exact ⟨h, by trivial⟩
  simp only [if_neg hi]
  obtain ⟨k, rfl⟩ := Int.eq_ofNat_of_zero_le (show 0 ≤ i by omega)
  obtain ⟨x, hx⟩ : ∃ x, t.l[k]? = some x := ⟨_, List.getElem?_eq_getElem (by have := h.len; omega)⟩
  obtain ⟨y, hy⟩ : ∃ y, u.l[k]? = some y := ⟨_, List.getElem?_eq_getElem (by omega)⟩
  rw [toNat_nat, hx, hy, Option.getD_some, Option.getD_some]
  have hr := h.st k x y hx hy
  rw [his x y hr]
  cases hb : is y with
  | false => simp only [Bool.false_eq_true, if_false]; exact ⟨h, by trivial⟩
  | true =>
    simp only [if_true, and_true]
    obtain ⟨f1, f2, f3, f4⟩ := hf x y hr (by rw [his x y hr, hb])
    have hk : k < u.l.length := by omega
    have hkt : k < t.l.length := by have := h.len; omega
    have go : ∀ (q r : Pr) (d1 d2 : Int), relP off q r → d1 = d2 + off → Shf ⟨t.pr, t.l.set k q, d1⟩ ⟨u.pr, u.l.set k r, d2⟩ off := by
      intro q r d1 d2 hqr hd
      refine ⟨h.pr, by simp [h.len], hd, fun j a b ha hb => ?_⟩
      simp only [List.getElem?_set] at ha hb
      by_cases hkj : k = j
      · subst hkj
        rw [if_pos rfl, if_pos hkt] at ha
        rw [if_pos rfl, if_pos hk] at hb
        rw [← Option.some.inj ha, ← Option.some.inj hb]; exact hqr
      · rw [if_neg hkj] at ha hb
        exact h.st j a b ha hb
    unfold PT.put
    have hc := h.came
    rcases hz with rfl | rfl | rfl
    · simp only [show ¬ (0 : Int) = 1 by decide, show ¬ (0 : Int) = 2 by decide, if_false]
      exact go _ _ _ _ ⟨f1, f2, f3, f4 rfl⟩ hc
    · simp only [if_true]
      exact go _ _ _ _ ⟨rfl, f2, f3, fun _ => by simp only; omega⟩ (by omega)
    · simp only [show ¬ (2 : Int) = 1 by decide, if_false, if_true]
      exact go _ _ _ _ ⟨f1, f2, f3, fun _ => by simp only; omega⟩ (by omega)
theorem op_shf {t u : PT} {off k i p : Int} (h : Shf t u off) (hk : 0 ≤ k ∧ k ≤ 7) : Shf (t.opS k i p) (u.opS k i p) off ∧ t.opE k i = u.opE k i := by
  have hfirst : t.first i = u.first i := by unfold PT.first; rw [h.pr]
  unfold PT.opS PT.opE
  rw [hfirst]
  refine withS_shf h (fun x y hr => ?_) (fun x y hr hx => ?_) (opZ_cases k)
  · obtain ⟨r1, r2, r3, r4⟩ := hr
    unfold opIs Pr.alive Pr.may
    rw [r1, r2]
  · obtain ⟨r1, r2, r3, r4⟩ := hr
    have kk : k = 0 ∨ k = 1 ∨ k = 2 ∨ k = 3 ∨ k = 4 ∨ k = 5 ∨ k = 6 ∨ k = 7 := by omega
    rcases kk with rfl | rfl | rfl | rfl | rfl | rfl | rfl | rfl <;> simp [opZ, opIs, opDo, dorm, Pr.alive, Pr.may] at hx ⊢ <;> simp_all <;> (try exact r4 (by omega))
theorem do_shf {t u : PT} {off k i p : Int} (h : Shf t u off) (hk : okKind k) : Shf (t.doS k i p) (u.doS k i p) off ∧ t.doE k i p = u.doE k i p := by
  unfold okKind at hk
  unfold PT.doS PT.doE
  by_cases h8 : k = 8
  · simp only [if_pos h8, and_true]
    refine ⟨h.pr, by simp [PT.reset, h.pr], h.came, fun j a b ha hb => ?_⟩
    have ha : (t.pr.map dorm)[j]? = some a := ha
    have hb : (u.pr.map dorm)[j]? = some b := hb
    rw [h.pr] at ha
    rw [ha] at hb
    have hab : a = b := Option.some.inj hb
    subst hab
    refine ⟨rfl, rfl, rfl, fun hs => ?_⟩
    rw [List.getElem?_map] at ha
    cases hp : u.pr[j]? with
    | none => rw [hp] at ha; cases ha
    | some q => rw [hp] at ha; simp at ha; subst ha; exact absurd rfl hs
  simp only [if_neg h8]
  by_cases h6 : k = 6
  · simp only [if_pos h6]
    unfold PT.raiseS PT.raiseE
    rw [h.len]
    split
    · exact ⟨h, rfl⟩
    · exact op_shf h (by omega)
  · simp only [if_neg h6]
    exact op_shf h (by omega)
theorem finRange_cast {n1 n2 : Nat} (e : n1 = n2) : (List.finRange n2).map (Fin.cast e.symm) = List.finRange n1 := by
  subst e
  have : (Fin.cast (rfl : n1 = n1).symm) = id := by funext x; rfl
  rw [this, List.map_id]
theorem at_shf {t u : PT} {off : Int} (h : Shf t u off) {i : Nat} (hi : i < u.l.length) : relP off (t.at (i : Int)) (u.at (i : Int)) :=
  h.st i _ _ (at_fin (by have := h.len; omega)) (at_fin hi)
theorem order_shf {t u : PT} {off : Int} (h : Shf t u off) (hg : t.good) : t.order = u.order := by
  have hp : u.orderF.Perm u.mays := List.mergeSort_perm _ _
  have hs : u.orderF.Pairwise (fun a b => leI u a b = true) := List.pairwise_mergeSort (leI_trans u) (leI_total u) u.mays
  have hmay : ∀ j : Fin u.l.length, (t.at ((Fin.cast h.len.symm j).val : Int)).may = (u.at (j.val : Int)).may := fun j => by
    obtain ⟨r1, r2, _, _⟩ := at_shf h j.isLt
    show (t.at (j.val : Int)).may = _
    unfold Pr.may; rw [r1, r2]
  have hmays : t.mays = u.mays.map (Fin.cast h.len.symm) := by
    unfold PT.mays
    rw [← finRange_cast h.len, List.filter_map]
    congr 1
    refine List.filter_congr fun j _ => ?_
    exact hmay j
  have he : u.orderF.map (Fin.cast h.len.symm) = t.orderF := by
    refine orderF_eq hg (by rw [hmays]; exact hp.map _) ?_
    rw [List.pairwise_map]
    refine hs.imp_of_mem fun {a b} ha hb hab => ?_
    have ma := may_st (List.mem_filter.1 (hp.mem_iff.1 ha)).2
    have mb := may_st (List.mem_filter.1 (hp.mem_iff.1 hb)).2
    obtain ⟨a1, a2, a3, a4⟩ := at_shf h a.isLt
    obtain ⟨b1, b2, b3, b4⟩ := at_shf h b.isLt
    have a4 := a4 (by rw [a1]; exact ma)
    have b4 := b4 (by rw [b1]; exact mb)
    have ea : t.at ((Fin.cast h.len.symm a).val : Int) = t.at (a.val : Int) := rfl
    have eb : t.at ((Fin.cast h.len.symm b).val : Int) = t.at (b.val : Int) := rfl
    unfold leI lePr at hab ⊢
    rw [ea, eb, a3, b3, a4, b4]
    simp at hab ⊢; omega
  unfold PT.order
  rw [← he, List.map_map]
  rfl
theorem stA_shf {t u : PT} {off : Int} (h : Shf t u off) (i : Int) : (stA t i).st = (stA u i).st ∧ (stA t i).held = (stA u i).held ∧ (stA t i).prio = (stA u i).prio := by
  unfold stA
  rw [h.len]
  by_cases hi : i < 0 ∨ (u.l.length : Int) ≤ i
  · simp [hi]
  · rw [if_neg hi, if_neg hi]
    obtain ⟨k, rfl⟩ := Int.eq_ofNat_of_zero_le (show 0 ≤ i by omega)
    obtain ⟨r1, r2, r3, _⟩ := at_shf h (i := k) (by omega)
    exact ⟨r1, r2, r3⟩
theorem order_len {t : PT} {n : Nat} (h : t.inv n) : t.order.length ≤ 16 := by
  unfold PT.order PT.orderF PT.mays
  rw [List.length_map, List.length_mergeSort]
  have := List.length_filter_le (fun i : Fin t.l.length => (t.at (i.val : Int)).may) (List.finRange t.l.length)
  rw [List.length_finRange] at this
  have := h.fit.len
  have := h.fit.most
  omega

theorem ProcAnew_any {w0 : World} {a a2 a3 : Option Addr} {c c2 c3 : Nat} {pr : List Int} {xs ys : List PCall} (hpr : SlR (Enc.int .u8) w0 a pr) (hq : ∀ p ∈ pr, 0 ≤ p ∧ p < 256) (hx : SlR encK w0 a2 xs) (hy : SlR encK w0 a3 ys) :
    Calls Try.prog 8 #[.slice a pr.length c, .slice a2 xs.length c2, .slice a3 ys.length c3] w0 (Ret fun v w' => v = .bool true ∧ Ch [] w0 w') := by
  have H := St.init w0
  have hx := hx.sli
  have hy := hy.sli
  have hpr := hpr.sli
  have hm := hle_refl (hpOf w0)
  apply purlinlaw17_ProcAnew.calls
  unfold purlinlaw17_ProcAnew.F
  refine Calls.ret (proc_New_sp H (fun w H => H.sli hpr) (fun p hp => (hq p hp).1)) ?_
  rintro v w1 ⟨h1, h2⟩
  by_cases hb : ¬ prErr pr = 0
  · obtain ⟨rfl, H⟩ := h1 hb
    refine ⟨_, _, rfl, ?_⟩
    refine Calls.ret (proc_New_sp H (fun w H => H.sli hpr) (fun p hp => (hq p hp).1)) ?_
    rintro v w2 ⟨h1, _⟩
    obtain ⟨rfl, H⟩ := h1 hb
    refine ⟨_, _, rfl, ?_⟩
    refine Calls.ret (awake17_sp H) ?_
    rintro v w3 ⟨rfl, H⟩
    refine ⟨_, rfl, br_f rfl (br_f (by simp) (br_t (by simpa using hb) ?_))⟩
    refine Calls.ret (awake17_sp H) ?_
    rintro v w4 ⟨rfl, H⟩
    exact ⟨_, rfl, br_t rfl ⟨by simp, H.fin hm⟩⟩
  have hb : prErr pr = 0 := Classical.not_not.1 hb
  obtain ⟨tb, rfl, H⟩ := h2 hb
  refine ⟨_, _, rfl, ?_⟩
  refine Calls.ret (proc_New_sp H (fun w H => H.sli hpr) (fun p hp => (hq p hp).1)) ?_
  rintro v w2 ⟨_, h2⟩
  obtain ⟨ub, rfl, H⟩ := h2 hb
  refine ⟨_, _, rfl, ?_⟩
  refine Calls.ret (awake17_sp H) ?_
  rintro v w3 ⟨rfl, H⟩
  refine ⟨_, rfl, br_f rfl (br_f (by simp) (br_f rfl (br_f rfl (br_f rfl ?_))))⟩
  refine ⟨fun n i w' => ∃ (k : Nat) (t : PT), i = k ∧ k ≤ 40 ∧ n = 40 - k ∧ t.inv k ∧ t.pr = pr ∧ St w0 (hpOf w0) w' [table tb t, table ub (PT.new pr)],
    ⟨_, 0, _, rfl, by omega, rfl, inv_new hb (fun p hp => (hq p hp).1) 0, rfl, H.re⟩, ?_⟩
  rintro n9 dead w5 i ⟨k, t, rfl, hk, rfl, hi, htp, H⟩
  unfold purlinlaw17_ProcAnew.L0
  have tail : purlinlaw17_ProcAnew.K0 a3 ys.length (fun v w' => v = .bool true ∧ Ch [] w0 w') (some ⟨tb, 0, none⟩) (some ⟨ub, 0, none⟩) w5 := by
    unfold purlinlaw17_ProcAnew.K0
    refine Calls.ret (proc_Reset_sp H hi.fit.len hi.fit.prio (by have := hi.fit.most; omega)) ?_
    rintro v w6 ⟨rfl, H⟩
    refine ⟨rfl, ?_⟩
    have hs0 : Shf t.reset (PT.new pr) t.came := by
      have hs : Shf (PT.mk t.pr (t.pr.map dorm) t.came) (PT.mk t.pr (t.pr.map dorm) 0) t.came := by
        refine ⟨rfl, rfl, by simp, fun j x y hx hy => ?_⟩
        simp only at hx hy
        rw [hx] at hy
        have hxy : x = y := Option.some.inj hy
        subst hxy
        refine ⟨rfl, rfl, rfl, fun hs => ?_⟩
        rw [List.getElem?_map] at hx
        cases hp : t.pr[j]? with
        | none => rw [hp] at hx; cases hx
        | some q => rw [hp] at hx; simp at hx; subst hx; exact absurd rfl hs
      unfold PT.reset PT.new; rw [← htp]; exact hs
    refine ⟨fun n i w' => ∃ (q : Nat) (t u : PT) (off : Int), i = q ∧ q ≤ 40 ∧ n = 40 - q ∧ t.inv (40 + q) ∧ u.inv q ∧ Shf t u off ∧ St w0 (hpOf w0) w' [table tb t, table ub u],
      ⟨_, 0, _, _, _, rfl, by omega, rfl, (inv_reset hi).mono (by omega), inv_new hb (fun p hp => (hq p hp).1) 0, hs0, H⟩, ?_⟩
    rintro n9 dead w7 i ⟨q, t, u, off, rfl, hq, rfl, hit, hiu, hsh, H⟩
    unfold purlinlaw17_ProcAnew.L1
    refine br_dec (fun hlt => br_dec (fun hlt2 => ?_) fun _ => ⟨rfl, H.fin hm⟩) fun _ => ⟨rfl, H.fin hm⟩
    have hlt : q < ys.length := by omega
    have hlt2 : q < 40 := by omega
    obtain ⟨x, hxk⟩ : ∃ x, ys[q]? = some x := ⟨ys[q], by simp [hlt]⟩
    have hxe : ys[q] = x := by have h := hxk; rw [List.getElem?_eq_getElem hlt] at h; exact Option.some.inj h
    refine ⟨by omega, by omega, ?_⟩
    obtain ⟨ab, ao, rfl, hcell⟩ := (H.sli hy) q _ hxk
    simp only [okP_some, pb_some, po_some, toNat_nat]
    refine ⟨_, hcell 0 _ rfl, _, hcell 1 _ rfl, _, hcell 2 _ rfl, ?_⟩
    refine Calls.ret (call_sp H x.kind x.i x.prio) ?_
    rintro v w8 ⟨rfl, H⟩
    refine ⟨_, _, _, rfl, ?_⟩
    refine H.new fun b w H => H.st fun w H => ?_
    have hrow : ∀ w, (∃ L, St w0 (hpOf w0) w (row b 46 [.int .i64 (ck x.kind), .int .i64 x.i, .int .i64 x.prio] :: L)) → Row w b 46 [.int .i64 (ck x.kind), .int .i64 x.i, .int .i64 x.prio] := fun w ⟨L, H⟩ => H.rowAt
    refine H.drwS (fun w => ∃ L, St w0 (hpOf w0) w (row b 46 [.int .i64 (ck x.kind), .int .i64 x.i, .int .i64 x.prio] :: L)) (fun w H => ⟨_, H⟩) fun w H => ?_
    refine ⟨_, H.ld, _, H.ld, _, H.ld, _, fun w h => (hrow w h).cell rfl, _, fun w h => (hrow w h).cell rfl, _, fun w h => (hrow w h).cell rfl, ?_⟩
    refine Calls.ret (do_sp (H.at_ (A := table tb t)) hit (by omega) (ck_ok x.kind) x.i x.prio) ?_
    rintro v w9 ⟨rfl, H⟩
    refine ⟨_, rfl, ⟨_, H.re⟩, ?_⟩
    refine Calls.ret (do_sp (H.at_ (A := table ub u)) hiu (by omega) (ck_ok x.kind) x.i x.prio) ?_
    rintro v w10 ⟨rfl, H⟩
    obtain ⟨hsh2, hE⟩ := do_shf hsh (ck_ok x.kind) (i := x.i) (p := x.prio)
    refine ⟨_, rfl, ⟨_, H.re⟩, br_f (by simp [hE]) ?_⟩
    have hit2 := inv_do hit (ck_ok x.kind) (i := x.i) (p := x.prio)
    have hiu2 := inv_do hiu (ck_ok x.kind) (i := x.i) (p := x.prio)
    have hord := order_shf hsh2 hit2.good
    obtain ⟨t2, ht2⟩ : ∃ t2, t2 = t.doS (ck x.kind) x.i x.prio := ⟨_, rfl⟩
    obtain ⟨u2, hu2⟩ : ∃ u2, u2 = u.doS (ck x.kind) x.i x.prio := ⟨_, rfl⟩
    rw [← ht2] at H hit2 hsh2 hord
    rw [← hu2] at H hiu2 hsh2 hord
    refine Calls.ret (proc_Order_sp (H.at_ (A := table tb t2)) hit2.fit hit2.good) ?_
    rintro v w11 ⟨a5, c5, rfl, H⟩
    refine ⟨_, _, _, rfl, ⟨_, H.re⟩, ?_⟩
    refine Calls.ret (proc_Order_sp (H.at_ (A := table ub u2)) hiu2.fit hiu2.good) ?_
    rintro v w12 ⟨a6, c6, rfl, H⟩
    refine ⟨_, _, _, rfl, ?_⟩
    have s5 : SlR (Enc.int .i64) w12 a5 t2.order := H.osl (c := c5)
    refine Calls.ret (same_sp' H s5 H.ownOut.slr (by have := order_len hit2; omega)) ?_
    rintro v w13 ⟨rfl, H⟩
    refine ⟨_, rfl, br_f (by simp [hord]) ⟨_, H.ld, ?_⟩⟩
    obtain ⟨e1, e2, e3⟩ := stA_shf hsh2 x.i
    refine Calls.ret (state_any (H.at_ (A := table tb t2)) x.i) ?_
    rintro v w14 ⟨rfl, H⟩
    refine ⟨_, _, _, rfl, _, H.ld, ?_⟩
    refine Calls.ret (state_any (H.at_ (A := table ub u2)) x.i) ?_
    rintro v w15 ⟨rfl, H⟩
    refine ⟨_, _, _, rfl, br_f (by simp [e1]) (br_f (by simp [e2]) (br_f (by simp [e3]) ?_))⟩
    have hk1 : IntKind.wrap .i64 ((q : Int) + 1) = ((q + 1 : Nat) : Int) := by rw [← Int.natCast_succ, wrap64_nat (by omega)]
    exact ⟨40 - (q + 1), by omega, q + 1, t2, u2, off, hk1, by omega, rfl, hit2, hiu2, hsh2, H.re⟩
  refine br_dec (fun hlt => br_dec (fun hlt2 => ?_) fun _ => tail) fun _ => tail
  clear tail
  have hlt : k < xs.length := by omega
  have hlt2 : k < 40 := by omega
  obtain ⟨x, hxk⟩ : ∃ x, xs[k]? = some x := ⟨xs[k], by simp [hlt]⟩
  have hxe : xs[k] = x := by have h := hxk; rw [List.getElem?_eq_getElem hlt] at h; exact Option.some.inj h
  refine ⟨by omega, by omega, ?_⟩
  obtain ⟨ab, ao, rfl, hcell⟩ := (H.sli hx) k _ hxk
  simp only [okP_some, pb_some, po_some, toNat_nat]
  refine ⟨_, hcell 0 _ rfl, _, hcell 1 _ rfl, _, hcell 2 _ rfl, ?_⟩
  refine Calls.ret (call_sp H x.kind x.i x.prio) ?_
  rintro v w6 ⟨rfl, H⟩
  refine ⟨_, _, _, rfl, ?_⟩
  refine Calls.ret (do_sp H hi (by omega) (ck_ok x.kind) x.i x.prio) ?_
  rintro v w7 ⟨rfl, H⟩
  have hk1 : IntKind.wrap .i64 ((k : Int) + 1) = ((k + 1 : Nat) : Int) := by rw [← Int.natCast_succ, wrap64_nat (by omega)]
  exact ⟨_, rfl, 40 - (k + 1), by omega, k + 1, _, hk1, by omega, rfl, inv_do hi (ck_ok x.kind), by rw [(doS_len hi _ _ _).2]; exact htp, H⟩
end Go.Proofs.Ytecacohkkdhphaa
