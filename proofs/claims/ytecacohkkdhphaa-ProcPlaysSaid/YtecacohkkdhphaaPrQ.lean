/- Processes: ProcPlays returns true. Conditions: none. -/
import Derived.Test.YtecacohkkdhphaaVcBig
import Derived.Test.YtecacohkkdhphaaPrF
import Derived.Test.YtecacohkkdhphaaPrG
import Derived.Test.YtecacohkkdhphaaPrN
import Derived.Test.YtecacohkkdhphaaPl1
namespace Go.Proofs.Ytecacohkkdhphaa
open Go.Vc Go.Sort
set_option linter.unusedSimpArgs false
set_option linter.unusedVariables false
set_option maxRecDepth 100000

theorem mkN_ok {pr : List Int} (h : prErr pr = 0) : RT.mkN pr = ⟨pr, pr.map dorm, []⟩ := by unfold RT.mkN; rw [if_pos h]
theorem doS_cm (U : RT) (k i p : Int) : (U.doS k i p).cm.length ≤ U.cm.length + 1 := by
  unfold RT.doS RT.mkN
  split
  · split <;> simp
  · split
    · show (if behindK k = true then U.cm ++ [i] else U.cm).length ≤ _
      split <;> simp
    · omega

theorem ProcPlays_any {w0 : World} {a a2 : Option Addr} {c c2 : Nat} {pr : List Int} {xs : List PCall} (hpr : SlR (Enc.int .u8) w0 a pr) (hq : ∀ p ∈ pr, 0 ≤ p ∧ p < 256) (hbig : pr.length ≤ 140737488351232) (hx : SlR encK w0 a2 xs) :
    Calls Try.prog 4 #[.slice a pr.length c, .slice a2 xs.length c2] w0 (Ret fun v w' => v = .bool true ∧ Ch [] w0 w') := by
  have H := St.init w0
  have hx := hx.sli
  have hpr := hpr.sli
  have hm := hle_refl (hpOf w0)
  apply purlinlaw17_ProcPlays.calls
  unfold purlinlaw17_ProcPlays.F
  refine St.newOwn (E := Enc.int .u8) H [] (by simp) fun b w H => ?_
  refine St.appB H elB_ (H.sli hpr) (by simp only [maxLen]; omega) (by omega) fun a1 c1 w H => ?_
  refine Calls.ret (proc_New_sp (pr := pr) H (fun w H => H.ownOut.slr) (fun p hp => (hq p hp).1)) ?_
  rintro v w1 ⟨h1, h2⟩
  by_cases hb : ¬ prErr pr = 0
  · obtain ⟨rfl, H⟩ := h1 hb
    refine ⟨_, _, rfl, ?_⟩
    refine Calls.ret (ref17_New_sp (pr := pr) H (fun w H => H.sli hpr) hq) ?_
    rintro v w2 ⟨x, rfl, H⟩
    refine ⟨_, _, _, _, _, _, _, _, _, _, rfl, ?_⟩
    refine H.new fun b1 w H => H.st fun w H => ?_
    refine Calls.ret (awake17_sp H) ?_
    rintro v w3 ⟨rfl, H⟩
    exact ⟨_, rfl, br_f rfl (br_f (by simp) (br_f (by simp [hb]) (br_t rfl ⟨rfl, H.fin hm⟩)))⟩
  have hb : prErr pr = 0 := Classical.not_not.1 hb
  obtain ⟨tb, rfl, H⟩ := h2 hb
  refine ⟨_, _, rfl, ?_⟩
  refine Calls.ret (ref17_New_sp (pr := pr) H (fun w H => H.sli hpr) hq) ?_
  rintro v w2 ⟨x, rfl, H⟩
  refine ⟨_, _, _, _, _, _, _, _, _, _, rfl, ?_⟩
  refine H.new fun b1 w H => H.st fun w H => ?_
  refine Calls.ret (awake17_sp H) ?_
  rintro v w3 ⟨rfl, H⟩
  rw [hb]
  refine ⟨_, rfl, br_f rfl (br_f rfl (br_f rfl (br_f rfl ?_)))⟩
  refine ⟨fun n i w' => ∃ (k : Nat) (t : PT) (U : RT) (x : RA), i = k ∧ k ≤ 60 ∧ n = 60 - k ∧ t.inv k ∧ Like t U ∧ U.cm.length ≤ k ∧ St w0 (hpOf w0) w' (row b1 42 [.slice x.a U.pr.length x.c, .slice x.a1 U.l.length x.c1, .slice x.a2 U.cm.length x.c2] :: table tb t :: own (Enc.int .u8) 5 x.a x.c U.pr :: own encD 60 x.a1 x.c1 U.l :: own (Enc.int .i64) 3 x.a2 x.c2 U.cm :: []),
    ⟨_, 0, PT.new pr, RT.mkN pr, x, rfl, by omega, rfl, inv_new hb (fun p hp => (hq p hp).1) 0, like_new hb, by rw [mkN_ok hb]; exact Nat.le_refl _, H.re⟩, ?_⟩
  clear H
  rintro n9 dead w5 i ⟨k, t, U, x, rfl, hk, rfl, hi, hL, hcm, H⟩
  unfold purlinlaw17_ProcPlays.L0
  have tail : purlinlaw17_ProcPlays.K0 (fun v w' => v = .bool true ∧ Ch [] w0 w') (some ⟨tb, 0, none⟩) w5 := by
    unfold purlinlaw17_ProcPlays.K0
    refine Calls.ret (state_any (H.at_ (A := table tb t)) (-1)) ?_
    rintro v w6 ⟨rfl, H⟩
    have : stA t (-1) = ⟨0, false, 0, 0⟩ := by unfold stA; rw [if_pos (.inl (by decide))]
    rw [this]
    exact ⟨_, _, _, rfl, br_t rfl (br_t rfl ⟨rfl, H.fin hm⟩)⟩
  refine br_dec (fun hlt => br_dec (fun hlt2 => ?_) fun _ => tail) fun _ => tail
  clear tail
  have hlt : k < xs.length := by omega
  have hlt2 : k < 60 := by omega
  obtain ⟨y, hyk⟩ : ∃ y, xs[k]? = some y := ⟨_, List.getElem?_eq_getElem hlt⟩
  refine ⟨by omega, by omega, ?_⟩
  obtain ⟨ab, ao, rfl, hcell⟩ := (H.sli hx) k _ hyk
  simp only [okP_some, pb_some, po_some, toNat_nat]
  refine ⟨_, hcell 0 _ rfl, _, hcell 1 _ rfl, _, hcell 2 _ rfl, ?_⟩
  refine Calls.ret (call_sp H y.kind y.i y.prio) ?_
  rintro v w6 ⟨rfl, H⟩
  refine ⟨_, _, _, rfl, ?_⟩
  obtain ⟨kd, hkd⟩ : ∃ kd, kd = ck y.kind := ⟨_, rfl⟩
  have hko : okKind kd := hkd ▸ ck_ok y.kind
  rw [← hkd]
  refine H.new fun b2 w H => H.st fun w H => ?_
  refine ⟨_, _, _, H.ld, _, _, _, H.ld, _, _, _, H.ld, _, H.ld, _, H.ld, _, H.ld, ?_⟩
  have H : St w0 (hpOf w0) w (own (Enc.int .u8) 5 x.a x.c U.pr :: own encD 60 x.a1 x.c1 U.l :: own (Enc.int .i64) 3 x.a2 x.c2 U.cm :: row b1 42 [.slice x.a U.pr.length x.c, .slice x.a1 U.l.length x.c1, .slice x.a2 U.cm.length x.c2] :: table tb t :: row b2 46 [.int .i64 kd, .int .i64 y.i, .int .i64 y.prio] :: []) := H.re
  have hUl : U.l.length = t.l.length := by rw [hL.l]; simp
  have hUp : U.pr = t.pr := hL.pr
  have htl := hi.fit.len
  have htm := hi.fit.most
  refine Calls.ret (ref17_Do_sp (x := x) (U := U) (i := y.i) (p := y.prio) H hko (by rw [hUl, hUp, htl]) (by omega) (by omega) (by rw [hUp]; exact hi.fit.prio) (by rw [hUp]; exact fit_prErr hi.fit)) ?_
  rintro v w7 ⟨x', rfl, H⟩
  refine ⟨_, _, _, _, _, _, _, _, _, _, rfl, ?_⟩
  obtain ⟨hE, hL'⟩ := like_do hL hi (i := y.i) (p := y.prio) hko
  have hi' := inv_do hi hko (i := y.i) (p := y.prio)
  have hcm' := doS_cm U kd y.i y.prio
  have hdl := doS_len hi kd y.i y.prio
  rw [← hE]
  obtain ⟨U', hU'⟩ : ∃ U', U' = U.doS kd y.i y.prio := ⟨_, rfl⟩
  rw [← hU'] at H hL' hcm' ⊢
  refine H.new fun b3 w H => H.st fun w H => ?_
  refine ⟨_, _, _, H.ld, _, _, _, H.ld, _, _, _, H.ld, ?_⟩
  refine H.at_ (A := row b1 _ _) |>.st fun w H => ?_
  refine ⟨_, H.ld, _, H.ld, _, H.ld, ?_⟩
  have H : St w0 (hpOf w0) w (table tb t :: row b1 42 [.slice x'.a U'.pr.length x'.c, .slice x'.a1 U'.l.length x'.c1, .slice x'.a2 U'.cm.length x'.c2] :: own (Enc.int .u8) 5 x'.a x'.c U'.pr :: own encD 60 x'.a1 x'.c1 U'.l :: own (Enc.int .i64) 3 x'.a2 x'.c2 U'.cm :: []) := H.re
  refine Calls.ret (do_sp H hi (by omega) hko y.i y.prio) ?_
  rintro v w8 ⟨rfl, H⟩
  obtain ⟨t', ht'⟩ : ∃ t', t' = t.doS kd y.i y.prio := ⟨_, rfl⟩
  rw [← ht'] at H hL' hi' hdl
  refine ⟨_, rfl, br_f (by simp) ?_⟩
  have hUl' : U'.l.length = t'.l.length := by rw [hL'.l]; simp
  have hpb : ∀ (i : Nat) (z : Pr), t'.l[i]? = some z → 0 ≤ z.prio ∧ z.prio ≤ 63 := hi'.pb
  have hol := order_len hi'
  refine Calls.ret (proc_Running_sp H hi'.fit hi'.good) ?_
  rintro v w9 ⟨rfl, H⟩
  refine ⟨_, _, rfl, _, _, _, H.ld, _, _, _, H.ld, _, _, _, H.ld, ?_⟩
  have hs1 : ∀ {LL : List HP} (w : World), St w0 (hpOf w0) w (LL ++ (table tb t' :: row b1 42 [.slice x'.a U'.pr.length x'.c, .slice x'.a1 U'.l.length x'.c1, .slice x'.a2 U'.cm.length x'.c2] :: own (Enc.int .u8) 5 x'.a x'.c U'.pr :: own encD 60 x'.a1 x'.c1 U'.l :: own (Enc.int .i64) 3 x'.a2 x'.c2 U'.cm :: [])) → SlR encD w x'.a1 U'.l := fun w H => (H.cut).osl
  have hs2 : ∀ {LL : List HP} (w : World), St w0 (hpOf w0) w (LL ++ (table tb t' :: row b1 42 [.slice x'.a U'.pr.length x'.c, .slice x'.a1 U'.l.length x'.c1, .slice x'.a2 U'.cm.length x'.c2] :: own (Enc.int .u8) 5 x'.a x'.c U'.pr :: own encD 60 x'.a1 x'.c1 U'.l :: own (Enc.int .i64) 3 x'.a2 x'.c2 U'.cm :: [])) → SlR (Enc.int .i64) w x'.a2 U'.cm := fun w H => (H.cut).osl
  refine Calls.ret (ref17_Running_sp (t := t') (U := U') H hL' (hs1 (LL := [])) (hs2 (LL := [])) hi'.good hpb (by omega) (by omega)) ?_
  rintro v w10 ⟨rfl, H⟩
  refine ⟨_, _, rfl, ?_⟩
  refine H.drwS (fun w => w.cell? ⟨b1, 0, none⟩ = some (.slice x'.a U'.pr.length x'.c) ∧ w.cell? ⟨b1, 1, none⟩ = some (.slice x'.a1 U'.l.length x'.c1) ∧ w.cell? ⟨b1, 2, none⟩ = some (.slice x'.a2 U'.cm.length x'.c2)) (fun w H => ⟨H.ld, H.ld, H.ld⟩) fun w H => ?_
  refine br_f (by simp) (br_f (by simp) ?_)
  refine ⟨_, _, _, fun w h => h.2.1, ?_⟩
  refine Calls.ret (proc_Len_sp H) ?_
  rintro v w11 ⟨rfl, rfl⟩
  refine ⟨_, rfl, ⟨H.ld, H.ld, H.ld⟩, br_f (by simp [hUl']) ?_⟩
  refine ⟨_, _, _, fun w h => h.1, _, _, _, fun w h => h.2.1, _, _, _, fun w h => h.2.2, ?_⟩
  refine Calls.ret (proc_Order_sp H hi'.fit hi'.good) ?_
  rintro v w12 ⟨a5, c5, rfl, H⟩
  refine ⟨_, _, _, rfl, ⟨H.ld, H.ld, H.ld⟩, ?_⟩
  refine Calls.ret (ref17_Order_sp (t := t') (U := U') H hL' (hs1 (LL := [_])) (hs2 (LL := [_])) hi'.good hpb (by omega) hol (by omega)) ?_
  rintro v w13 ⟨a6, c6, rfl, H⟩
  refine ⟨_, _, _, rfl, ?_⟩
  have g2 := (H.foc (.tl .hd)).ownOut.slr
  have g3 := H.ownOut.slr
  refine Calls.ret (same_sp' H g2 g3 (by omega)) ?_
  rintro v w14 ⟨rfl, H⟩
  refine ⟨_, rfl, br_f (by simp) ?_⟩
  have H : St w0 (hpOf w0) w14 (table tb t' :: row b1 42 [.slice x'.a U'.pr.length x'.c, .slice x'.a1 U'.l.length x'.c1, .slice x'.a2 U'.cm.length x'.c2] :: own (Enc.int .u8) 5 x'.a x'.c U'.pr :: own encD 60 x'.a1 x'.c1 U'.l :: own (Enc.int .i64) 3 x'.a2 x'.c2 U'.cm :: []) := H.drop.drop
  refine ⟨fun n j w' => ∃ q : Nat, j = q ∧ q ≤ t'.l.length ∧ n = t'.l.length - q ∧ St w0 (hpOf w0) w' (table tb t' :: row b1 42 [.slice x'.a U'.pr.length x'.c, .slice x'.a1 U'.l.length x'.c1, .slice x'.a2 U'.cm.length x'.c2] :: own (Enc.int .u8) 5 x'.a x'.c U'.pr :: own encD 60 x'.a1 x'.c1 U'.l :: own (Enc.int .i64) 3 x'.a2 x'.c2 U'.cm :: []), ⟨_, 0, rfl, by omega, rfl, H⟩, ?_⟩
  clear H
  rintro n9 dead w15 j ⟨q, rfl, hqle, rfl, H⟩
  unfold purlinlaw17_ProcPlays.L1
  refine ⟨_, _, _, H.ld, ?_⟩
  refine br_dec (fun hql => ?_) fun hql => ?_
  · have hql : q < t'.l.length := by omega
    have hz := at_fin hql
    have hUz : U'.l[q]? = some (strip (t'.at (q : Int))) := by rw [hL'.l, List.getElem?_map, hz]; rfl
    refine Calls.ret (state_in H hql) ?_
    rintro v w16 ⟨rfl, H⟩
    obtain ⟨g, go, hga, hcell⟩ := (hs1 (LL := []) _ H) q _ hUz
    have okp : ∀ X : Prop, okP x'.a1 X = X := by intro X; rw [hga]; simp only [okP_some]
    have l0 : w16.cell? ⟨pb x'.a1, po x'.a1 + q * 3, none⟩ = some (.int .i64 (t'.at (q : Int)).st) := by rw [hga]; exact hcell 0 _ rfl
    have l1 : w16.cell? ⟨pb x'.a1, po x'.a1 + q * 3 + 1, none⟩ = some (.bool (t'.at (q : Int)).held) := by rw [hga]; exact hcell 1 _ rfl
    have l2 : w16.cell? ⟨pb x'.a1, po x'.a1 + q * 3 + 2, none⟩ = some (.int .i64 (t'.at (q : Int)).prio) := by rw [hga]; exact hcell 2 _ rfl
    refine ⟨_, _, _, rfl, _, _, _, H.ld, by omega, by omega, ?_⟩
    simp only [okp, toNat_nat]
    refine ⟨_, l0, br_f (by simp) ⟨_, _, _, H.ld, by omega, by omega, ?_⟩⟩
    try simp only [okp, toNat_nat]
    refine ⟨_, l1, br_f (by simp) ⟨_, _, _, H.ld, by omega, by omega, ?_⟩⟩
    try simp only [okp, toNat_nat]
    refine ⟨_, l2, br_f (by simp) ?_⟩
    exact ⟨t'.l.length - (q + 1), by omega, q + 1, by rw [← Int.natCast_succ, wrap64_nat (by omega)], by omega, rfl, H⟩
  · refine ⟨60 - (k + 1), by omega, k + 1, t', U', x', by rw [← Int.natCast_succ, wrap64_nat (by omega)], by omega, rfl, hi', hL', by omega, H.re⟩
end Go.Proofs.Ytecacohkkdhphaa
