/- Lines of those who wait: LineExpires returns true. Conditions: none. -/
import Derived.Test.YtgkbokhmmoemfaaLnM
namespace Go.Proofs.Ytgkbokhmmoemfaa
open Go.Vc
set_option linter.unusedSimpArgs false
set_option linter.unusedVariables false
set_option maxRecDepth 100000

theorem zcells_of {P : Program} {t : TypeId} {v : Value} {w : World} (h : (zeroValue t).run P w = .ok v w) : zcells P t = v.cells := by
  unfold zcells
  cases hi : P.info? t with
  | none => simp [zeroValue, typeInfo, hi] at h
  | some i =>
    cases hz : i.zero with
    | none => simp [zeroValue, typeInfo, hi, hz] at h
    | some z =>
      simp [zeroValue, typeInfo, hi, hz] at h
      simp [hz, h]
theorem z59 (w : World) : (zcells Try.prog 59).toList.length = 65536 := by
  rw [zcells_of (Try.zeroValue59 w)]
  show Try.zeroCells59.toList.length = 65536
  rw [Array.length_toList]; exact Try.zeroCells59_size

theorem filter_len (p : Wt → Bool) : ∀ l : List Wt, (l.filter p).length + (l.filter fun x => !p x).length = l.length
  | [] => rfl
  | x :: r => by
    have := filter_len p r
    by_cases h : p x = true
    · simp [h]; omega
    · simp [h]; omega
/-- What the array tells of those who wait. -/
def Tells (U : List Value) (s : LS) : Prop := ∀ x ∈ s.ws, U[x.id.toNat]? = some (.int .i64 x.until_) ∧ (x.until_ = -1 ∨ 1 ≤ x.until_)

theorem LineExpires_any {w : World} {a : Option Addr} {c : Nat} {xs : List LCall} (now : Int) (hx : SlR encC w a xs) :
    Calls Try.prog 8 #[.slice a xs.length c, .int .i64 now] w (Ret fun v w' => v = .bool true ∧ Ch [] w w') := by
  apply purlinlaw14_LineExpires.calls
  unfold purlinlaw14_LineExpires.F
  refine Calls.ret line_New_any ?_
  rintro v w1 ⟨b, mb, rfl, hl1, hc1, hb, hmb⟩
  refine ⟨_, rfl, ?_⟩
  refine Calls.ret awake14_any ?_
  rintro v w2 ⟨rfl, hc2⟩
  refine ⟨_, rfl, br_f rfl (br_f rfl ?_)⟩
  have hl2 := hl1.ch hc2 (by simp) (by simp)
  have hc02 := hc1.trans0 hc2
  have hlt2 := hl2.lt
  have z02 := hc02.size
  have hU0l := z59 w2
  refine newBlk_row fun u w3 hu hs3 hr3 hc3 => ?_
  have hl3 := hl2.ch hc3 (by simp) (by simp)
  have D : ∀ y ∈ [b, mb, u], y ∈ ([] : List Nat) ∨ w.heap.size ≤ y := by intro y hy; right; simp at hy; omega
  refine ⟨fun n cnt i w' => ∃ (k : Nat) (s : LS) (U : List Value), i = k ∧ k ≤ 60 ∧ n = 60 - k ∧ cnt = s.ws.length ∧ s.fit k ∧ s.now = 0 ∧ LineRep w' b mb s ∧ U.length = 65536 ∧ Row w' u 59 U ∧ Tells U s ∧ Ch [b, mb, u] w2 w',
    ⟨_, 0, LS.new, _, rfl, by omega, rfl, rfl, LS.new_fit 0, rfl, hl3, hU0l, hr3, by intro x hx; simp [LS.new] at hx, hc3.mono (by simp)⟩, ?_⟩
  rintro n dead w4 cnt i ⟨k, s, U, rfl, hk, rfl, rfl, hf, hnow, hl4, hUl, hr4, htl, hc4⟩
  have hc04 : Ch [] w w4 := hc02.trans hc4 D
  have hsl := hf.len
  have tail : purlinlaw14_LineExpires.K0 now (fun v w' => v = .bool true ∧ Ch [] w w') (some ⟨b, 0, none⟩) u (s.ws.length : Nat) w4 := by
    unfold purlinlaw14_LineExpires.K0
    refine Calls.ret (line_Expire_any sortE hl4 hf.ok (by omega) now) ?_
    rintro v w5 ⟨hlate, hnlate⟩
    have lateEnd : s.late now → ∀ w6, LineRep w6 b mb s → Ch [] w w6 → Calls Try.prog 29 #[.pointer (some ⟨b, 0, none⟩)] w6 (fun e w11 => ∃ t83A : Option Addr, ∃ t83N : Nat, ∃ t83C : Nat, e = .returned (.slice t83A t83N t83C) ∧
        (Value.bool (((t83N : Nat) : Int) == ((s.ws.length : Nat) : Int)) = .bool true ∧ Ch [] w w11)) := fun _ w6 hl6 hc6 => by
      refine Calls.ret (line_List_any sortO hl6 hf.ok (by omega)) ?_
      rintro v w7 ⟨a7, c7, rfl, _, hc7⟩
      exact ⟨_, _, _, rfl, by rw [list_len]; simp, hc6.trans0 hc7⟩
    by_cases hlt : s.late now
    · obtain ⟨rfl, hl5, hc5⟩ := hlate hlt
      have hc05 := hc04.trans0 hc5
      refine ⟨_, _, _, _, rfl, ?_⟩
      refine br_dec (fun _ => br_t rfl (br_t rfl (lateEnd hlt w5 hl5 hc05))) fun h1 => br_dec (fun _ => br_t rfl (br_t rfl (lateEnd hlt w5 hl5 hc05))) fun h2 => ?_
      unfold LS.late at hlt
      rw [hnow] at hlt
      omega
    · obtain ⟨a5, c5, rfl, ho5, hl5, hc5⟩ := hnlate hlt
      have hn0 : ¬ now < 0 ∧ ¬ 1099511627776 < now := by unfold LS.late at hlt; rw [hnow] at hlt; omega
      refine ⟨_, _, _, _, rfl, ?_⟩
      refine br_dec (fun h => absurd h hn0.1) fun _ => br_dec (fun h => absurd h hn0.2) fun _ => ?_
      have hf5 := hf.stay now
      refine Calls.ret (line_List_any sortO hl5 hf5.ok (by have := hf5.len; omega)) ?_
      rintro v w6 ⟨a6, c6, rfl, ho6, hc6⟩
      obtain ⟨G, hG⟩ : ∃ G, G = ordE (s.gone now) := ⟨_, rfl⟩
      have hGp : G.Perm (s.gone now) := by rw [hG]; exact ordE_perm _
      have hGs : G.Pairwise (fun a b => leE a b = true) := by rw [hG]; exact ordE_sorted _
      rw [← hG] at ho5 ⊢
      have hGl : G.length = (s.gone now).length := hGp.length_eq
      have hsum : (s.gone now).length + (s.stay now).ws.length = s.ws.length := filter_len _ s.ws
      have hwr : IntKind.wrap .i64 (((G.map Wt.id).length : Nat) + (((s.stay now).list.length : Nat) : Int)) = ((s.ws.length : Nat) : Int) := by
        rw [list_len, List.length_map, hGl]
        have : (((s.gone now).length : Nat) : Int) + (((s.stay now).ws.length : Nat) : Int) = ((s.ws.length : Nat) : Int) := by omega
        rw [this, wrap64_nat (by omega)]
      refine ⟨_, _, _, rfl, br_f rfl (br_f (by rw [hwr]; simp) ?_)⟩
      have hlt4 := hl4.lt
      have hult := hr4.lt
      have hbu : u ≠ b ∧ u ≠ mb := by omega
      have hr6 := hc6.row (hc5.row hr4 (by simp; omega)) (by simp)
      have ho56 := hc6.own ho5 (.inr (by simp))
      have hc06 : Ch [] w w6 := (hc04.trans hc5 (by intro y hy; exact D y (by simp at hy ⊢; omega))).trans0 hc6
      -- a cell of the array
      have cellU : ∀ w', Ch [] w6 w' → ∀ x ∈ s.ws, 0 ≤ x.id ∧ x.id ≤ 65535 ∧ w'.cell? ⟨u, 0 + x.id.toNat * 1, none⟩ = some (.int .i64 x.until_) ∧ (x.until_ = -1 ∨ 1 ≤ x.until_) := fun w' h x hx => by
        have hb := hf.ok.bnd x hx
        obtain ⟨h1, h2⟩ := htl x hx
        refine ⟨hb.1, hb.2.1, ?_, h2⟩
        have := (h.row hr6 (by simp)).cell (o := x.id.toNat) (v := .int .i64 x.until_) h1
        rw [Nat.zero_add, Nat.mul_one]; exact this
      refine ⟨fun n i w' => ∃ j : Nat, i = j ∧ j ≤ G.length ∧ n = G.length - j ∧ Ch [] w6 w', ⟨_, 0, rfl, by omega, rfl, Ch.refl _ _⟩, ?_⟩
      rintro n dead w7 i ⟨j, rfl, hj, rfl, hc7⟩
      unfold purlinlaw14_LineExpires.L1
      simp only [List.length_map]
      have hGl60 : G.length ≤ 60 := by omega
      refine br_dec (fun hltj => ?_) fun _ => ?_
      · have hltj : j < G.length := by omega
        obtain ⟨x, hxj⟩ : ∃ x, G[j]? = some x := ⟨G[j], by simp [hltj]⟩
        obtain ⟨hxw, hxe⟩ := mem_gone.1 (hGp.mem_iff.1 (List.mem_of_getElem? hxj))
        refine drawC_intro fun w8 hc8 _ => ?_
        have hc68 := hc7.trans0 hc8
        obtain ⟨e1, e2, e3, e4⟩ := cellU w8 hc68 x hxw
        have hsl5 := (hc68.own ho56 (.inr (by simp))).slr
        refine ⟨by omega, by omega, ?_⟩
        obtain ⟨gb, go, rfl, hcell⟩ := hsl5 j x.id (by rw [List.getElem?_map, hxj]; rfl)
        simp only [okP_some, pb_some, po_some, toNat_nat]
        have hg := hcell 0 _ rfl
        have hj1 : IntKind.wrap .i64 ((j : Int) + 1) = ((j + 1 : Nat) : Int) := by rw [← Int.natCast_succ, wrap64_nat (by omega)]
        have nxt : ∃ m, m < G.length - j ∧ ∃ j_1 : Nat, IntKind.wrap .i64 ((j : Int) + 1) = j_1 ∧ j_1 ≤ G.length ∧ m = G.length - j_1 ∧ Ch [] w6 w8 := ⟨G.length - (j + 1), by omega, j + 1, hj1, by omega, rfl, hc68⟩
        unfold expd at hxe
        refine ⟨_, hg, br_dec (fun h => by omega) fun _ => ⟨by omega, by omega, _, hg, br_dec (fun h => by omega) fun _ => ⟨by omega, by omega, _, hg, by omega, by omega, _, e3, br_dec (fun h => by omega) fun _ => ⟨by omega, by omega, _, hg, by omega, by omega, _, e3, br_dec (fun h => by omega) fun _ => ?_⟩⟩⟩⟩
        refine br_dec (fun hpos => ?_) fun _ => nxt
        have hpos : 0 < j := by omega
        obtain ⟨y, hyj⟩ : ∃ y, G[j - 1]? = some y := ⟨G[j - 1]'(by omega), List.getElem?_eq_getElem (by omega)⟩
        obtain ⟨hyw, hye⟩ := mem_gone.1 (hGp.mem_iff.1 (List.mem_of_getElem? hyj))
        obtain ⟨f1, f2, f3, f4⟩ := cellU w8 hc68 y hyw
        have hm1 : IntKind.wrap .i64 ((j : Int) - 1) = ((j - 1 : Nat) : Int) := by
          have : (j : Int) - 1 = ((j - 1 : Nat) : Int) := by omega
          rw [this, wrap64_nat (by omega)]
        obtain ⟨gb', go', he', hcell'⟩ := hsl5 (j - 1) y.id (by rw [List.getElem?_map, hyj]; rfl)
        simp only [Option.some.injEq, Addr.mk.injEq, and_true] at he'
        obtain ⟨rfl, rfl⟩ := he'
        have hle : leE y x = true := by
          have := List.pairwise_iff_getElem.1 hGs (j - 1) j (by omega) hltj (by omega)
          rw [List.getElem?_eq_getElem (by omega)] at hyj
          rw [List.getElem?_eq_getElem hltj] at hxj
          rw [Option.some.inj hyj, Option.some.inj hxj] at this
          exact this
        have hle2 : y.until_ ≤ x.until_ := by simp [leE] at hle; omega
        rw [hm1]
        simp only [toNat_nat]
        refine ⟨by omega, by omega, _, hcell' 0 _ rfl, by omega, by omega, _, f3, by omega, by omega, _, hg, by omega, by omega, _, e3, br_dec (fun h => by omega) fun _ => nxt⟩
      · obtain ⟨L, hL⟩ : ∃ L, L = (s.stay now).list := ⟨_, rfl⟩
        have hLl : L.length ≤ 60 := by rw [hL, list_len]; have := hf5.len; omega
        rw [← hL] at ho6 ⊢
        refine ⟨fun n i w' => ∃ j : Nat, i = j ∧ j ≤ L.length ∧ n = L.length - j ∧ Ch [] w6 w', ⟨_, 0, rfl, by omega, rfl, hc7⟩, ?_⟩
        rintro n dead w8 i ⟨j, rfl, hj, rfl, hc8⟩
        unfold purlinlaw14_LineExpires.L2
        refine br_dec (fun hltj => ?_) fun _ => ⟨by first | exact rfl | exact True.intro, hc06.trans0 hc8⟩
        have hltj : j < L.length := by omega
        obtain ⟨y, hyj⟩ : ∃ y, L[j]? = some y := ⟨L[j], by simp [hltj]⟩
        have hym : y ∈ (s.stay now).list := by rw [← hL]; exact List.mem_of_getElem? hyj
        obtain ⟨x, hxm, rfl⟩ := List.mem_map.1 hym
        have hxs : x ∈ (s.stay now).ws := (ordL_perm _).mem_iff.1 hxm
        have hxs : x ∈ s.ws.filter (fun x => !(decide (x.until_ ≠ -1) && decide (x.until_ ≤ now))) := hxs
        obtain ⟨hxw, hxn⟩ := List.mem_filter.1 hxs
        have hxn : x.until_ = -1 ∨ now < x.until_ := by
          by_cases h : x.until_ = -1
          · exact .inl h
          · simp [h] at hxn; exact .inr hxn
        obtain ⟨e1, e2, e3, e4⟩ := cellU w8 hc8 x hxw
        have hsl6 := (hc8.own ho6 (.inr (by simp))).slr
        refine ⟨by omega, by omega, ?_⟩
        obtain ⟨gb, go, rfl, hcell⟩ := hsl6 j x.id hyj
        simp only [okP_some, pb_some, po_some, toNat_nat]
        have hg := hcell 0 _ rfl
        have hj1 : IntKind.wrap .i64 ((j : Int) + 1) = ((j + 1 : Nat) : Int) := by rw [← Int.natCast_succ, wrap64_nat (by omega)]
        have nxt : ∃ m, m < L.length - j ∧ ∃ j_1 : Nat, IntKind.wrap .i64 ((j : Int) + 1) = j_1 ∧ j_1 ≤ L.length ∧ m = L.length - j_1 ∧ Ch [] w6 w8 := ⟨L.length - (j + 1), by omega, j + 1, hj1, by omega, rfl, hc8⟩
        refine ⟨_, hg, br_dec (fun h => by omega) fun _ => ⟨by omega, by omega, _, hg, br_dec (fun h => by omega) fun _ => ⟨by omega, by omega, _, hg, by omega, by omega, _, e3, br_intro (fun h => ?_) fun _ => nxt⟩⟩⟩
        have h : x.until_ ≠ -1 := by simpa using h
        exact ⟨by omega, by omega, _, hg, by omega, by omega, _, e3, br_dec (fun h => by omega) fun _ => nxt⟩
  unfold purlinlaw14_LineExpires.L0
  refine br_dec (fun hlt => br_dec (fun hlt2 => ?_) fun _ => tail) fun _ => tail
  have hlt : k < xs.length := by omega
  have hlt2 : k < 60 := by omega
  obtain ⟨x, hxk⟩ : ∃ x, xs[k]? = some x := ⟨xs[k], by simp [hlt]⟩
  refine drawC_intro fun w5 hc5 _ => ?_
  have hc05 := hc04.trans0 hc5
  refine ⟨by omega, by omega, ?_⟩
  obtain ⟨ab, ao, rfl, hcell⟩ := (hc05.slr hx (.inr (by simp))) k x hxk
  simp only [okP_some, pb_some, po_some, toNat_nat]
  refine ⟨_, hcell 1 _ rfl, by omega, by omega, _, hcell 2 _ rfl, by omega, by omega, _, hcell 3 _ rfl, ?_⟩
  have hl5 := hl4.ch hc5 (by simp) (by simp)
  have scn := hf.cn
  refine Calls.ret (line_Put_any hl5 hf.ok hf.c0 (by omega) x.id x.prio x.until_) ?_
  rintro v w6 ⟨rfl, hl6, hc6⟩
  refine ⟨_, rfl, ?_⟩
  have hk1 : IntKind.wrap .i64 ((k : Int) + 1) = ((k + 1 : Nat) : Int) := by rw [← Int.natCast_succ, wrap64_nat (by omega)]
  have hlt4 := hl4.lt
  have hult := hr4.lt
  have hub : u ≠ b ∧ u ≠ mb := by
    have := hl3.lt
    omega
  have hr6 := hc6.row (hc5.row hr4 (by simp)) (by simp; omega)
  have hc06 : Ch [] w w6 := hc05.trans hc6 (by intro y hy; exact D y (by simp at hy ⊢; omega))
  have hc26 : Ch [b, mb, u] w2 w6 := (hc4.trans0 hc5).trans hc6 (by intro y hy; left; simp at hy ⊢; omega)
  have hf6 := hf.put x.id x.prio x.until_
  have hnow6 : (s.put x.id x.prio x.until_).now = 0 := by rw [LS.put_now]; exact hnow
  refine br_intro (fun he => ?_) fun he => ?_
  · have he : s.err x.id x.prio x.until_ = 0 := by simpa using he
    obtain ⟨i1, i2, i3, i4, i5⟩ := LS.err_zero he
    refine drawC_intro fun w7 hc7 _ => ?_
    have hc07 := hc06.trans0 hc7
    obtain ⟨ab6, ao6, he6, hcell6⟩ := (hc07.slr hx (.inr (by simp))) k x hxk
    simp only [Option.some.injEq, Addr.mk.injEq, and_true] at he6
    obtain ⟨rfl, rfl⟩ := he6
    refine ⟨by omega, by omega, _, hcell6 1 _ rfl, by omega, by omega, _, hcell6 3 _ rfl, by omega, by omega, ?_⟩
    have hxi : x.id.toNat < U.length := by omega
    refine storeC_row (hc7.row hr6 (by simp)) (by simp; omega) fun w8 hr8 hc8 _ => ?_
    rw [Nat.zero_add, Nat.mul_one, splice_one hxi] at hr8
    have hput : s.put x.id x.prio x.until_ = s.add x.id x.prio x.until_ := by unfold LS.put; rw [if_pos he]
    have hpl : (s.put x.id x.prio x.until_).ws.length = s.ws.length + 1 := by rw [hput]; simp [LS.add]
    have hcnt : IntKind.wrap .i64 (((s.ws.length : Nat) : Int) + 1) = (((s.put x.id x.prio x.until_).ws.length : Nat) : Int) := by
      rw [hpl, ← Int.natCast_succ, wrap64_nat (by omega)]
    refine ⟨60 - (k + 1), by omega, k + 1, s.put x.id x.prio x.until_, U.set x.id.toNat (.int .i64 x.until_), hk1, by omega, rfl, hcnt, hf6, hnow6, (hl6.ch hc7 (by simp) (by simp)).ch hc8 (by simp; omega) (by simp; omega), by simp [hUl], hr8, ?_, (hc26.trans0 hc7).trans hc8 (by simp)⟩
    intro y hy
    rw [hput] at hy
    have hy : y ∈ s.ws ++ [⟨x.id, x.prio, x.until_, s.came + 1⟩] := hy
    rcases List.mem_append.1 hy with hy | hy
    · obtain ⟨h1, h2⟩ := htl y hy
      refine ⟨?_, h2⟩
      have hyb := hf.ok.bnd y hy
      have hne : y.id ≠ x.id := fun h => by
        have : s.has x.id = true := LS.has_iff.2 ⟨y, hy, h⟩
        rw [i5] at this; cases this
      rw [List.getElem?_set_ne (by omega)]; exact h1
    · simp at hy; subst hy
      refine ⟨by rw [List.getElem?_set_self hxi], ?_⟩
      unfold LS.err at he
      rw [if_neg (by omega), if_neg (by omega)] at he
      by_cases h3 : x.until_ ≠ -1 ∧ (x.until_ ≤ s.now ∨ 1099511627776 < x.until_)
      · rw [if_pos h3] at he; omega
      · rw [hnow] at h3
        show x.until_ = -1 ∨ 1 ≤ x.until_
        omega
  · have he : s.err x.id x.prio x.until_ ≠ 0 := by simpa using he
    have hput : s.put x.id x.prio x.until_ = s := by unfold LS.put; rw [if_neg he]
    rw [hput] at hl6
    exact ⟨60 - (k + 1), by omega, k + 1, s, U, hk1, by omega, rfl, rfl, hf.mono (by omega), hnow, hl6, hUl, hr6, htl, hc26⟩
end Go.Proofs.Ytgkbokhmmoemfaa
