/- Processes: the document's table and ours, alike. Conditions: none. -/
import Derived.Test.YtecacohkkdhphaaPrE
import Derived.Test.YtecacohkkdhphaaPrM
namespace Go.Proofs.Ytecacohkkdhphaa
open Go.Vc Go.Sort
set_option linter.unusedSimpArgs false
set_option linter.unusedVariables false
set_option maxRecDepth 100000

def strip (x : Pr) : Pr := ⟨x.st, x.held, x.prio, 0⟩
structure Like (t : PT) (U : RT) : Prop where
  pr : U.pr = t.pr
  l : U.l = t.l.map strip
  off : ∃ o : Int, t.came = o + U.cm.length ∧ ∀ (i : Nat) (x : Pr), t.l[i]? = some x → x.st ≠ 0 → x.came = o + lastC U.cm i + 1

theorem strip_is (k : Int) (x : Pr) : opIs k (strip x) = opIs k x := rfl
theorem strip_do {k f p : Int} {x : Pr} : rDo k f p (strip x) = ⟨if k = 0 ∨ k = 3 then 1 else (opDo k f p x).st, (opDo k f p x).held, (opDo k f p x).prio, 0⟩ := by
  unfold rDo opDo strip dorm
  split <;> (repeat (split <;> try rfl))
theorem like_new {pr : List Int} (h : prErr pr = 0) : Like (PT.new pr) (RT.mkN pr) := by
  have e : RT.mkN pr = ⟨pr, pr.map dorm, []⟩ := by unfold RT.mkN; rw [if_pos h]
  rw [e]
  refine ⟨rfl, ?_, 0, rfl, ?_⟩
  · simp [PT.new, strip, dorm, Function.comp_def]
  · intro i x hx hs
    simp only [PT.new, List.getElem?_map] at hx
    cases hp : pr[i]? with
    | none => rw [hp] at hx; cases hx
    | some p => rw [hp] at hx; simp at hx; subst hx; exact absurd rfl hs
theorem fit_prErr {t : PT} {n : Nat} (h : t.fit n) : prErr t.pr = 0 := by
  have h1 := h.one
  have h2 := h.most
  unfold prErr
  rw [if_neg (by omega), if_neg]
  simp
  exact fun p hp => (h.prio p hp).2
theorem doE_parts {t : PT} {k p : Int} {j : Nat} {x : Pr} (hx : t.l[j]? = some x) (h8 : k ≠ 8) (h6 : ¬ (k = 6 ∧ (p < 0 ∨ 63 < p))) :
    t.doE k (j : Int) p = (if opIs k x = true then 0 else 171) ∧ t.doS k (j : Int) p = if opIs k x = true then t.put j (opDo k (t.first j) p x) (opZ k) else t := by
  have hj := (List.getElem?_eq_some_iff.1 hx).1
  have hin : ¬ ((j : Int) < 0 ∨ (t.l.length : Int) ≤ j) := by omega
  have e : ∀ q, t.opE k (j : Int) = (if opIs k x = true then 0 else 171) ∧ t.opS k (j : Int) q = if opIs k x = true then t.put j (opDo k (t.first j) q x) (opZ k) else t := by
    intro q
    unfold PT.opE PT.opS PT.withE PT.withS
    rw [if_neg hin, if_neg hin, toNat_nat, hx]
    exact ⟨rfl, rfl⟩
  unfold PT.doE PT.doS
  rw [if_neg h8, if_neg h8]
  by_cases hk : k = 6
  · rw [if_pos hk, if_pos hk]
    unfold PT.raiseE PT.raiseS
    rw [if_neg (fun h => h6 ⟨hk, h⟩), if_neg (fun h => h6 ⟨hk, h⟩)]
    subst hk
    exact e p
  · rw [if_neg hk, if_neg hk]
    have e0 := e 0
    refine ⟨e0.1, ?_⟩
    rw [e0.2]
    have : opDo k (t.first j) 0 x = opDo k (t.first j) p x := by unfold opDo; rw [if_neg hk, if_neg hk]
    rw [this]
theorem map_set' (l : List Pr) (j : Nat) (y : Pr) : (l.set j y).map strip = (l.map strip).set j (strip y) := by
  rw [List.map_set]
theorem like_do {t : PT} {U : RT} {n : Nat} (h : Like t U) (hi : t.inv n) {k i p : Int} (hk : okKind k) : t.doE k i p = U.doE k i p ∧ Like (t.doS k i p) (U.doS k i p) := by
  have hlen : U.l.length = t.l.length := by rw [h.l]; simp
  have hpl : t.l.length = t.pr.length := hi.fit.len
  by_cases h8 : k = 8
  · refine ⟨by unfold PT.doE RT.doE; rw [if_pos h8, if_pos h8], ?_⟩
    unfold PT.doS RT.doS
    rw [if_pos h8, if_pos h8, h.pr]
    have e : RT.mkN t.pr = ⟨t.pr, t.pr.map dorm, []⟩ := by unfold RT.mkN; rw [if_pos (fit_prErr hi.fit)]
    rw [e]
    refine ⟨rfl, ?_, t.came, by simp [PT.reset], ?_⟩
    · simp [PT.reset, strip, dorm, Function.comp_def]
    · intro i x hx hs
      simp only [PT.reset, List.getElem?_map] at hx
      cases hp : t.pr[i]? with
      | none => rw [hp] at hx; cases hx
      | some p => rw [hp] at hx; simp at hx; subst hx; exact absurd rfl hs
  by_cases hin : i < 0 ∨ (t.l.length : Int) ≤ i
  · have e1 : U.doE k i p = 170 := by unfold RT.doE; rw [if_neg h8, hlen, if_pos hin]
    have e2 : U.doS k i p = U := by unfold RT.doS; rw [if_neg h8, e1, if_neg (by decide)]
    rw [e1, e2]
    unfold PT.doE PT.doS PT.raiseE PT.raiseS PT.opE PT.opS PT.withE PT.withS
    simp only [if_neg h8, if_pos hin]
    refine ⟨?_, ?_⟩
    · split
      · split <;> rfl
      · rfl
    · split
      · split <;> exact h
      · exact h
  by_cases h6 : k = 6 ∧ (p < 0 ∨ 63 < p)
  · have e1 : U.doE k i p = 172 := by unfold RT.doE; rw [if_neg h8, hlen, if_neg hin, if_pos h6]
    have e2 : U.doS k i p = U := by unfold RT.doS; rw [if_neg h8, e1, if_neg (by decide)]
    rw [e1, e2]
    unfold PT.doE PT.doS PT.raiseE PT.raiseS
    rw [if_neg h8, if_neg h8, if_pos h6.1, if_pos h6.1, if_pos h6.2, if_pos h6.2, if_neg hin]
    exact ⟨rfl, h⟩
  obtain ⟨j, rfl⟩ := Int.eq_ofNat_of_zero_le (show 0 ≤ i by omega)
  have hj : j < t.l.length := by omega
  obtain ⟨x, hx⟩ : ∃ x, t.l[j]? = some x := ⟨_, List.getElem?_eq_getElem hj⟩
  obtain ⟨f, hf⟩ : ∃ f, t.pr[j]? = some f := ⟨_, List.getElem?_eq_getElem (by omega)⟩
  have hUx : U.l[j]? = some (strip x) := by rw [h.l, List.getElem?_map, hx]; rfl
  obtain ⟨d1, d2⟩ := doE_parts (p := p) hx h8 h6
  have e1 : U.doE k (j : Int) p = if opIs k x = true then 0 else 171 := by
    unfold RT.doE; rw [if_neg h8, hlen, if_neg hin, if_neg h6, toNat_nat, hUx]; rfl
  refine ⟨by rw [d1, e1], ?_⟩
  rw [d2]
  by_cases ho : opIs k x = true
  · have e2 : U.doS k (j : Int) p = ⟨U.pr, U.l.set j (rDo k f p (strip x)), if behindK k = true then U.cm ++ [(j : Int)] else U.cm⟩ := by
      unfold RT.doS
      rw [if_neg h8, e1, if_pos ho, if_pos rfl, toNat_nat, hUx, h.pr, hf]; rfl
    rw [if_pos ho, e2, strip_do]
    have hff : t.first (j : Int) = f := by unfold PT.first; rw [toNat_nat, hf]; rfl
    rw [hff]
    obtain ⟨o, ho1, ho2⟩ := h.off
    obtain ⟨y, hy⟩ : ∃ y, y = opDo k f p x := ⟨_, rfl⟩
    rw [← hy]
    -- what the change leaves, in general
    have gen : ∀ (Y : Pr) (cm : List Int) (came : Int), strip Y = ⟨if k = 0 ∨ k = 3 then 1 else y.st, y.held, y.prio, 0⟩ → came = o + cm.length →
        (Y.st ≠ 0 → Y.came = o + lastC cm j + 1) → (∀ i : Nat, i ≠ j → lastC cm i = lastC U.cm i) →
        Like ⟨t.pr, t.l.set j Y, came⟩ ⟨U.pr, U.l.set j ⟨if k = 0 ∨ k = 3 then 1 else y.st, y.held, y.prio, 0⟩, cm⟩ := by
      intro Y cm came g1 g2 g3 g4
      refine ⟨h.pr, by rw [h.l, ← g1, map_set'], o, g2, ?_⟩
      intro i z hz hzs
      by_cases hij : i = j
      · subst hij
        rw [show (PT.mk t.pr (t.l.set i Y) came).l = t.l.set i Y from rfl, List.getElem?_set_self hj] at hz
        cases hz
        exact g3 hzs
      · rw [show (PT.mk t.pr (t.l.set j Y) came).l = t.l.set j Y from rfl, List.getElem?_set_ne (Ne.symm hij)] at hz
        rw [ho2 i z hz hzs, g4 i hij]
    have la : ∀ i : Nat, i ≠ j → lastC (U.cm ++ [(j : Int)]) i = lastC U.cm i := fun i hi => by rw [lastC_app, if_neg (by omega)]
    have lj : lastC (U.cm ++ [(j : Int)]) j = U.cm.length := by rw [lastC_app, if_pos rfl]
    unfold okKind at hk
    have hkc : k = 0 ∨ k = 3 ∨ (k = 5 ∨ k = 6 ∨ k = 7) ∨ (k = 1 ∨ k = 2 ∨ k = 4) := by omega
    rcases hkc with hk0 | hk0 | hk0 | hk0
    · have hz : opZ k = 1 := by rw [hk0]; rfl
      rw [hz]
      unfold PT.put
      rw [if_pos rfl, if_pos (show behindK k = true by rw [hk0]; rfl)]
      exact gen _ _ _ (by unfold strip; rw [if_pos (.inl hk0)]) (by simp; omega) (fun _ => by rw [lj]; show t.came + 1 = _; omega) la
    · have hz : opZ k = 1 := by rw [hk0]; rfl
      rw [hz]
      unfold PT.put
      rw [if_pos rfl, if_pos (show behindK k = true by rw [hk0]; rfl)]
      exact gen _ _ _ (by unfold strip; rw [if_pos (.inr hk0)]) (by simp; omega) (fun _ => by rw [lj]; show t.came + 1 = _; omega) la
    · have hz : opZ k = 2 := by unfold opZ; rw [if_neg (by omega), if_pos hk0]
      rw [hz]
      unfold PT.put
      rw [if_neg (by decide), if_pos rfl, if_pos (show behindK k = true by unfold behindK; simp; omega)]
      exact gen _ _ _ (by unfold strip; rw [if_neg (by omega)]) (by simp; omega) (fun _ => by rw [lj]; show t.came + 1 = _; omega) la
    · have hz : opZ k = 0 := by unfold opZ; rw [if_neg (by omega), if_neg (by omega)]
      rw [hz]
      unfold PT.put
      rw [if_neg (by decide), if_neg (by decide), if_neg (show ¬ behindK k = true by unfold behindK; simp; omega)]
      refine gen _ _ _ (by unfold strip; rw [if_neg (by omega)]) ho1 (fun hs => ?_) fun _ _ => rfl
      have hcame : x.came = o + lastC U.cm j + 1 := by
        refine ho2 j x hx ?_
        rcases hk0 with h1 | h1 | h1
        · rw [h1] at ho; simpa [opIs, Pr.alive] using ho
        · rw [h1] at ho
          have : x.may = true := by simpa [opIs] using ho
          exact may_st this
        · rw [h1] at ho
          have : x.alive = true ∧ x.held = false := by simpa [opIs] using ho
          simpa [Pr.alive] using this.1
      rcases hk0 with h1 | h1 | h1
      · exfalso; apply hs; rw [hy, h1]; simp [opDo, dorm]
      · rw [hy, h1]; simpa [opDo] using hcame
      · rw [hy, h1]; simpa [opDo] using hcame
  · have e2 : U.doS k (j : Int) p = U := by
      unfold RT.doS; rw [if_neg h8, e1, if_neg ho, if_neg (by decide)]
    rw [if_neg ho, e2]; exact h

/-! ### Order, told apart -/
theorem order_unique {t : PT} (hg : t.good) {ys : List Int} (hm : ∀ y, y ∈ ys ↔ ∃ i : Nat, y = i ∧ i < t.l.length ∧ (t.at (i : Int)).may = true) (hs : ys.Pairwise (fun a b => lePr (t.at a) (t.at b) = true ∧ a ≠ b)) : ys = t.order := by
  have hlt : ∀ y ∈ ys, y.toNat < t.l.length ∧ (y.toNat : Int) = y := by
    intro y hy
    obtain ⟨i, rfl, hi, _⟩ := (hm y).1 hy
    rw [toNat_nat]; exact ⟨hi, rfl⟩
  obtain ⟨zs, hzs⟩ : ∃ zs : List (Fin t.l.length), zs = ys.pmap (fun y h => ⟨y.toNat, h⟩) (fun y hy => (hlt y hy).1) := ⟨_, rfl⟩
  have hmap : zs.map (fun i => (i.val : Int)) = ys := by
    rw [hzs, List.map_pmap]
    have : ys.pmap (fun y (_ : y.toNat < t.l.length) => (y.toNat : Int)) (fun y hy => (hlt y hy).1) = ys.map (fun y => (y.toNat : Int)) := by
      rw [List.pmap_eq_map]
    rw [this]
    conv => rhs; rw [← List.map_id ys]
    exact List.map_congr_left fun y hy => (hlt y hy).2
  have hpw : zs.Pairwise (fun a b => leI t a b = true ∧ a ≠ b) := by
    rw [← hmap, List.pairwise_map] at hs
    exact hs.imp fun {a b} h => ⟨h.1, fun e => h.2 (by rw [e])⟩
  have hnd : zs.Nodup := hpw.imp fun {a b} h => h.2
  have hnd2 : t.mays.Nodup := List.Nodup.sublist List.filter_sublist (List.nodup_finRange _)
  have hperm : zs.Perm t.mays := by
    rw [List.perm_ext_iff_of_nodup hnd hnd2]
    intro a
    have h1 : a ∈ zs ↔ (a.val : Int) ∈ ys := by
      rw [← hmap, List.mem_map]
      exact ⟨fun h => ⟨a, h, rfl⟩, fun ⟨c, hc, he⟩ => by
        have : c = a := Fin.ext (by omega)
        exact this ▸ hc⟩
    rw [h1, hm]
    unfold PT.mays
    rw [List.mem_filter]
    constructor
    · rintro ⟨i, he, hi, hmay⟩
      have : a.val = i := by omega
      exact ⟨List.mem_finRange a, by rw [this]; exact hmay⟩
    · rintro ⟨_, h⟩
      exact ⟨a.val, rfl, a.isLt, h⟩
  have := orderF_eq hg hperm (hpw.imp fun {a b} h => h.1)
  unfold PT.order
  rw [← this, hmap]
theorem order_mem {t : PT} (y : Int) : y ∈ t.order ↔ ∃ i : Nat, y = i ∧ i < t.l.length ∧ (t.at (i : Int)).may = true := by
  have hp : t.orderF.Perm t.mays := List.mergeSort_perm _ _
  unfold PT.order
  rw [List.mem_map]
  constructor
  · rintro ⟨a, ha, rfl⟩
    exact ⟨a.val, rfl, a.isLt, (List.mem_filter.1 (hp.mem_iff.1 ha)).2⟩
  · rintro ⟨i, rfl, hi, h⟩
    exact ⟨⟨i, hi⟩, hp.mem_iff.2 (List.mem_filter.2 ⟨List.mem_finRange _, h⟩), rfl⟩
theorem order_pw (t : PT) : t.order.Pairwise (fun a b => lePr (t.at a) (t.at b) = true ∧ a ≠ b) := by
  have hp : t.orderF.Perm t.mays := List.mergeSort_perm _ _
  have hs : t.orderF.Pairwise (fun a b => leI t a b = true) := List.pairwise_mergeSort (leI_trans t) (leI_total t) t.mays
  have hnd2 : t.mays.Nodup := List.Nodup.sublist List.filter_sublist (List.nodup_finRange _)
  have hnd : t.orderF.Nodup := hp.nodup_iff.2 hnd2
  unfold PT.order
  rw [List.pairwise_map]
  exact (List.pairwise_and_iff.2 ⟨hs, hnd⟩).imp fun {a b} h => ⟨h.1, fun e => h.2 (Fin.ext (by omega))⟩

/-- A process told to wait. -/
def PT.mark (t : PT) (j : Nat) : PT := ⟨t.pr, t.l.set j ⟨2, (t.at (j : Int)).held, (t.at (j : Int)).prio, (t.at (j : Int)).came⟩, t.came⟩
theorem mark_at {t : PT} {j i : Nat} (h : i ≠ j) : (t.mark j).at (i : Int) = t.at (i : Int) := by
  unfold PT.at PT.mark
  rw [toNat_nat]
  show ((t.l.set j _)[i]?).getD default = _
  rw [List.getElem?_set_ne (Ne.symm h)]
theorem mark_get {t : PT} {j i : Nat} {x : Pr} (hm : (t.at (j : Int)).may = true) (hx : (t.mark j).l[i]? = some x) : ∃ y, t.l[i]? = some y ∧ x.prio = y.prio ∧ x.came = y.came ∧ (x.st ≠ 0 → y.st ≠ 0) := by
  by_cases h : i = j
  · subst h
    have hl : i < t.l.length := by
      have := (List.getElem?_eq_some_iff.1 hx).1; simpa [PT.mark] using this
    have hx : (t.l.set i ⟨2, (t.at (i : Int)).held, (t.at (i : Int)).prio, (t.at (i : Int)).came⟩)[i]? = some x := hx
    rw [List.getElem?_set_self hl] at hx
    cases hx
    exact ⟨_, at_fin hl, rfl, rfl, fun _ => may_st hm⟩
  · have hx : (t.l.set j ⟨2, (t.at (j : Int)).held, (t.at (j : Int)).prio, (t.at (j : Int)).came⟩)[i]? = some x := hx
    rw [List.getElem?_set_ne (Ne.symm h)] at hx
    exact ⟨x, hx, rfl, rfl, id⟩
theorem mark_good {t : PT} {j : Nat} (hm : (t.at (j : Int)).may = true) (hg : t.good) : (t.mark j).good := by
  refine ⟨?_, ?_⟩
  · intro i i2 x x2 hx hx2 hs hs2 hc
    obtain ⟨y, hy, _, e1, f1⟩ := mark_get hm hx
    obtain ⟨y2, hy2, _, e2, f2⟩ := mark_get hm hx2
    exact hg.uniq i i2 y y2 hy hy2 (f1 hs) (f2 hs2) (by omega)
  · intro i x hx
    obtain ⟨y, hy, _, e1, _⟩ := mark_get hm hx
    have := hg.le i y hy
    show x.came ≤ t.came
    omega
theorem mark_order {t : PT} {j : Nat} {r : List Int} (hg : t.good) (ho : t.order = (j : Int) :: r) : (t.at (j : Int)).may = true ∧ j < t.l.length ∧ (t.mark j).order = r := by
  obtain ⟨i, he, hj, hm⟩ := (order_mem (t := t) (j : Int)).1 (by rw [ho]; exact List.mem_cons_self)
  have he : j = i := by omega
  subst he
  refine ⟨hm, hj, ?_⟩
  have hpw := order_pw t
  rw [ho] at hpw
  obtain ⟨p1, p2⟩ := List.pairwise_cons.1 hpw
  have hlen : (t.mark j).l.length = t.l.length := by simp [PT.mark]
  have hne : ∀ y ∈ r, ∃ i : Nat, y = i ∧ i ≠ j ∧ i < t.l.length ∧ (t.at (i : Int)).may = true := by
    intro y hy
    obtain ⟨i, rfl, hi, him⟩ := (order_mem (t := t) y).1 (by rw [ho]; exact List.mem_cons_of_mem _ hy)
    exact ⟨i, rfl, fun e => (p1 _ hy).2 (by rw [e]), hi, him⟩
  symm
  refine order_unique (mark_good hm hg) (fun y => ⟨fun hy => ?_, ?_⟩) ?_
  · obtain ⟨i, rfl, hij, hi, him⟩ := hne y hy
    exact ⟨i, rfl, by rw [hlen]; exact hi, by rw [mark_at hij]; exact him⟩
  · rintro ⟨i, rfl, hi, him⟩
    have hij : i ≠ j := by
      intro e; subst e
      have : (t.mark i).at (i : Int) = ⟨2, (t.at (i : Int)).held, (t.at (i : Int)).prio, (t.at (i : Int)).came⟩ := by
        show ((t.l.set i _)[((i : Int)).toNat]?).getD default = _
        rw [toNat_nat, List.getElem?_set_self hj]; rfl
      rw [this] at him; simp [Pr.may] at him
    rw [mark_at hij] at him
    have := (order_mem (t := t) (i : Int)).2 ⟨i, rfl, by rw [← hlen]; exact hi, him⟩
    rw [ho] at this
    rcases List.mem_cons.1 this with h | h
    · exact absurd (by omega) hij
    · exact h
  · refine List.Pairwise.imp_of_mem (fun {a b} ha hb h => ?_) p2
    obtain ⟨i, rfl, hij, _⟩ := hne a ha
    obtain ⟨i2, rfl, hij2, _⟩ := hne b hb
    rw [mark_at hij, mark_at hij2]; exact h
def RT.mark (U : RT) (j : Nat) : RT := ⟨U.pr, U.l.set j ⟨2, (U.l[j]?.getD default).held, (U.l[j]?.getD default).prio, 0⟩, U.cm⟩
theorem mark_like {t : PT} {U : RT} {j : Nat} (hm : (t.at (j : Int)).may = true) (hj : j < t.l.length) (h : Like t U) : Like (t.mark j) (U.mark j) := by
  have hx := at_fin hj
  have hU : U.l[j]?.getD default = strip (t.at (j : Int)) := by rw [h.l, List.getElem?_map, hx]; rfl
  obtain ⟨o, h1, h2⟩ := h.off
  refine ⟨h.pr, ?_, o, h1, ?_⟩
  · unfold RT.mark PT.mark
    rw [hU]
    show U.l.set j _ = (t.l.set j _).map strip
    rw [map_set', h.l]; rfl
  · intro i x hx hs
    obtain ⟨y, hy, _, e1, f1⟩ := mark_get hm hx
    rw [e1]
    exact h2 i y hy (f1 hs)

/-! ### Running -/
def Best (t : PT) (p : Int) (k : Nat) (best : Int) : Prop :=
  (best = -1 ∧ ∀ j : Nat, j < k → (t.at (j : Int)).may = true → (t.at (j : Int)).prio ≠ p) ∨
  ∃ g : Nat, best = g ∧ g < k ∧ (t.at (g : Int)).may = true ∧ (t.at (g : Int)).prio = p ∧ ∀ j : Nat, j < k → (t.at (j : Int)).may = true → (t.at (j : Int)).prio = p → (t.at (g : Int)).came ≤ (t.at (j : Int)).came
theorem Best.keep {t : PT} {p best : Int} {k : Nat} (h : Best t p k best) (hn : (t.at (k : Int)).may = true → (t.at (k : Int)).prio ≠ p) : Best t p (k + 1) best := by
  rcases h with ⟨rfl, h⟩ | ⟨g, rfl, h1, h2, h3, h4⟩
  · refine .inl ⟨rfl, fun j hj hm => ?_⟩
    by_cases hjk : j = k
    · subst hjk; exact hn hm
    · exact h j (by omega) hm
  · refine .inr ⟨g, rfl, by omega, h2, h3, fun j hj hm hp => ?_⟩
    by_cases hjk : j = k
    · subst hjk; exact absurd hp (hn hm)
    · exact h4 j (by omega) hm hp
theorem Best.new {t : PT} {p best : Int} {k : Nat} (h : Best t p k best) (hb : best < 0) (hm : (t.at (k : Int)).may = true) (hp : (t.at (k : Int)).prio = p) : Best t p (k + 1) k := by
  rcases h with ⟨rfl, h⟩ | ⟨g, rfl, _⟩
  · refine .inr ⟨k, rfl, by omega, hm, hp, fun j hj hjm hjp => ?_⟩
    by_cases hjk : j = k
    · subst hjk; exact Int.le_refl _
    · exact absurd hjp (h j (by omega) hjm)
  · omega
theorem Best.lt {t : PT} {p : Int} {k g : Nat} (h : Best t p k g) (hm : (t.at (k : Int)).may = true) (hp : (t.at (k : Int)).prio = p) (hc : (t.at (k : Int)).came < (t.at (g : Int)).came) : Best t p (k + 1) k := by
  rcases h with ⟨h0, h⟩ | ⟨g', he, h1, h2, h3, h4⟩
  · omega
  · have : g = g' := by omega
    subst this
    refine .inr ⟨k, rfl, by omega, hm, hp, fun j hj hjm hjp => ?_⟩
    by_cases hjk : j = k
    · subst hjk; exact Int.le_refl _
    · have := h4 j (by omega) hjm hjp; omega
theorem Best.ge {t : PT} {p : Int} {k g : Nat} (h : Best t p k g) (hc : ¬ (t.at (k : Int)).came < (t.at (g : Int)).came) : Best t p (k + 1) g := by
  rcases h with ⟨h0, h⟩ | ⟨g', he, h1, h2, h3, h4⟩
  · omega
  · have : g = g' := by omega
    subst this
    refine .inr ⟨g, rfl, by omega, h2, h3, fun j hj hjm hjp => ?_⟩
    by_cases hjk : j = k
    · subst hjk; omega
    · exact h4 j (by omega) hjm hjp
theorem Best.ends {t : PT} {best : Int} {q : Nat} (hg : t.good) (h : Best t ((q : Int) - 1) t.l.length best) (hmx : ∀ j : Nat, j < t.l.length → (t.at (j : Int)).may = true → (t.at (j : Int)).prio < q) :
    (best ≥ 0 → t.order.head? = some best) ∧ (best < 0 → ∀ j : Nat, j < t.l.length → (t.at (j : Int)).may = true → (t.at (j : Int)).prio < (q : Int) - 1) := by
  rcases h with ⟨rfl, h⟩ | ⟨g, rfl, h1, h2, h3, h4⟩
  · refine ⟨fun h => by omega, fun _ j hj hm => ?_⟩
    have := hmx j hj hm
    have := h j hj hm
    omega
  · refine ⟨fun _ => order_head hg (i := ⟨g, h1⟩) h2 fun j hj => ?_, fun h => by omega⟩
    have a1 := hmx j.val j.isLt hj
    have a2 := h4 j.val j.isLt hj
    have : (t.at (j.val : Int)).prio < (t.at (g : Int)).prio ∨ (t.at (g : Int)).prio = (t.at (j.val : Int)).prio ∧ (t.at (g : Int)).came ≤ (t.at (j.val : Int)).came := by
      by_cases hp : (t.at (j.val : Int)).prio = (q : Int) - 1
      · exact .inr ⟨by omega, a2 hp⟩
      · exact .inl (by omega)
    simpa [leI, lePr] using this

theorem sub_app {L : List HP} : ∀ {P : List HP}, Sub L (P ++ L)
  | [] => Sub.rfl
  | _ :: P => Sub.skip (sub_app (P := P))
section
variable {e w : World} {m : Hp} {L : List HP} {a a1 a2 : Option Addr} {n1 c c1 c2 : Nat} {U : RT} {t : PT}
theorem ref17_Running_sp (H : St e m w L) (h : Like t U) (hs1 : ∀ w, St e m w L → SlR encD w a1 U.l) (hs2 : ∀ w, St e m w L → SlR (Enc.int .i64) w a2 U.cm) (hg : t.good)
    (hp : ∀ (i : Nat) (y : Pr), t.l[i]? = some y → 0 ≤ y.prio ∧ y.prio ≤ 63) (hl : t.l.length ≤ 16) (hcm : U.cm.length ≤ 1000000) :
    Calls Try.prog 27 #[.agg #[.slice a n1 c, .slice a1 U.l.length c1, .slice a2 U.cm.length c2]] w (Ret fun v w' => v = .tuple #[.int .i64 (t.order.head?.getD 0), .bool t.order.head?.isSome] ∧ St e m w' L) := by
  have hlen : U.l.length = t.l.length := by rw [h.l]; simp
  obtain ⟨o, _, hoff⟩ := h.off
  apply purlinref17_Running.calls
  unfold purlinref17_Running.F
  refine H.new fun b w H => ?_
  refine ⟨fun n prio w' => ∃ q : Nat, prio = (q : Int) - 1 ∧ q ≤ 64 ∧ n = q ∧ (∀ j : Nat, j < t.l.length → (t.at (j : Int)).may = true → (t.at (j : Int)).prio < q) ∧
      St e m w' (row b 42 [.slice a n1 c, .slice a1 U.l.length c1, .slice a2 U.cm.length c2] :: L),
    ⟨_, 64, rfl, by omega, rfl, fun j hj _ => by have := hp j _ (at_fin hj); omega, H⟩, ?_⟩
  rintro n9 dead w2 prio ⟨q, rfl, hq, rfl, hmx, H⟩
  unfold purlinref17_Running.L0
  refine br_dec (fun hq0 => ?_) fun hq0 => ?_
  · refine ⟨fun n best i w' => ∃ k : Nat, i = k ∧ k ≤ t.l.length ∧ n = t.l.length - k ∧ Best t ((n9 : Int) - 1) k best ∧ St e m w' (row b 42 [.slice a n1 c, .slice a1 U.l.length c1, .slice a2 U.cm.length c2] :: L),
      ⟨_, 0, rfl, by omega, rfl, .inl ⟨rfl, fun j hj => by omega⟩, H⟩, ?_⟩
    rintro n10 dead w3 best i ⟨k, rfl, hk, rfl, hB, H⟩
    unfold purlinref17_Running.L1
    refine ⟨_, _, _, H.ld, ?_⟩
    refine br_dec (fun hlt => ?_) fun hge => ?_
    · have hlt : k < t.l.length := by omega
      have hx := at_fin hlt
      have hUx : U.l[k]? = some (strip (t.at (k : Int))) := by rw [h.l, List.getElem?_map, hx]; rfl
      refine ⟨_, _, _, H.ld, by omega, by omega, ?_⟩
      obtain ⟨g, go, rfl, hcell⟩ := (hs1 _ H.drop) k _ hUx
      simp only [okP_some, pb_some, po_some, toNat_nat]
      refine ⟨_, hcell 0 _ rfl, _, hcell 1 _ rfl, _, hcell 2 _ rfl, ?_⟩
      refine H.new fun b1 w H => H.st fun w H => ?_
      have H : St e m w (row b 42 [.slice a n1 c, .slice (some ⟨g, go, none⟩) U.l.length c1, .slice a2 U.cm.length c2] :: row b1 60 [.int .i64 (t.at (k : Int)).st, .bool (t.at (k : Int)).held, .int .i64 (t.at (k : Int)).prio] :: L) := H.re
      refine H.drwS (fun w => w.cell? ⟨b, 0, none⟩ = some (.slice a n1 c) ∧ w.cell? ⟨b, 1, none⟩ = some (.slice (some ⟨g, go, none⟩) U.l.length c1) ∧ w.cell? ⟨b, 2, none⟩ = some (.slice a2 U.cm.length c2)) (fun w H => ⟨H.ld, H.ld, H.ld⟩) fun w H => ?_
      have hk1 : IntKind.wrap .i64 ((k : Int) + 1) = ((k + 1 : Nat) : Int) := by rw [← Int.natCast_succ, wrap64_nat (by omega)]
      have no : ∀ {w' : World} {bb : Int}, Best t ((n9 : Int) - 1) (k + 1) bb → St e m w' (row b 42 [.slice a n1 c, .slice (some ⟨g, go, none⟩) U.l.length c1, .slice a2 U.cm.length c2] :: row b1 60 [.int .i64 (t.at (k : Int)).st, .bool (t.at (k : Int)).held, .int .i64 (t.at (k : Int)).prio] :: L) →
          ∃ m_1, m_1 < t.l.length - k ∧ ∃ k_1 : Nat, IntKind.wrap .i64 ((k : Int) + 1) = k_1 ∧ k_1 ≤ t.l.length ∧ m_1 = t.l.length - k_1 ∧ Best t ((n9 : Int) - 1) k_1 bb ∧ St e m w' (row b 42 [.slice a n1 c, .slice (some ⟨g, go, none⟩) U.l.length c1, .slice a2 U.cm.length c2] :: L) :=
        fun hB H => ⟨t.l.length - (k + 1), by omega, k + 1, hk1, by omega, rfl, hB, H.re⟩
      refine ⟨_, H.ld, br_intro (fun h1 => ⟨_, H.ld, br_intro (fun h2 => ⟨_, H.ld, br_intro (fun h3 => ?_) fun h3 => no (hB.keep fun _ => by simpa using h3) H⟩) fun h2 => no (hB.keep fun hm => by simp [Pr.may] at hm; simp [hm.2] at h2) H⟩) fun h1 => no (hB.keep fun hm => by simp [Pr.may] at hm; simp [hm.1] at h1) H⟩
      have hm : (t.at (k : Int)).may = true := by simp at h1 h2; simp [Pr.may, h1, h2]
      have hpr : (t.at (k : Int)).prio = (n9 : Int) - 1 := by simpa using h3
      refine br_dec (fun hb => no (hB.new hb hm hpr) H) fun hb => ?_
      refine ⟨_, _, _, H.ld, _, _, _, H.ld, _, _, _, H.ld, _, _, _, fun w h => h.1, _, _, _, fun w h => h.2.1, _, _, _, fun w h => h.2.2, ?_⟩
      have hc1 := hoff k _ hx (may_st hm)
      obtain ⟨gb, rfl⟩ := Int.eq_ofNat_of_zero_le (show 0 ≤ best by omega)
      have hc2 : (t.at (gb : Int)).came = o + lastC U.cm gb + 1 := by
        rcases hB with ⟨h0, _⟩ | ⟨g', he, hg1, hg2, _⟩
        · omega
        · have : gb = g' := by omega
          subst this
          exact hoff gb _ (at_fin (by omega)) (may_st hg2)
      refine Calls.ret (last_sp H (fun w H => hs2 w H.drop.drop) hcm k) ?_
      rintro v w6 ⟨rfl, H⟩
      refine ⟨_, rfl, ⟨H.ld, H.ld, H.ld⟩, ?_⟩
      refine Calls.ret (last_sp H (fun w H => hs2 w H.drop.drop) hcm gb) ?_
      rintro v w7 ⟨rfl, H⟩
      refine ⟨_, rfl, br_dec (fun hc => no (hB.lt hm hpr (by omega)) H) fun hc => no (hB.ge (by omega)) H⟩
    · have hke : k = t.l.length := by omega
      subst hke
      obtain ⟨e1, e2⟩ := hB.ends hg hmx
      refine br_dec (fun hb => ?_) fun hb => ?_
      · rw [e1 hb]
        exact ⟨rfl, H.drop⟩
      · have hn : ∃ z, n9 = z + 1 := ⟨n9 - 1, by omega⟩
        obtain ⟨z, rfl⟩ := hn
        refine ⟨z, by omega, z, ?_, by omega, rfl, fun j hj hm => ?_, H⟩
        · rw [show (((z + 1 : Nat) : Int) - 1 - 1) = (z : Int) - 1 by omega]
          exact wrap64_in (by omega) (by omega)
        · have := e2 (by omega) j hj hm; omega
  · have hn : t.order = [] := order_nil.2 fun i => by
      cases hm : (t.at (i.val : Int)).may with
      | false => rfl
      | true =>
        have a1 := hmx i.val i.isLt hm
        have a2 := hp i.val _ (at_fin i.isLt)
        omega
    rw [hn]
    exact ⟨rfl, H.drop⟩

theorem ref17_Order_sp (H : St e m w L) (h : Like t U) (hs1 : ∀ w, St e m w L → SlR encD w a1 U.l) (hs2 : ∀ w, St e m w L → SlR (Enc.int .i64) w a2 U.cm) (hg : t.good)
    (hp : ∀ (i : Nat) (y : Pr), t.l[i]? = some y → 0 ≤ y.prio ∧ y.prio ≤ 63) (hl : t.l.length ≤ 16) (hol : t.order.length ≤ 16) (hcm : U.cm.length ≤ 1000000) :
    Calls Try.prog 31 #[.agg #[.slice a n1 c, .slice a1 U.l.length c1, .slice a2 U.cm.length c2]] w (Ret fun v w' => ∃ A C, v = .slice A t.order.length C ∧ St e m w' (own (Enc.int .i64) 3 A C t.order :: L)) := by
  apply purlinref17_Order.calls
  unfold purlinref17_Order.F
  refine H.new fun b w H => ?_
  refine St.newOwn (E := Enc.int .i64) H [] (by simp) fun b1 w H => ?_
  refine ⟨fun n A N C w' => ∃ (q : Nat) (t' : PT) (U' : RT) (a1' : Option Addr) (c1' : Nat) (P : List HP), q ≤ t.order.length ∧ n = t.order.length - q ∧ N = (t.order.take q).length ∧ Like t' U' ∧ t'.good ∧ t'.l.length = t.l.length ∧ U'.cm = U.cm ∧ t'.order = t.order.drop q ∧
      (∀ (i : Nat) (y : Pr), t'.l[i]? = some y → 0 ≤ y.prio ∧ y.prio ≤ 63) ∧ (∀ w, St e m w (P ++ L) → SlR encD w a1' U'.l) ∧
      St e m w' (own (Enc.int .i64) 3 A C (t.order.take q) :: row b 42 [.slice a n1 c, .slice a1' U'.l.length c1', .slice a2 U.cm.length c2] :: (P ++ L)),
    ⟨_, 0, t, U, a1, c1, [], by omega, rfl, rfl, h, hg, rfl, rfl, rfl, hp, hs1, H⟩, ?_⟩
  rintro n9 dead w3 A N C ⟨q, t', U', a1', c1', P, hq, rfl, rfl, h', hg', hlt', hcm', ho', hp', hs', H⟩
  have hlen : U'.l.length = t'.l.length := by rw [h'.l]; simp
  unfold purlinref17_Order.L0
  refine ⟨_, _, _, H.ld, _, _, _, H.ld, _, _, _, H.ld, ?_⟩
  have hrun := ref17_Running_sp (U := U') (t := t') (a := a) (n1 := n1) (c := c) (a1 := a1') (c1 := c1') (a2 := a2) (c2 := c2) H h' (fun w H => hs' w H.drop.drop) (fun w H => by rw [hcm']; exact hs2 w (St.cut (L1 := P) H.drop.drop)) hg' hp' (by omega) (by rw [hcm']; exact hcm)
  rw [hcm'] at hrun
  refine Calls.ret hrun ?_
  rintro v w4 ⟨rfl, H⟩
  refine ⟨_, _, rfl, ?_⟩
  cases hh : t'.order with
  | nil =>
    have hqe : q = t.order.length := by
      rw [hh] at ho'
      have := congrArg List.length ho'
      simp at this; omega
    subst hqe
    rw [List.take_length] at H ⊢
    exact br_t rfl ⟨A, C, rfl, H.re (hs := Sub.cons .hd (Sub.skip sub_app))⟩
  | cons x r =>
    refine br_f rfl ?_
    have hxq : t.order[q]? = some x := by
      have : (t.order.drop q)[0]? = some x := by rw [← ho', hh]; rfl
      rw [List.getElem?_drop] at this; exact this
    have hql : q < t.order.length := (List.getElem?_eq_some_iff.1 hxq).1
    obtain ⟨j, rfl, hj, hjm⟩ := (order_mem (t := t') x).1 (by rw [hh]; exact List.mem_cons_self)
    obtain ⟨hm, hjl, hmo⟩ := mark_order hg' hh
    have hUj : U'.l[j]? = some (strip (t'.at (j : Int))) := by rw [h'.l, List.getElem?_map, at_fin hjl]; rfl
    have htk : t.order.take (q + 1) = t.order.take q ++ [(j : Int)] := by
      obtain ⟨hq', he⟩ := List.getElem?_eq_some_iff.1 hxq
      rw [List.take_succ_eq_append_getElem hq', he]
    refine St.app1 (xs := t.order.take q) H elJ (j : Int) (fun b2 a3 c3 w H => ?_) (hn := by simp; omega)
    rw [← htk] at H ⊢
    refine St.newOwn (E := encD) H [] (by simp) fun b3 w H => ?_
    refine ⟨_, _, _, H.ld, ?_⟩
    refine St.app (xs := []) (ys := U'.l) H elD_ (hs' _ H.drop.drop.drop) (fun a4 c4 w H => ?_) (hn := by simp; omega)
    obtain ⟨g, tl, rfl, _⟩ := H.ownRow (by intro h; rw [List.nil_append] at h; rw [h] at hUj; simp at hUj)
    refine ⟨by simp, by simp; omega, ?_⟩
    simp only [Option.getD_some, List.head?_cons, okP_some, pb_some, po_some, toNat_nat]
    refine St.setEl (i := j) (j := 0) (x' := ⟨2, (t'.at (j : Int)).held, (t'.at (j : Int)).prio, 0⟩) H hUj (by show 0 + j * 3 = j * 3 + 0; omega) (Nat.le_of_ble_eq_true rfl) rfl fun w H => ?_
    refine H.at_ (A := row b _ _) |>.st fun w H => ?_
    have hmU : (U'.mark j).l = U'.l.set j ⟨2, (t'.at (j : Int)).held, (t'.at (j : Int)).prio, 0⟩ := by
      unfold RT.mark; rw [hUj]; rfl
    have hmUl : (U'.mark j).l.length = U'.l.length := by rw [hmU]; simp
    refine ⟨t.order.length - (q + 1), by omega, q + 1, t'.mark j, U'.mark j, some ⟨g, 0, none⟩, c4, own encD 60 (some ⟨g, 0, none⟩) c4 (U'.mark j).l :: P, by omega, rfl, rfl, mark_like hm hjl h', mark_good hm hg', by simp [PT.mark, hlt'], hcm', ?_, ?_, fun w H => H.ownOut.slr, ?_⟩
    · rw [hmo, ← List.tail_drop, ← ho', hh]; rfl
    · intro i y hy
      obtain ⟨z, hz, e1, _⟩ := mark_get hm hy
      rw [e1]; exact hp' i z hz
    · rw [hmUl, hmU]
      have H : St e m w (row b 42 [.slice a n1 c, .slice (some ⟨g, 0, none⟩) U'.l.length c4, .slice a2 U.cm.length c2] :: own encD 60 (some ⟨g, 0, none⟩) c4 (U'.l.set j ⟨2, (t'.at (j : Int)).held, (t'.at (j : Int)).prio, 0⟩) :: own (Enc.int .i64) 3 a3 c3 (t.order.take (q + 1)) :: (P ++ L)) := H
      exact H.re (hs := Sub.cons (.tl (.tl .hd)) (Sub.cons .hd Sub.rfl))
end
end Go.Proofs.Ytecacohkkdhphaa
