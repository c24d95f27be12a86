/- Processes: the plain law: what calls do, and who runs. Conditions: none. -/
import Derived.Test.YtecacohkkdhphaaPrR
namespace Go.Proofs.Ytecacohkkdhphaa
open Go.Vc Go.Sort
set_option linter.unusedSimpArgs false
set_option linter.unusedVariables false
set_option maxRecDepth 100000

/-! ### Calls -/
def behindK (k : Int) : Bool := decide (k = 0 ∨ k = 3 ∨ k = 5 ∨ k = 6 ∨ k = 7)
def PT.doE (t : PT) (k i p : Int) : Int := if k = 8 then 0 else if k = 6 then t.raiseE i p else t.opE k i
def PT.doS (t : PT) (k i p : Int) : PT := if k = 8 then t.reset else if k = 6 then t.raiseS i p else t.opS k i 0
/-- Kinds that there are. -/
def okKind (k : Int) : Prop := 0 ≤ k ∧ k ≤ 8
structure PT.inv (t : PT) (n : Nat) : Prop where
  fit : t.fit n
  good : t.good
  pb : ∀ (i : Nat) (x : Pr), t.l[i]? = some x → 0 ≤ x.prio ∧ x.prio ≤ 63
  c1 : ∀ (i : Nat) (x : Pr), t.l[i]? = some x → 0 ≤ x.came
theorem PT.inv.mono {t : PT} {n k : Nat} (h : t.inv n) (hk : n ≤ k) : t.inv k := ⟨h.fit.mono hk, h.good, h.pb, h.c1⟩

/-- What a change of one process keeps. -/
theorem inv_put {t : PT} {n k : Nat} {x q : Pr} {z : Int} (h : t.inv n) (hx : t.l[k]? = some x) (hq : 0 ≤ q.prio ∧ q.prio ≤ 63) (hz : z = 0 ∨ z = 1 ∨ z = 2)
    (hd : z ≠ 1 → q.st = 0 → q = dorm (t.pr[k]?.getD 0)) (hs : z = 2 → q.st ≠ 0) (hc : z = 0 → q.st ≠ 0 → (x.st ≠ 0 ∧ q.came = x.came)) (hc0 : z = 0 → q.came = x.came ∨ q.came = 0) : (t.put k q z).inv (n + 1) := by
  obtain ⟨hk, hxe⟩ := List.getElem?_eq_some_iff.1 hx
  have hlen := h.fit.len
  have c0 := h.fit.c0
  have cn := h.fit.cn
  obtain ⟨y, hy⟩ : ∃ y : Pr, (t.put k q z).l = t.l.set k y ∧ (t.put k q z).pr = t.pr ∧ y.prio = q.prio ∧
      ((z = 0 ∧ y = q ∧ (t.put k q z).came = t.came) ∨ (z ≠ 0 ∧ y.came = t.came + 1 ∧ y.st ≠ 0 ∧ (t.put k q z).came = t.came + 1)) := by
    unfold PT.put
    rcases hz with rfl | rfl | rfl
    · exact ⟨q, by simp, by simp, rfl, .inl ⟨rfl, rfl, by simp⟩⟩
    · exact ⟨⟨1, q.held, q.prio, t.came + 1⟩, by simp, by simp, rfl, .inr ⟨by omega, rfl, by show (1 : Int) ≠ 0; decide, by simp⟩⟩
    · exact ⟨⟨q.st, q.held, q.prio, t.came + 1⟩, by simp, by simp, rfl, .inr ⟨by omega, rfl, hs rfl, by simp⟩⟩
  obtain ⟨e1, e2, e3, e4⟩ := hy
  have get : ∀ (i : Nat) (u : Pr), (t.put k q z).l[i]? = some u → (i = k ∧ u = y) ∨ (i ≠ k ∧ t.l[i]? = some u) := by
    intro i u hu
    rw [e1, List.getElem?_set] at hu
    by_cases hik : k = i
    · subst hik
      rw [if_pos rfl, if_pos hk] at hu
      exact .inl ⟨rfl, (Option.some.inj hu).symm⟩
    · rw [if_neg hik] at hu
      exact .inr ⟨fun e => hik e.symm, hu⟩
  have camek : ∀ (u : Pr), u.st ≠ 0 → u = y → ∀ (j : Nat) (v : Pr), j ≠ k → t.l[j]? = some v → v.st ≠ 0 → u.came ≠ v.came := by
    rintro u hu rfl j v hj hv hvs he
    rcases e4 with ⟨z0, rfl, _⟩ | ⟨_, h1, _, _⟩
    · obtain ⟨h1, h2⟩ := hc z0 hu
      exact hj (h.good.uniq j k v x hv hx hvs h1 (by rw [← he, h2]))
    · have := h.good.le j v hv
      omega
  refine ⟨⟨by rw [e1, e2, List.length_set]; exact hlen, by rw [e2]; exact h.fit.one, by rw [e2]; exact h.fit.most, by rw [e2]; exact h.fit.prio, ?_, ?_, ?_⟩, ⟨?_, ?_⟩, ?_, ?_⟩
  · rcases e4 with ⟨_, _, h1⟩ | ⟨_, _, _, h1⟩ <;> rw [h1] <;> omega
  · rcases e4 with ⟨_, _, h1⟩ | ⟨_, _, _, h1⟩ <;> rw [h1] <;> omega
  · intro i u p hu hp hst
    rw [e2] at hp
    rcases get i u hu with ⟨rfl, rfl⟩ | ⟨_, hu⟩
    · rcases e4 with ⟨z0, rfl, _⟩ | ⟨_, _, h1, _⟩
      · rw [hd (by omega) hst, hp]; rfl
      · exact absurd hst h1
    · exact h.fit.dead i u p hu hp hst
  · intro i j u v hu0 hv hus hvs he
    rcases get i u hu0 with ⟨rfl, rfl⟩ | ⟨hi, hu⟩
    · rcases get j v hv with ⟨rfl, rfl⟩ | ⟨hj, hv⟩
      · rfl
      · exact absurd he (camek _ hus rfl j v hj hv hvs)
    · clear hu0
      rcases get j v hv with ⟨rfl, e⟩ | ⟨hj, hv2⟩
      · subst e; exact absurd he.symm (camek _ hvs rfl i u hi hu hus)
      · exact h.good.uniq i j u v hu hv2 hus hvs he
  · intro i u hu
    have c1 := h.c1 k x hx
    have c2 := h.good.le k x hx
    rcases get i u hu with ⟨rfl, rfl⟩ | ⟨_, hu⟩
    · rcases e4 with ⟨z0, rfl, h1⟩ | ⟨_, h2, _, h1⟩
      · rw [h1]; rcases hc0 z0 with h | h <;> omega
      · rw [h1, h2]; omega
    · have := h.good.le i u hu
      rcases e4 with ⟨_, _, h1⟩ | ⟨_, _, _, h1⟩ <;> rw [h1] <;> omega
  · intro i u hu
    rcases get i u hu with ⟨rfl, rfl⟩ | ⟨_, hu⟩
    · rw [e3]; exact hq
    · exact h.pb i u hu
  · intro i u hu
    have c1 := h.c1 k x hx
    rcases get i u hu with ⟨rfl, rfl⟩ | ⟨_, hu⟩
    · rcases e4 with ⟨z0, rfl, h1⟩ | ⟨_, h2, _, h1⟩
      · rcases hc0 z0 with h | h <;> omega
      · omega
    · exact h.c1 i u hu

theorem opZ_cases (k : Int) : opZ k = 0 ∨ opZ k = 1 ∨ opZ k = 2 := by unfold opZ; split; simp; split <;> simp
theorem inv_op {t : PT} {n : Nat} (h : t.inv n) {k i p : Int} (hk : 0 ≤ k ∧ k ≤ 7) (hp : k = 6 → 0 ≤ p ∧ p ≤ 63) : (t.opS k i p).inv (n + 1) := by
  unfold PT.opS PT.withS
  by_cases hi : i < 0 ∨ (t.l.length : Int) ≤ i
  · rw [if_pos hi]; exact h.mono (by omega)
  rw [if_neg hi]
  obtain ⟨j, rfl⟩ := Int.eq_ofNat_of_zero_le (show 0 ≤ i by omega)
  have hj : j < t.l.length := by omega
  obtain ⟨x, hx⟩ : ∃ x, t.l[j]? = some x := ⟨_, List.getElem?_eq_getElem hj⟩
  rw [toNat_nat, hx, Option.getD_some]
  split
  · rename_i his
    have hlen := h.fit.len
    have hpx := h.pb j x hx
    have hfirst : t.first (j : Int) = t.pr[j]?.getD 0 := rfl
    have hpf : 0 ≤ t.first (j : Int) ∧ t.first (j : Int) ≤ 63 := by
      obtain ⟨q, h1, h2, h3⟩ := first_get h.fit rfl hj
      rw [h2]; exact h3
    have alive_of : x.st = 0 → x = dorm (t.pr[j]?.getD 0) := fun hs => by
      have : t.pr[j]? = some (t.pr[j]'(by omega)) := List.getElem?_eq_getElem (by omega)
      rw [this]; exact h.fit.dead j x _ hx this hs
    have kk : k = 0 ∨ k = 1 ∨ k = 2 ∨ k = 3 ∨ k = 4 ∨ k = 5 ∨ k = 6 ∨ k = 7 := by omega
    refine inv_put h hx ?_ (opZ_cases k) ?_ ?_ ?_ ?_ <;> rcases kk with rfl | rfl | rfl | rfl | rfl | rfl | rfl | rfl <;> simp [opZ, opIs, opDo, dorm, Pr.alive, Pr.may] at his ⊢ <;> try (first | exact hpx | exact hpf | omega | exact hfirst)
    all_goals first
      | exact hp rfl
      | (intro hs; exact absurd hs his)
      | (intro hs; exact absurd hs his.1)
      | (intro hs; have := alive_of hs; rw [this] at his; simp [dorm] at his)
      | (intro hs; omega)
      | skip
  · exact h.mono (by omega)
theorem inv_reset {t : PT} {n : Nat} (h : t.inv n) : t.reset.inv n := by
  have hlen := h.fit.len
  have get : ∀ (i : Nat) (u : Pr), (t.pr.map dorm)[i]? = some u → ∃ p, t.pr[i]? = some p ∧ u = dorm p := by
    intro i u hu
    rw [List.getElem?_map] at hu
    cases hp : t.pr[i]? with
    | none => rw [hp] at hu; cases hu
    | some p => rw [hp] at hu; exact ⟨p, rfl, by simpa using hu.symm⟩
  refine ⟨⟨by simp [PT.reset], h.fit.one, h.fit.most, h.fit.prio, h.fit.c0, h.fit.cn, ?_⟩, ⟨?_, ?_⟩, ?_, ?_⟩
  · intro i x p hx hp _
    obtain ⟨p', hp', rfl⟩ := get i x hx
    have hp : t.pr[i]? = some p := hp
    rw [hp] at hp'; rw [Option.some.inj hp']
  · intro i j x y hx hy hxs
    obtain ⟨p', hp', rfl⟩ := get i x hx
    exact absurd rfl hxs
  · intro i x hx
    obtain ⟨p', hp', rfl⟩ := get i x hx
    exact h.fit.c0
  · intro i x hx
    obtain ⟨p', hp', rfl⟩ := get i x hx
    exact h.fit.prio p' (List.mem_of_getElem? hp')
  · intro i x hx
    obtain ⟨p', hp', rfl⟩ := get i x hx
    exact Int.le_refl _
theorem inv_do {t : PT} {n : Nat} (h : t.inv n) {k i p : Int} (hk : okKind k) : (t.doS k i p).inv (n + 1) := by
  unfold PT.doS
  split
  · exact (inv_reset h).mono (by omega)
  rename_i h8
  have hk := hk
  unfold okKind at hk
  split
  · unfold PT.raiseS
    split
    · exact h.mono (by omega)
    · rename_i h6 hp
      exact inv_op h (by omega) (fun _ => by omega)
  · rename_i h6
    exact inv_op h (by omega) (fun h => absurd h h6)
theorem inv_new {pr : List Int} (h : prErr pr = 0) (h0 : ∀ p ∈ pr, 0 ≤ p) (n : Nat) : (PT.new pr).inv n := by
  have hf := PT.new_fit h h0 n
  have : (PT.new pr) = (PT.new pr).reset := by unfold PT.new PT.reset; rfl
  have get : ∀ (i : Nat) (u : Pr), (pr.map dorm)[i]? = some u → ∃ p, pr[i]? = some p ∧ u = dorm p := by
    intro i u hu
    rw [List.getElem?_map] at hu
    cases hp : pr[i]? with
    | none => rw [hp] at hu; cases hu
    | some p => rw [hp] at hu; exact ⟨p, rfl, by simpa using hu.symm⟩
  refine ⟨hf, ⟨?_, ?_⟩, ?_, ?_⟩
  · intro i j x y hx hy hxs
    obtain ⟨p', hp', rfl⟩ := get i x hx
    exact absurd rfl hxs
  · intro i x hx
    obtain ⟨p', hp', rfl⟩ := get i x hx
    exact Int.le_refl _
  · intro i x hx
    obtain ⟨p', hp', rfl⟩ := get i x hx
    exact hf.prio p' (List.mem_of_getElem? hp')
  · intro i x hx
    obtain ⟨p', hp', rfl⟩ := get i x hx
    exact Int.le_refl _

/-! ### Who runs -/
theorem order_nil {t : PT} : t.order = [] ↔ ∀ i : Fin t.l.length, (t.at (i.val : Int)).may = false := by
  unfold PT.order PT.orderF PT.mays
  rw [List.map_eq_nil_iff, ← List.length_eq_zero_iff, List.length_mergeSort, List.length_eq_zero_iff, List.filter_eq_nil_iff]
  simp
/-- Who comes ahead of all that may run is the first. -/
theorem order_head {t : PT} (hg : t.good) {i : Fin t.l.length} (hm : (t.at (i.val : Int)).may = true) (hb : ∀ j : Fin t.l.length, (t.at (j.val : Int)).may = true → leI t i j = true) : t.order.head? = some (i.val : Int) := by
  have hp : t.orderF.Perm t.mays := List.mergeSort_perm _ _
  have hs : t.orderF.Pairwise (fun a b => leI t a b = true) := List.pairwise_mergeSort (leI_trans t) (leI_total t) t.mays
  have hmem : i ∈ t.orderF := hp.mem_iff.2 (List.mem_filter.2 ⟨by simp, hm⟩)
  unfold PT.order
  cases ho : t.orderF with
  | nil => rw [ho] at hmem; cases hmem
  | cons h r =>
    rw [ho] at hmem hs hp
    have mh := (List.mem_filter.1 (hp.mem_iff.1 (List.mem_cons_self))).2
    have h1 := hb h mh
    simp only [List.map_cons, List.head?_cons, Option.some.injEq]
    rcases List.mem_cons.1 hmem with rfl | hr
    · rfl
    · have h2 := (List.pairwise_cons.1 hs).1 i hr
      have := hg.uniq i.val h.val _ _ (PT.at_get i) (PT.at_get h) (may_st hm) (may_st mh) (by simp [leI, lePr] at h1 h2; omega)
      rw [this]
theorem order_head_spec {t : PT} {x : Int} (h : t.order.head? = some x) : ∃ i : Fin t.l.length, x = (i.val : Int) ∧ (t.at (i.val : Int)).may = true ∧ ∀ j : Fin t.l.length, (t.at (j.val : Int)).may = true → leI t i j = true := by
  have hp : t.orderF.Perm t.mays := List.mergeSort_perm _ _
  have hs : t.orderF.Pairwise (fun a b => leI t a b = true) := List.pairwise_mergeSort (leI_trans t) (leI_total t) t.mays
  unfold PT.order at h
  cases ho : t.orderF with
  | nil => rw [ho] at h; cases h
  | cons a r =>
    rw [ho] at h hs hp
    simp only [List.map_cons, List.head?_cons, Option.some.injEq] at h
    refine ⟨a, h.symm, (List.mem_filter.1 (hp.mem_iff.1 (List.mem_cons_self))).2, fun j hj => ?_⟩
    have : j ∈ a :: r := hp.mem_iff.2 (List.mem_filter.2 ⟨by simp, hj⟩)
    rcases List.mem_cons.1 this with rfl | hr
    · simp [leI, lePr]
    · exact (List.pairwise_cons.1 hs).1 j hr
end Go.Proofs.Ytecacohkkdhphaa
