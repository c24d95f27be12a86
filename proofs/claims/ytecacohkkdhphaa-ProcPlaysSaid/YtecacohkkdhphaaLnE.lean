/- Lines of those who wait: the plain law of the document's order and of its expiring. Conditions: none. -/
import Derived.Test.YtecacohkkdhphaaLnA
import Derived.Test.YtecacohkkdhphaaVcMap
namespace Go.Proofs.Ytecacohkkdhphaa
open Go.Vc
set_option linter.unusedSimpArgs false
set_option linter.unusedVariables false

/-- All who wait, of the k greatest priorities, the greatest first. -/
def ordP (ws : List Wt) : Nat → List Wt
  | 0 => []
  | k + 1 => ordP ws k ++ ws.filter fun x => x.prio == 63 - (k : Int)

theorem filter_or_perm {p q : Wt → Bool} (hd : ∀ x, p x = true → q x = true → False) (ws : List Wt) : (ws.filter p ++ ws.filter q).Perm (ws.filter fun x => p x || q x) := by
  induction ws with
  | nil => simp
  | cons x r ih =>
    by_cases hp : p x = true
    · have hq : q x = false := by
        cases h : q x with
        | false => rfl
        | true => exact (hd x hp h).elim
      simp only [List.filter_cons, hp, hq, if_true, Bool.false_eq_true, if_false, Bool.true_or, List.cons_append]
      exact ih.cons x
    · by_cases hq : q x = true
      · simp only [List.filter_cons, hp, hq, if_true, Bool.false_eq_true, if_false, Bool.or_true]
        exact (List.perm_middle).trans (ih.cons x)
      · simp only [List.filter_cons, hp, hq, Bool.false_eq_true, if_false, Bool.or_self]
        exact ih

theorem ordP_perm (ws : List Wt) : ∀ k : Nat, (ordP ws k).Perm (ws.filter fun x => decide (63 - (k : Int) < x.prio ∧ x.prio ≤ 63))
  | 0 => by
    have : ws.filter (fun x => decide (63 - ((0 : Nat) : Int) < x.prio ∧ x.prio ≤ 63)) = [] := by
      rw [List.filter_eq_nil_iff]; intro x _ hx; have := of_decide_eq_true hx; omega
    rw [this]; exact List.Perm.refl _
  | k + 1 => by
    have ih := ordP_perm ws k
    have h := filter_or_perm (p := fun x => decide (63 - (k : Int) < x.prio ∧ x.prio ≤ 63)) (q := fun x => x.prio == 63 - (k : Int)) (fun x h1 h2 => by simp at h1 h2; omega) ws
    refine (ih.append_right _).trans (h.trans ?_)
    by_cases hk : k ≤ 63 ∨ True
    · have : (fun x : Wt => decide (63 - (k : Int) < x.prio ∧ x.prio ≤ 63) || x.prio == 63 - (k : Int)) = fun x => decide (63 - ((k + 1 : Nat) : Int) < x.prio ∧ x.prio ≤ 63) := by
        funext x
        rw [Bool.eq_iff_iff]
        simp
        omega
      rw [this]
    · exact absurd (Or.inr trivial) hk

theorem ordP_sorted {ws : List Wt} (ha : ws.Pairwise (fun a b => a.came < b.came)) : ∀ k : Nat, (ordP ws k).Pairwise (fun a b => leO a b = true)
  | 0 => List.Pairwise.nil
  | k + 1 => by
    rw [ordP, List.pairwise_append]
    refine ⟨ordP_sorted ha k, ?_, fun a hA b hB => ?_⟩
    · have h := (ha.sublist (List.filter_sublist (p := fun x : Wt => x.prio == 63 - (k : Int)) (l := ws)))
      refine List.Pairwise.imp_of_mem (fun {a b} hA hB hab => ?_) h
      have h1 := (List.mem_filter.1 hA).2
      have h2 := (List.mem_filter.1 hB).2
      simp at h1 h2
      simp [leO, h1, h2]; omega
    · have h1 := (List.mem_filter.1 ((ordP_perm ws k).mem_iff.1 hA)).2
      have h2 := (List.mem_filter.1 hB).2
      simp at h1 h2
      simp [leO]; omega

theorem ordP_eq {s : LS} (h : s.ok) : ordP s.ws 64 = ordL s.ws := by
  refine ordL_eq h.came_ ((ordP_perm s.ws 64).trans ?_) (ordP_sorted h.asc 64)
  have : s.ws.filter (fun x => decide (63 - ((64 : Nat) : Int) < x.prio ∧ x.prio ≤ 63)) = s.ws := List.filter_eq_self.2 (fun x hx => by
    have := h.bnd x hx
    simp; omega)
  rw [this]

/-- The one that is gone first. -/
theorem ordE_cons {s : LS} (hok : s.ok) {now : Int} {x : Wt} (hx : x ∈ s.gone now) (hmin : ∀ y ∈ s.gone now, leE x y = true) :
    ordE (s.gone now) = x :: ordE ((s.without x.id).gone now) := by
  have hnd : ((s.gone now).map (·.id)).Nodup := hok.ids.sublist (List.filter_sublist.map _)
  have hg : (s.without x.id).gone now = (s.gone now).filter fun y => y.id != x.id := by
    unfold LS.gone LS.without
    rw [List.filter_filter, List.filter_filter]
    refine List.filter_congr fun y _ => ?_
    rw [Bool.and_comm]
  refine (ordE_eq (hok.came_.filter _) ?_ ?_).symm
  · obtain ⟨l1, l2, he, h1, h2⟩ := split_key (K := fun y : Wt => y.id) hnd hx
    have hf : (s.gone now).filter (fun y => y.id != x.id) = l1 ++ l2 := by
      rw [he, List.filter_append, List.filter_cons]
      simp only [bne_self_eq_false, Bool.false_eq_true, if_false]
      rw [List.filter_eq_self.2 (fun y hy => by simpa using h1 y hy), List.filter_eq_self.2 (fun y hy => by simpa using h2 y hy)]
    have e : s.ws.filter (fun x => decide (x.until_ ≠ -1) && decide (x.until_ ≤ now)) = l1 ++ x :: l2 := he
    rw [e, hg, hf]
    exact ((ordE_perm _).cons x).trans List.perm_middle.symm
  · rw [List.pairwise_cons]
    refine ⟨fun y hy => ?_, ordE_sorted _⟩
    have hy := (ordE_perm _).mem_iff.1 hy
    rw [hg] at hy
    exact hmin y (List.mem_filter.1 hy).1
theorem stay_without {s : LS} (hok : s.ok) {now : Int} {x : Wt} (hx : x ∈ s.gone now) : (s.without x.id).stay now = s.stay now := by
  have hx' := List.mem_filter.1 hx
  unfold LS.stay LS.without
  have : (s.ws.filter fun y => y.id != x.id).filter (fun y => !(decide (y.until_ ≠ -1) && decide (y.until_ ≤ now))) = s.ws.filter (fun y => !(decide (y.until_ ≠ -1) && decide (y.until_ ≤ now))) := by
    rw [List.filter_filter]
    refine List.filter_congr fun y hy => ?_
    by_cases he : y.id = x.id
    · have := inj_of_nodup (f := fun y : Wt => y.id) hok.ids hy hx'.1 he
      subst this
      rw [hx'.2]; simp
    · simp [he]
  rw [this]
theorem gone_nil {s : LS} {now : Int} (h : s.gone now = []) : s.stay now = ⟨s.ws, s.came, now⟩ := by
  unfold LS.stay
  have : s.ws.filter (fun y => !(decide (y.until_ ≠ -1) && decide (y.until_ ≤ now))) = s.ws := List.filter_eq_self.2 (fun y hy => by
    have h' : s.ws.filter (fun y => decide (y.until_ ≠ -1) && decide (y.until_ ≤ now)) = [] := h
    have := List.filter_eq_nil_iff.1 h' y hy
    cases hb : (decide (y.until_ ≠ -1) && decide (y.until_ ≤ now)) with
    | false => rfl
    | true => exact absurd hb this)
  rw [this]

/-- Where one stands. -/
def findW (ws : List Wt) (id : Int) : Int := match ws.findIdx? (fun x => x.id == id) with | some k => k | none => -1
theorem findW_neg {ws : List Wt} {id : Int} (h : ∀ x ∈ ws, x.id ≠ id) : findW ws id = -1 := by
  unfold findW
  have : ws.findIdx? (fun x => x.id == id) = none := by rw [List.findIdx?_eq_none_iff]; intro x hx; simpa using h x hx
  rw [this]
theorem findW_pos {ws : List Wt} {id : Int} (h : ∃ x ∈ ws, x.id = id) : ∃ (k : Nat) (x : Wt), findW ws id = k ∧ ws[k]? = some x ∧ x.id = id := by
  unfold findW
  cases hf : ws.findIdx? (fun x => x.id == id) with
  | none =>
    rw [List.findIdx?_eq_none_iff] at hf
    obtain ⟨x, hx, he⟩ := h
    have := hf x hx
    simp [he] at this
  | some k =>
    rw [List.findIdx?_eq_some_iff_getElem] at hf
    obtain ⟨hk, he, _⟩ := hf
    exact ⟨k, ws[k], rfl, List.getElem?_eq_getElem hk, by simpa using he⟩
theorem without_eq {s : LS} (hok : s.ok) {k : Nat} {x : Wt} (hx : s.ws[k]? = some x) : s.ws.take k ++ s.ws.drop (k + 1) = (s.without x.id).ws := by
  have hlt := (List.getElem?_eq_some_iff.1 hx).1
  have hxe : s.ws[k] = x := by rw [List.getElem?_eq_getElem hlt] at hx; exact Option.some.inj hx
  have hsp : s.ws = s.ws.take k ++ x :: s.ws.drop (k + 1) := by
    have : s.ws = s.ws.take k ++ s.ws.drop k := (List.take_append_drop k s.ws).symm
    rw [List.drop_eq_getElem_cons hlt, hxe] at this
    exact this
  have hn := hok.ids
  show _ = s.ws.filter _
  generalize s.ws.take k = l1 at *
  generalize s.ws.drop (k + 1) = l2 at *
  rw [hsp] at hn ⊢
  rw [List.map_append, List.map_cons, List.nodup_append] at hn
  obtain ⟨_, h2, h3⟩ := hn
  rw [List.filter_append, List.filter_cons]
  simp only [bne_self_eq_false, Bool.false_eq_true, if_false]
  rw [List.filter_eq_self.2 (fun y hy => by simpa using h3 y.id (List.mem_map.2 ⟨y, hy, rfl⟩) x.id (by simp)), List.filter_eq_self.2 (fun y hy => by
    have h4 := (List.nodup_cons.1 h2).1
    simp
    intro he
    exact h4 (List.mem_map.2 ⟨y, hy, he⟩))]
end Go.Proofs.Ytecacohkkdhphaa
