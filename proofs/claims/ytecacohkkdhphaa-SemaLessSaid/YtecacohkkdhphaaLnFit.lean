/- Lines of those who wait: how many there are at most. Conditions: none. -/
import Derived.Test.YtecacohkkdhphaaLnD
namespace Go.Proofs.Ytecacohkkdhphaa
open Go.Vc
set_option linter.unusedSimpArgs false
set_option linter.unusedVariables false
set_option maxRecDepth 100000

/-- A line of n at most. -/
structure LS.fit (s : LS) (n : Nat) : Prop where
  ok : s.ok
  len : s.ws.length ≤ n
  c0 : 0 ≤ s.came
  cn : s.came ≤ n
theorem LS.new_fit (n : Nat) : LS.new.fit n := ⟨LS.new_ok, Nat.zero_le _, Int.le_refl _, by show (0 : Int) ≤ n; omega⟩
theorem LS.fit.mono {s : LS} {n m : Nat} (h : s.fit n) (hm : n ≤ m) : s.fit m := ⟨h.ok, by have := h.len; omega, h.c0, by have := h.cn; omega⟩
theorem LS.fit.put {s : LS} {n : Nat} (h : s.fit n) (id prio until_ : Int) : (s.put id prio until_).fit (n + 1) := by
  refine ⟨h.ok.put _ _ _, ?_, ?_, ?_⟩ <;> unfold LS.put <;> split <;> have := h.len <;> have := h.c0 <;> have := h.cn <;> simp [LS.add] <;> omega
theorem LS.fit.without {s : LS} {n : Nat} (h : s.fit n) (id : Int) : (s.without id).fit n :=
  ⟨h.ok.without _, by have := h.len; have := List.length_filter_le (fun x : Wt => x.id != id) s.ws; show (s.ws.filter _).length ≤ n; omega, h.c0, h.cn⟩
theorem LS.fit.taken {s : LS} {n : Nat} (h : s.fit n) : s.taken.fit n := by
  unfold LS.taken
  split
  · exact h.without _
  · exact h
theorem LS.fit.stay {s : LS} {n : Nat} (h : s.fit n) (now : Int) : (s.stay now).fit n :=
  ⟨h.ok.stay _, by have := h.len; have := List.length_filter_le (fun x : Wt => !(decide (x.until_ ≠ -1) && decide (x.until_ ≤ now))) s.ws; show (s.ws.filter _).length ≤ n; omega, h.c0, h.cn⟩
theorem LS.put_now (s : LS) (id prio until_ : Int) : (s.put id prio until_).now = s.now := by unfold LS.put; split <;> rfl
theorem LS.taken_now (s : LS) : s.taken.now = s.now := by unfold LS.taken; split <;> rfl

theorem without_none {s : LS} {id : Int} (h : s.has id = false) : s.without id = s := by
  unfold LS.without
  have : s.ws.filter (fun x => x.id != id) = s.ws := List.filter_eq_self.2 (fun x hx => by
    simp
    intro he
    have : s.has id = true := LS.has_iff.2 ⟨x, hx, he⟩
    rw [h] at this; cases this)
  rw [this]
theorem has_without {s : LS} {id : Int} : (s.without id).has id = false := by
  cases h : (s.without id).has id with
  | false => rfl
  | true =>
    obtain ⟨x, hx, he⟩ := LS.has_iff.1 h
    have hx : x ∈ s.ws.filter (fun x => x.id != id) := hx
    have := (List.mem_filter.1 hx).2
    simp at this
    exact absurd he this
theorem ord_without {s : LS} (hok : s.ok) {id : Int} : ordL (s.without id).ws = (ordL s.ws).filter (fun x => x.id != id) := by
  refine (ordL_eq (hok.without id).came_ ?_ ((ordL_sorted s.ws).sublist List.filter_sublist)).symm
  exact (ordL_perm s.ws).filter _
theorem list_without {s : LS} (hok : s.ok) (id : Int) : (s.without id).list = s.list.filter (fun x => x != id) := by
  unfold LS.list
  rw [ord_without hok, List.filter_map]
  rfl
theorem list_nodup {s : LS} (hok : s.ok) : s.list.Nodup := ((ordL_perm s.ws).map Wt.id).nodup_iff.2 hok.ids
theorem taken_list {s : LS} (hok : s.ok) : s.taken.list = s.list.tail := by
  unfold LS.taken
  have hn := list_nodup hok
  cases hl : s.list with
  | nil => simp [hl]
  | cons x r =>
    simp only [List.head?_cons, List.tail_cons]
    rw [list_without hok, hl]
    rw [hl] at hn
    have := (List.nodup_cons.1 hn).1
    rw [List.filter_cons]
    simp only [bne_self_eq_false, Bool.false_eq_true, if_false]
    exact List.filter_eq_self.2 (fun y hy => by simp; rintro rfl; exact this hy)
theorem list_len (s : LS) : s.list.length = s.ws.length := by unfold LS.list; rw [List.length_map, (ordL_perm s.ws).length_eq]
theorem mem_list {s : LS} {id : Int} : id ∈ s.list ↔ s.has id = true := by
  unfold LS.list
  rw [List.mem_map, LS.has_iff]
  constructor
  · rintro ⟨x, hx, rfl⟩; exact ⟨x, (ordL_perm s.ws).mem_iff.1 hx, rfl⟩
  · rintro ⟨x, hx, rfl⟩; exact ⟨x, (ordL_perm s.ws).mem_iff.2 hx, rfl⟩
end Go.Proofs.Ytecacohkkdhphaa
