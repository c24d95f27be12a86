/- Lines of those who wait: the plain law. Conditions: none. -/
import Derived.Test.YtecacohkkdhphaaVcMem
import Derived.Test.YtecacohkkdhphaaVcInt
namespace Go.Proofs.Ytecacohkkdhphaa
open Go.Vc
set_option linter.unusedSimpArgs false
set_option linter.unusedVariables false

structure Wt where
  id : Int
  prio : Int
  until_ : Int
  came : Int
deriving DecidableEq, Inhabited

/-- How two numbers compare. -/
def cmpI (x y : Int) : Int := if x < y then -1 else if y < x then 1 else 0
def orI (x y : Int) : Int := if x = 0 then y else x
def cfO (a b : Wt) : Int := orI (cmpI b.prio a.prio) (cmpI a.came b.came)
def cfE (a b : Wt) : Int := orI (cmpI a.until_ b.until_) (cfO a b)
def leO (a b : Wt) : Bool := decide (b.prio < a.prio) || (decide (a.prio = b.prio) && decide (a.came ≤ b.came))
def leE (a b : Wt) : Bool := decide (a.until_ < b.until_) || (decide (a.until_ = b.until_) && leO a b)
theorem cfO_lt (a b : Wt) : decide (cfO a b < 0) = !leO b a := by
  unfold cfO orI cmpI leO
  rcases Int.lt_trichotomy a.prio b.prio with h | h | h <;> rcases Int.lt_trichotomy a.came b.came with h' | h' | h' <;> (simp [h, h']; try omega) <;> (repeat' split) <;> simp_all <;> omega
theorem cfE_lt (a b : Wt) : decide (cfE a b < 0) = !leE b a := by
  have := cfO_lt a b
  unfold cfE orI cmpI leE
  rcases Int.lt_trichotomy a.until_ b.until_ with h | h | h
  · simp [h]; omega
  · simp [h]; exact this
  · have h1 : ¬ a.until_ < b.until_ := by omega
    simp [h, h1]
theorem leO_trans (a b c : Wt) (h1 : leO a b = true) (h2 : leO b c = true) : leO a c = true := by
  simp [leO] at *; omega
theorem leO_total (a b : Wt) : (leO a b || leO b a) = true := by
  simp [leO]; omega
theorem leE_trans (a b c : Wt) (h1 : leE a b = true) (h2 : leE b c = true) : leE a c = true := by
  simp [leE, leO] at *; omega
theorem leE_total (a b : Wt) : (leE a b || leE b a) = true := by
  simp [leE, leO]; omega
def ordL (ws : List Wt) : List Wt := ws.mergeSort leO
def ordE (ws : List Wt) : List Wt := ws.mergeSort leE
theorem ordL_perm (ws : List Wt) : (ordL ws).Perm ws := List.mergeSort_perm _ _
theorem ordE_perm (ws : List Wt) : (ordE ws).Perm ws := List.mergeSort_perm _ _
theorem ordL_sorted (ws : List Wt) : (ordL ws).Pairwise (fun a b => leO a b = true) := List.pairwise_mergeSort leO_trans leO_total ws
theorem ordE_sorted (ws : List Wt) : (ordE ws).Pairwise (fun a b => leE a b = true) := List.pairwise_mergeSort leE_trans leE_total ws

/-- Each came at a time of its own. -/
def Came (ws : List Wt) : Prop := ∀ a ∈ ws, ∀ b ∈ ws, a.came = b.came → a = b
theorem ordL_eq {ws ys : List Wt} (hc : Came ws) (hp : ys.Perm ws) (hs : ys.Pairwise (fun a b => leO a b = true)) : ys = ordL ws := by
  refine List.Perm.eq_of_pairwise (le := fun a b => leO a b = true) (fun a b ha hb h1 h2 => ?_) hs (ordL_sorted ws) (hp.trans (ordL_perm ws).symm)
  refine hc a (hp.mem_iff.1 ha) b ((ordL_perm ws).mem_iff.1 hb) ?_
  simp [leO] at h1 h2; omega
theorem ordE_eq {ws ys : List Wt} (hc : Came ws) (hp : ys.Perm ws) (hs : ys.Pairwise (fun a b => leE a b = true)) : ys = ordE ws := by
  refine List.Perm.eq_of_pairwise (le := fun a b => leE a b = true) (fun a b ha hb h1 h2 => ?_) hs (ordE_sorted ws) (hp.trans (ordE_perm ws).symm)
  refine hc a (hp.mem_iff.1 ha) b ((ordE_perm ws).mem_iff.1 hb) ?_
  simp [leE, leO] at h1 h2; omega

/-- A line: who waits, as they came; how many came; the last tick that was told. -/
structure LS where
  ws : List Wt
  came : Int
  now : Int
structure LS.ok (s : LS) : Prop where
  asc : s.ws.Pairwise (fun a b => a.came < b.came)
  ids : (s.ws.map (·.id)).Nodup
  bnd : ∀ x ∈ s.ws, 0 ≤ x.id ∧ x.id ≤ 65535 ∧ 0 ≤ x.prio ∧ x.prio ≤ 63 ∧ x.came ≤ s.came
def LS.new : LS := ⟨[], 0, 0⟩
theorem LS.new_ok : LS.new.ok := ⟨List.Pairwise.nil, List.nodup_nil, by simp [LS.new]⟩
theorem LS.ok.came_ {s : LS} (h : s.ok) : Came s.ws := by
  intro a ha b hb hab
  have : ∀ {ws : List Wt}, ws.Pairwise (fun a b => a.came < b.came) → a ∈ ws → b ∈ ws → a = b := by
    intro ws hp
    induction hp with
    | nil => intro h; cases h
    | cons h1 _ ih =>
      intro ha hb
      rcases List.mem_cons.1 ha with e1 | ha
      · rcases List.mem_cons.1 hb with e2 | hb
        · rw [e1, e2]
        · have := h1 b hb; subst e1; omega
      · rcases List.mem_cons.1 hb with e2 | hb
        · have := h1 a ha; subst e2; omega
        · exact ih ha hb
  exact this h.asc ha hb
theorem Came.filter {ws : List Wt} (h : Came ws) (p : Wt → Bool) : Came (ws.filter p) := fun a ha b hb => h a (List.mem_filter.1 ha).1 b (List.mem_filter.1 hb).1

def LS.has (s : LS) (id : Int) : Bool := s.ws.any fun x => x.id == id
def LS.err (s : LS) (id prio until_ : Int) : Int :=
  if id < 0 ∨ 65535 < id then 140 else if prio < 0 ∨ 63 < prio then 143 else if until_ ≠ -1 ∧ (until_ ≤ s.now ∨ 1099511627776 < until_) then 144 else if s.has id = true then 141 else 0
def LS.add (s : LS) (id prio until_ : Int) : LS := ⟨s.ws ++ [⟨id, prio, until_, s.came + 1⟩], s.came + 1, s.now⟩
def LS.put (s : LS) (id prio until_ : Int) : LS := if s.err id prio until_ = 0 then s.add id prio until_ else s
def LS.list (s : LS) : List Int := (ordL s.ws).map (·.id)
def LS.without (s : LS) (id : Int) : LS := { s with ws := s.ws.filter fun x => x.id != id }
def LS.gone (s : LS) (now : Int) : List Wt := s.ws.filter fun x => decide (x.until_ ≠ -1) && decide (x.until_ ≤ now)
def LS.stay (s : LS) (now : Int) : LS := ⟨s.ws.filter (fun x => !(decide (x.until_ ≠ -1) && decide (x.until_ ≤ now))), s.came, now⟩
theorem LS.has_iff {s : LS} {id : Int} : s.has id = true ↔ ∃ x ∈ s.ws, x.id = id := by simp [LS.has]
theorem LS.err_zero {s : LS} {id prio until_ : Int} (h : s.err id prio until_ = 0) : 0 ≤ id ∧ id ≤ 65535 ∧ 0 ≤ prio ∧ prio ≤ 63 ∧ s.has id = false := by
  unfold LS.err at h
  by_cases h1 : id < 0 ∨ 65535 < id
  · simp [h1] at h
  by_cases h2 : prio < 0 ∨ 63 < prio
  · simp [h1, h2] at h
  by_cases h3 : until_ ≠ -1 ∧ (until_ ≤ s.now ∨ 1099511627776 < until_)
  · simp [h1, h2, h3] at h
  by_cases h4 : s.has id = true
  · rw [if_neg h1, if_neg h2, if_neg h3, if_pos h4] at h; omega
  · simp at h4; exact ⟨by omega, by omega, by omega, by omega, h4⟩
theorem LS.ok.add {s : LS} (h : s.ok) {id prio until_ : Int} (he : s.err id prio until_ = 0) : (s.add id prio until_).ok := by
  obtain ⟨h1, h2, h3, h4, h5⟩ := LS.err_zero he
  refine ⟨?_, ?_, ?_⟩
  · show (s.ws ++ [_]).Pairwise _
    rw [List.pairwise_append]
    refine ⟨h.asc, by simp, fun a ha b hb => ?_⟩
    simp at hb; subst hb
    have := (h.bnd a ha).2.2.2.2
    show a.came < s.came + 1
    omega
  · show ((s.ws ++ [_]).map _).Nodup
    rw [List.map_append, List.nodup_append]
    refine ⟨h.ids, by simp, fun a ha b hb hab => ?_⟩
    simp at hb; subst hb
    obtain ⟨x, hx, hxa⟩ := List.mem_map.1 ha
    have : s.has b = true := LS.has_iff.2 ⟨x, hx, by rw [hxa, hab]⟩
    rw [h5] at this; cases this
  · intro x hx
    have hx : x ∈ s.ws ++ [⟨id, prio, until_, s.came + 1⟩] := hx
    show _ ∧ _ ∧ _ ∧ _ ∧ x.came ≤ s.came + 1
    rcases List.mem_append.1 hx with hx | hx
    · have := h.bnd x hx; omega
    · simp at hx; subst hx; simp; omega
theorem LS.ok.put {s : LS} (h : s.ok) (id prio until_ : Int) : (s.put id prio until_).ok := by
  unfold LS.put
  split
  · rename_i he; exact h.add he
  · exact h
theorem LS.ok.filter {s : LS} (h : s.ok) (p : Wt → Bool) (now : Int) : (LS.mk (s.ws.filter p) s.came now).ok :=
  ⟨h.asc.sublist List.filter_sublist, h.ids.sublist (List.filter_sublist.map _), fun x hx => h.bnd x (List.mem_filter.1 hx).1⟩
theorem LS.ok.without {s : LS} (h : s.ok) (id : Int) : (s.without id).ok := h.filter _ _
theorem LS.ok.stay {s : LS} (h : s.ok) (now : Int) : (s.stay now).ok := h.filter _ _
end Go.Proofs.Ytecacohkkdhphaa
