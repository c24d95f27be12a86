/- The chapter's example holds: two scripts, run by the machine. Conditions: none. -/
import Derived.Test.YtllpiaedljoejaaGreatDoorXExt
import Derived.Test.YtllpiaedljoejaaGreatDoorXReg
import Derived.Test.YtllpiaedljoejaaGreatDoorXRunA
import Derived.Test.YtllpiaedljoejaaGreatDoorXRunB
import Derived.Test.YtllpiaedljoejaaGreatDoorSc1
namespace Go.Proofs.YtllpiaedljoejaaGreatDoor
open Go.Vc Go.Lib
set_option linter.unusedSimpArgs false
set_option linter.unusedVariables false
set_option maxRecDepth 100000
noncomputable def globL : List (Nat × List Value) := [(2, [.bool true, .bool true, .bool false]), (3, [.bool true, .bool false, .bool true]), (4, [.bool false, .bool false, .bool false]), (5, [.bool true, .bool false, .bool false]),
  (9, [.int .u32 4294967295, .int .u32 0, .int .u32 0])]
/-- What the program's own variables hold. -/
def GlobX (w : World) : Prop := ∀ p ∈ globL, ∀ o v, p.2[o]? = some v → w.cell? ⟨p.1, o, none⟩ = some v
noncomputable def rho0 : RM := fun k => if k ∈ globL.map (·.1) then some (k, 0) else none
theorem init_get (k : Nat) (x : XO) (h : initX.get k = some x) : ∃ cs, (k, cs) ∈ globL ∧ x = .ro cs := by
  unfold XH.get initX at h
  simp only [globX, List.foldl_cons, List.foldl_nil, get_set, get_e] at h
  simp only [globL, List.mem_cons, Prod.mk.injEq, List.not_mem_nil, or_false]
  split at h
  · rename_i hk; simp only [leafX] at h; cases h; exact ⟨_, .inr (.inr (.inr (.inr ⟨hk.1, rfl⟩))), rfl⟩
  split at h
  · rename_i hk; simp only [leafX] at h; cases h; exact ⟨_, .inr (.inr (.inr (.inl ⟨hk.1, rfl⟩))), rfl⟩
  split at h
  · rename_i hk; simp only [leafX] at h; cases h; exact ⟨_, .inr (.inr (.inl ⟨hk.1, rfl⟩)), rfl⟩
  split at h
  · rename_i hk; simp only [leafX] at h; cases h; exact ⟨_, .inr (.inl ⟨hk.1, rfl⟩), rfl⟩
  split at h
  · rename_i hk; simp only [leafX] at h; cases h; exact ⟨_, .inl ⟨hk.1, rfl⟩, rfl⟩
  · cases h
theorem init_none (k : Nat) (h : initX.get k = none) : k ∉ globL.map (·.1) := by
  intro hk
  simp only [globL, List.map_cons, List.map_nil, List.mem_cons, List.not_mem_nil, or_false] at hk
  rcases hk with rfl | rfl | rfl | rfl | rfl <;> (revert h; unfold XH.get initX; simp only [globX, List.foldl_cons, List.foldl_nil, get_set, get_e]; intro h; simp [leafX] at h; cases h)
theorem glob_plain : ∀ p ∈ globL, p.2.all plain1 = true := by
  intro p hp
  simp only [globL, List.mem_cons, List.not_mem_nil, or_false] at hp
  rcases hp with rfl | rfl | rfl | rfl | rfl <;> rfl
theorem glob_small : ∀ k, k ∈ globL.map (·.1) → k < x0 := by
  intro k hk
  simp only [globL, List.map_cons, List.map_nil, List.mem_cons, List.not_mem_nil, or_false] at hk
  unfold x0
  omega
theorem glob_len : ∀ p ∈ globL, ∃ v, p.2[0]? = some v := by
  intro p hp
  simp only [globL, List.mem_cons, List.not_mem_nil, or_false] at hp
  rcases hp with rfl | rfl | rfl | rfl | rfl <;> exact ⟨_, rfl⟩
theorem rel0 {w : World} (hG : GlobX w) : Rel rho0 initX w w where
  ch := Ch.refl _ _
  obj := fun k x hk => by
    obtain ⟨cs, hm, rfl⟩ := init_get k x hk
    refine ⟨k, 0, by unfold rho0; rw [if_pos (List.mem_map.2 ⟨_, hm, rfl⟩)], cs, VRs.plain (glob_plain _ hm), fun o v hv => hG _ hm o v hv⟩
  inj := fun k k' x x' b c c' _ _ _ _ h1 h2 => by
    unfold rho0 at h1 h2
    split at h1
    · split at h2
      · cases h1; cases h2; rfl
      · cases h2
    · cases h1
  dom := fun k hk => by unfold rho0; rw [if_neg (init_none k hk)]
  own := fun k b c hk hx => by
    unfold rho0 at hk
    split at hk
    · rename_i hm; have := glob_small k hm; omega
    · cases hk
  lt := fun k b c hk => by
    unfold rho0 at hk
    split at hk
    · rename_i hm
      cases hk
      obtain ⟨p, hp, rfl⟩ := List.mem_map.1 hm
      obtain ⟨v, hv⟩ := glob_len p hp
      have := hG p hp 0 v hv
      rcases Nat.lt_or_ge p.1 w.heap.size with h | h
      · exact h
      · simp [World.cell?, Array.getElem?_eq_none h] at this
    · cases hk
  glob := fun k b c hk _ => by
    unfold rho0 at hk
    split at hk
    · cases hk; rfl
    · cases hk
theorem run_of {w : World} (hG : GlobX w) (hL : LibX w) {f : FuncId} {args : List Value} {n : Nat} {v : Value} (hr : (callF Tryz.prog envX n f args initX).map (·.1) = some v) (ha : args.all plain1 = true) (hv : plainV v = true) :
    Calls Tryz.prog f args.toArray w (Ret fun u w' => u = v ∧ Ch [] w w') := by
  cases hc : callF Tryz.prog envX n f args initX with
  | none => rw [hc] at hr; cases hr
  | some q =>
    obtain ⟨u, h'⟩ := q
    rw [hc] at hr
    simp only [Option.map_some, Option.some.injEq] at hr
    subst hr
    have := callF_sound mixed envX_ok (envX_exts hL) n f args initX u h' hc rho0 w args (rel0 hG) (VRs.plain ha)
    refine this.mono ?_
    rintro _ w' ⟨x, rfl, ρ', h1, h2, h3⟩
    exact ⟨x, rfl, h3.of_plainV hv, h2.ch⟩
theorem awake_sp {w : World} (hG : ∀ w', Ch [] w w' → GlobX w') (hL : ∀ w', Ch [] w w' → LibX w') : Calls Tryz.prog 6 #[] w (Ret fun v w' => v = .bool true ∧ Ch [] w w') := by
  apply purlinlaw27_awake.calls
  unfold purlinlaw27_awake.F
  refine Calls.ret (run_of (hG w (Ch.refl _ _)) (hL w (Ch.refl _ _)) runA rfl rfl) ?_
  rintro v w1 ⟨rfl, h1⟩
  refine ⟨_, _, _, rfl, ?_⟩
  refine Calls.ret (run_of (hG w1 h1) (hL w1 h1) runB rfl rfl) ?_
  rintro v w2 ⟨rfl, h2⟩
  refine ⟨_, _, _, rfl, ?_⟩
  refine br_t (by rw [beq_iff_eq]; rfl) (br_t rfl (br_t rfl (br_t rfl ?_)))
  exact ⟨rfl, h1.trans0 h2⟩
end Go.Proofs.YtllpiaedljoejaaGreatDoor
