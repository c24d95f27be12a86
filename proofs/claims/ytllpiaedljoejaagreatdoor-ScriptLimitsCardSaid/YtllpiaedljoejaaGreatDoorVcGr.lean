/- A world that has grown: draws and new blocks alone. Conditions: none. -/
import Derived.Test.YtllpiaedljoejaaGreatDoorVcMem
import Derived.Sort.Grow
import Derived.Deep.Draws
namespace Go.Vc
set_option linter.unusedSimpArgs false
set_option linter.unusedVariables false

/-- From w to w' there have been draws and new blocks alone. -/
def Gr (w w' : World) : Prop := ∃ (q : Nat) (os : Array Obj), w' = Sort.grow (w.drewN q) os
theorem Gr.refl (w : World) : Gr w w := ⟨0, #[], by rw [Sort.grow_empty]; rfl⟩
theorem Gr.alloc (w : World) (o : Obj) : Gr w (w.alloc o) := ⟨0, #[o], by rw [Sort.alloc_eq_grow]; rfl⟩
theorem Gr.drew (w : World) : Gr w w.drew := ⟨1, #[], by rw [Sort.grow_empty]; rfl⟩
theorem Gr.trans {w w1 w2 : World} (h : Gr w w1) (h2 : Gr w1 w2) : Gr w w2 := by
  obtain ⟨q, os, rfl⟩ := h
  obtain ⟨q2, os2, rfl⟩ := h2
  refine ⟨q + q2, os ++ os2, ?_⟩
  have : (Sort.grow (w.drewN q) os).drewN q2 = Sort.grow (w.drewN (q + q2)) os := by
    simp [Sort.grow, World.drewN, Nat.add_assoc]
  rw [this, Sort.grow_grow]
theorem Gr.ch {w w' : World} (h : Gr w w') : Ch [] w w' := by
  obtain ⟨q, os, rfl⟩ := h
  refine ⟨rfl, rfl, rfl, ?_, fun b hb _ => ?_⟩
  · simp [Sort.grow]
  · simp only [Sort.grow, World.heap_drewN]
    rw [Array.getElem?_append_left hb]
theorem newBlk_gr {w : World} {cs : Array Value} {t : TypeId} {K : Nat → World → Prop}
    (h : ∀ b w', b = w.heap.size → w'.heap.size = b + 1 → Row w' b t cs.toList → Gr w w' → K b w') : newBlk w (.cells cs t (0, 0)) K :=
  h _ _ rfl (size_alloc _ _) (by unfold Row; rw [heap_alloc]) (Gr.alloc _ _)
theorem drawS_gr {w : World} {K : (World → Prop) → World → Prop} (h : ∀ w', Gr w w' → w'.heap = w.heap → K (fun w9 => Gr w' w9) w') :
    ∃ S : World → Prop, S w.drew ∧ drawC w (K S) := ⟨fun w9 => Gr w.drew w9, Gr.refl _, h _ (Gr.drew w) rfl⟩
theorem drawC_gr {w : World} {K : World → Prop} (h : ∀ w', Gr w w' → w'.heap = w.heap → K w') : drawC w K := h _ (Gr.drew w) rfl
end Go.Vc
