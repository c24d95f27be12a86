/- Lines of those who wait: what the library's sort does with them. Conditions: none. -/
import Derived.Test.YtecacohkkdhphaaLnC
import Derived.Test.YtecacohkkdhphaaShp
namespace Go.Proofs.Ytecacohkkdhphaa
open Go.Vc Go.Sort
set_option linter.unusedSimpArgs false
set_option linter.unusedVariables false
set_option maxRecDepth 100000

theorem swoO : SWO (ltOf cfO) where
  irrefl x := by have := cfO_lt x x; unfold ltOf; rw [this]; simp [leO]
  trans x y z h1 h2 := by unfold ltOf at *; rw [cfO_lt] at *; simp [leO] at *; omega
  ntrans x y z h1 h2 := by unfold ltOf at *; rw [cfO_lt] at *; simp [leO] at *; omega
theorem swoE : SWO (ltOf cfE) where
  irrefl x := by have := cfE_lt x x; unfold ltOf; rw [this]; simp [leE, leO]
  trans x y z h1 h2 := by unfold ltOf at *; rw [cfE_lt] at *; simp [leE, leO] at *; omega
  ntrans x y z h1 h2 := by unfold ltOf at *; rw [cfE_lt] at *; simp [leE, leO] at *; omega

theorem flatW (xs : List Wt) (j : Nat) (hj : j < xs.length * 4) : ∃ (x : Wt) (v : Value), xs[j / 4]? = some x ∧ (encW.f x)[j % 4]? = some v ∧ (flatK encW.f 4 xs.toArray)[j]! = v := by
  have h1 : j / 4 < xs.length := by omega
  have h2 : j % 4 < (encW.f xs[j / 4]).length := by rw [encW.len]; show j % 4 < 4; omega
  refine ⟨xs[j / 4], (encW.f xs[j / 4])[j % 4], List.getElem?_eq_getElem h1, List.getElem?_eq_getElem h2, ?_⟩
  rw [get_flatK _ _ _ _ (by simpa using hj)]
  have e1 : xs.toArray[j / 4]! = xs[j / 4] := by simp [h1]
  rw [e1, getElem!_pos (encW.f xs[j / 4]) (j % 4) h2]

theorem sort_any (g : Nat) (cf : Wt → Wt → Int) (hO : SWO (ltOf cf)) (eg : ∀ args w, (callFunc g args).run Try.prog w = .ok (.enter g args) w)
    (hg : ∀ (w : World) (a b : Wt), Calls Try.prog g #[.agg (encW.f a).toArray, .agg (encW.f b).toArray] w (Ret fun v w' => v = .int .i64 (cf a b) ∧ Gr w w')) : SortC g cf := by
  intro w base a c xs ho hm
  by_cases hne : xs = []
  · subst hne
    refine (AnyF.slices_SortFunc_none Try.sortW a c (.func (.func g) #[] #[]) w).mono ?_
    rintro e w' ⟨rfl, rfl⟩
    exact ⟨_, rfl, rfl, [], List.Perm.refl _, List.Pairwise.nil, SlR.nil _ _ _, (Ch.refl [] _).mono (by simp)⟩
  · obtain ⟨gb, cur, rfl, hb, hrow, hcur⟩ := ho.row_of hne
    have hH : HoldsK encW.f 4 w gb 0 xs.toArray := by
      intro j hj
      rw [size_flatK] at hj
      obtain ⟨x, v, hx, hv, he⟩ := flatW xs j (by simpa using hj)
      refine ⟨?_, by rw [Nat.zero_add]; exact hrow.frozen j⟩
      rw [he, Nat.zero_add]
      refine hrow.cell ?_
      have h := hcur (j / 4) x (j % 4) v hx hv
      have : j / 4 * encW.k + j % 4 = j := by show j / 4 * 4 + j % 4 = j; omega
      rw [this] at h
      exact h
    have hcon := AnyQ.slices_SortFunc (P := Try.prog) Try.sortW 4 Try.isAgg139 Try.sizeOf139 encW.f encW.len encW.one cf hO g #[] gb 0 c xs.toArray w eg
      (fun m os dk _ x y => (hg _ x y).mono (by rintro e w' ⟨v, rfl, rfl, hgr⟩; exact ⟨rfl, hgr⟩)) hH hrow.lt (by simp; omega)
    refine hcon.mono ?_
    rintro e w' ⟨rfl, d', n, os, hp, hs, rfl⟩
    obtain ⟨hsz, _, hperm⟩ := hp
    have hlen : d'.size = xs.length := by simpa using hsz
    have hperm2 : d'.toList.Perm xs := by
      have e1 : d'.extract 0 xs.toArray.size = d' := by rw [← hsz]; simp
      have e2 : xs.toArray.extract 0 xs.toArray.size = xs.toArray := by simp
      rw [e1, e2] at hperm
      exact hperm
    refine ⟨_, rfl, rfl, d'.toList, hperm2, ?_, ?_, ?_⟩
    · rw [List.pairwise_iff_getElem]
      intro i j hi hj hij
      have := hs i j (Nat.zero_le _) hij (by simp at hj ⊢; omega)
      unfold ltOf at this
      rw [getElem!_pos d' i (by simpa using hi), getElem!_pos d' j (by simpa using hj)] at this
      simpa using this
    · have hput : ∀ j, j < xs.length * 4 → (sortWorldK encW.f 4 w gb 0 n d' os).cell? ⟨gb, j, none⟩ = some ((flatK encW.f 4 d')[j]!) := by
        intro j hj
        have hc := cell?_putRow id (Sort.ahead w n) gb 0 (flatK encW.f 4 xs.toArray) (flatK encW.f 4 d') (holds_ahead id w n gb 0 _ hH) (by simp [hlen]) j (by simp [hlen]; omega)
        unfold sortWorldK putRowK Sort.grow
        rw [Nat.zero_add] at hc
        have hlt : gb < (putRow id (Sort.ahead w n) gb 0 (flatK encW.f 4 d')).heap.size := by simp; exact hrow.lt
        have : ({ putRow id (Sort.ahead w n) gb 0 (flatK encW.f 4 d') with heap := (putRow id (Sort.ahead w n) gb 0 (flatK encW.f 4 d')).heap ++ os } : World).heap[gb]? = (putRow id (Sort.ahead w n) gb 0 (flatK encW.f 4 d')).heap[gb]? := Array.getElem?_append_left hlt
        rw [World.cell?_of_block (w := putRow id (Sort.ahead w n) gb 0 (flatK encW.f 4 d')) this, hc]
        rfl
      intro i x hx
      refine ⟨gb, 0, rfl, fun j v hv => ?_⟩
      have hi : i < d'.toList.length := (List.getElem?_eq_some_iff.1 hx).1
      have hj : j < 4 := by
        have := (List.getElem?_eq_some_iff.1 hv).1
        rw [encW.len] at this; exact this
      have hil : i < xs.length := by simp at hi; omega
      have hh := hput (i * 4 + j) (by omega)
      obtain ⟨x', v', hx', hv', he⟩ := flatW d'.toList (i * 4 + j) (by simp at hi ⊢; omega)
      have e1 : (i * 4 + j) / 4 = i := by omega
      have e2 : (i * 4 + j) % 4 = j := by omega
      rw [e1] at hx'
      rw [e2] at hv'
      rw [hx] at hx'
      obtain rfl := Option.some.inj hx'
      rw [hv] at hv'
      obtain rfl := Option.some.inj hv'
      have : d'.toList.toArray = d' := by simp
      rw [this] at he
      rw [he] at hh
      rw [Nat.zero_add]
      exact hh
    · refine ⟨rfl, rfl, rfl, ?_, fun b hb hd => ?_⟩
      · simp [sortWorldK, Sort.grow, putRowK]
      · have hbg : b ≠ gb := by simpa using hd
        have : (sortWorldK encW.f 4 w gb 0 n d' os).heap[b]? = (putRow id (Sort.ahead w n) gb 0 (flatK encW.f 4 d')).heap[b]? := by
          unfold sortWorldK putRowK Sort.grow
          exact Array.getElem?_append_left (by simp; exact hb)
        rw [this]
        unfold putRow mapBlock
        simp only [Array.getElem?_modify, Sort.heap_ahead]
        rw [if_neg (by omega)]

theorem sortO : SortC 82 cfO := sort_any 82 cfO swoO (Go.Proofs.enters_of Try.func82 (by kernel_rfl) rfl) (fun w a b => order_any a b)
theorem sortE : SortC 81 cfE := sort_any 81 cfE swoE (Go.Proofs.enters_of Try.func81 (by kernel_rfl) rfl) (fun w a b => orderE_any a b)
end Go.Proofs.Ytecacohkkdhphaa
