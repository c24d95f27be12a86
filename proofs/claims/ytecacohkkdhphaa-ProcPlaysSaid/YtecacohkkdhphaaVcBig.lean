/- Slices as great as an argument may be. Conditions: none. -/
import Derived.Test.YtecacohkkdhphaaVcSL2
import Derived.Test.YtecacohkkdhphaaVcRow
import Derived.SizedLaws
namespace Go.Vc
open Go.Deep
set_option linter.unusedSimpArgs false
set_option linter.unusedVariables false
set_option maxRecDepth 100000

section
variable {e w : World} {m : Hp} {L L' : List HP} {α : Type} {E : Enc α} {a a2 : Option Addr} {c c2 : Nat} {xs ys : List α} {t st : TypeId} {P : Program}
theorem own_app_big {ty : TypeId} {bytes : Nat} (hT : ElT P st t E bytes) (H : St e m w (own E t a c xs :: L)) (hy : SlR E w a2 ys) (hmx : xs.length + ys.length ≤ maxLen) (hby : (xs.length + ys.length) * bytes ≤ 140737488355328) :
    ∃ a' c' w', (Builtin.append_ #[st, st] ty #[.slice a xs.length c, .slice a2 ys.length c2]).run P w = .ok (.slice a' (xs.length + ys.length) c') w' ∧ St e m w' (own E t a' c' (xs ++ ys) :: L) := by
  have hown := H.ownOut
  have hcap := H.ownCap
  obtain ⟨ht, i, z, hi, hz, hsz, hby2, hzc⟩ := hT
  have nil : ys = [] → ∃ a' c' w', (Builtin.append_ #[st, st] ty #[.slice a xs.length c, .slice a2 ys.length c2]).run P w = .ok (.slice a' (xs.length + ys.length) c') w' ∧ St e m w' (own E t a' c' (xs ++ ys) :: L) := by
    rintro rfl
    refine ⟨a, c, w, ?_, by simpa using H⟩
    cases a2 with
    | none => cases a <;> simp [Builtin.append_, run_underlying ht, sizeOf, typeInfo, hi, Builtin.lenOf, Builtin.firstCells, hcap, storeCells]
    | some ad => cases a <;> simp [Builtin.append_, run_underlying ht, sizeOf, typeInfo, hi, Builtin.lenOf, Builtin.firstCells, loadCells, loadCellsFrom, hcap, storeCells]
  by_cases hy0 : ys = []
  · exact nil hy0
  obtain ⟨y, hyy⟩ : ∃ y, ys[0]? = some y := by cases ys with | nil => exact absurd rfl hy0 | cons y r => exact ⟨y, rfl⟩
  obtain ⟨b, o, rfl, _⟩ := hy 0 y hyy
  have hk := E.pos
  have news : ∀ j u, (E.flat ys)[j]? = some u → w.cell? ((⟨b, o, none⟩ : Addr).add j) = some u := fun j u hu => by
    have hlt := (List.getElem?_eq_some_iff.1 hu).1
    rw [E.flat_length] at hlt
    have hi' : j / E.k < ys.length := (Nat.div_lt_iff_lt_mul hk).2 hlt
    obtain ⟨b', o', ha, hc⟩ := hy (j / E.k) ys[j / E.k] (by simp [hi'])
    simp only [Option.some.injEq, Addr.mk.injEq, and_true] at ha
    obtain ⟨rfl, rfl⟩ := ha
    have hmod : j % E.k < (E.f ys[j / E.k]).length := by rw [E.len]; exact Nat.mod_lt _ hk
    have hg := E.flat_get ys (j / E.k) (j % E.k) ys[j / E.k] (E.f ys[j / E.k])[j % E.k] (by simp [hi']) (by simp [hmod])
    rw [Nat.div_add_mod' j E.k] at hg
    rw [hu] at hg
    have := hc (j % E.k) _ (List.getElem?_eq_some_iff.2 ⟨hmod, rfl⟩)
    rw [← Option.some.inj hg] at this
    rw [addr_add, show o + j = o + j / E.k * E.k + j % E.k by rw [Nat.add_assoc, Nat.div_add_mod' j E.k]]
    exact this
  have hyl : (E.flat ys).length = ys.length * i.size := by rw [hsz]; exact E.flat_length ys
  have hylen : 0 < ys.length := by cases ys with | nil => exact absurd rfl hy0 | cons y r => simp
  -- into a new block
  have grown : ∀ (old : Nat), old < xs.length + ys.length →
      St e m (w.drew.alloc (.cells ((E.flat xs).toArray ++ (E.flat ys).toArray ++ Builtin.zeroCells z.cells (grownCap w (xs.length + ys.length) old t - (xs.length + ys.length))) t))
        (own E t (some ⟨w.heap.size, 0, none⟩) (grownCap w (xs.length + ys.length) old t) (xs ++ ys) :: L) := by
    intro old ho
    have hge := grownCap_ge w (xs.length + ys.length) old t
    have hcm : grownCap w (xs.length + ys.length) old t ≤ maxLen := grownCap_le_maxLen w (xs.length + ys.length) old t hmx
    refine ((H.drop.ch0 (Ch.drew w)).newObj _).imp fun h hb => .inr ⟨w.heap.size, _, rfl, hb, by simpa using hge, hcm, ?_, ?_⟩
    · simp only [Array.size_append, List.size_toArray, size_zeroCells, hzc, E.flat_length, ← Nat.add_mul]
      congr 1; omega
    · have hl : (xs ++ ys).length * E.k = (E.flat xs ++ E.flat ys).length := by rw [← E.flat_append, E.flat_length]
      rw [hl, E.flat_append]
      simp only [Array.toList_append, List.append_assoc]
      rw [← List.append_assoc]
      exact List.take_left
  obtain ⟨_, hnil | ⟨g, cap, cur, hv, _, hg, hnc, hcm, hcs, htake⟩⟩ := hown
  · simp only [Value.slice.injEq] at hnil
    obtain ⟨⟨rfl, _, rfl⟩, hx0⟩ := hnil
    have hx : xs = [] := List.eq_nil_of_length_eq_zero hx0
    subst hx
    have hr := run_append_nil (P := P) w st ty t i z ht hi hz ⟨b, o, none⟩ ys.length c2 (E.flat ys) hyl news hylen (by simp only [maxLen] at hmx; simp at hmx; omega) (by rw [hby2]; simp at hby; omega)
    have hgr := grown 0 (by simpa using hylen)
    simp only [List.length_nil, Nat.zero_add, List.nil_append, Enc.flat, List.flatMap_nil, Array.empty_append] at hgr hr ⊢
    exact ⟨_, _, _, hr, by simpa using hgr⟩
  · simp only [Value.slice.injEq] at hv
    obtain ⟨rfl, _, rfl⟩ := hv
    by_cases hroom : xs.length + ys.length ≤ c
    · have hfit : xs.length * i.size + (E.flat ys).length ≤ cur.size := by rw [hyl, hcs, hsz, ← Nat.add_mul]; exact Nat.mul_le_mul_right _ hroom
      have hr := run_append_room (P := P) w st ty t i ht hi g xs.length c cur hg ⟨b, o, none⟩ ys.length c2 (E.flat ys) hyl news (E.flat_one ys) hroom hfit
      refine ⟨_, _, _, hr, ?_⟩
      refine St.step H rfl rfl rfl fun p hp hl => ?_
      have hpg : p g = some (.cells cur t (0, 0)) := by
        rcases hp with ⟨h, _⟩ | ⟨g', cur', h1, h2, _⟩
        · cases h
        · simp at h1; subst h1
          have := hl _ _ h2
          unfold hpOf at this
          rw [hg] at this
          rw [h2, this]
      refine ⟨hone g _, .inr ⟨g, _, rfl, hone_self _ _, by simpa using hroom, hcm, ?_, ?_⟩, hone_le (setRow_heap w g cur _ t _ hg), fun i hi => .inl ?_, fun i hi hw => ?_⟩
      · simp only [List.size_toArray, List.length_append, List.length_take, List.length_drop, Array.length_toList]
        omega
      · have hl : (xs ++ ys).length * E.k = (E.flat xs ++ E.flat ys).length := by rw [← E.flat_append, E.flat_length]
        rw [hl, E.flat_append]
        rw [hsz, htake]
        exact List.take_left
      · rw [hone_ne hi, hpg]; simp
      · exact setRow_other w g i _ (fun e => by subst e; rw [hpg] at hi; cases hi)
    · have holds : ∀ j u, (E.flat xs)[j]? = some u → w.cell? ((⟨g, 0, none⟩ : Addr).add j) = some u := by
        intro j u hu
        rw [addr_add, Nat.zero_add]
        rw [← htake, List.getElem?_take] at hu
        split at hu
        · simp only [World.cell?, hg]; simpa using hu
        · cases hu
      have hr := run_append_grow (P := P) w st ty t i z ht hi hz ⟨g, 0, none⟩ xs.length c (E.flat xs) (by rw [hsz]; exact E.flat_length xs) holds ⟨b, o, none⟩ ys.length c2 (E.flat ys) hyl news (by omega) (by simp only [maxLen] at hmx; omega) (growslice_fits (by omega) (by rw [hby2]; exact hby))
      exact ⟨_, _, _, hr, grown c (by omega)⟩


/-- append to a slice of one's own, of whatever an argument holds. -/
theorem St.appB {ty : TypeId} {bytes : Nat} {K : Option Addr → Nat → Nat → World → Prop} (H : St e m w (own E t a c [] :: L)) (hT : ElT P st t E bytes) (hy : SlR E w a2 ys) (hmx : ys.length ≤ maxLen) (hby : ys.length * bytes ≤ 140737488355328)
    (h : ∀ a' c' w', St e m w' (own E t a' c' ys :: L) → K a' ys.length c' w') :
    ∃ (A : Option Addr) (N C : Nat) (w2 : World), (Builtin.append_ #[st, st] ty #[.slice a 0 c, .slice a2 ys.length c2]).run P w = .ok (.slice A N C) w2 ∧ K A N C w2 := by
  obtain ⟨a', c', w', hr, H2⟩ := own_app_big (ty := ty) (c2 := c2) hT H hy (by simpa using hmx) (by simpa using hby)
  have hr : (Builtin.append_ #[st, st] ty #[.slice a 0 c, .slice a2 ys.length c2]).run P w = .ok (.slice a' (0 + ys.length) c') w' := hr
  rw [Nat.zero_add] at hr
  exact ⟨a', _, c', w', hr, h a' c' w' H2⟩
end

section
variable {H : Type} {enc : TypeId × Value → H} {P : Program} {w : World} {base : Nat} {spare : Nat → Bool} {held : Bool}
/-- What an argument's slice takes at the most. -/
theorem arg_reach {ts : List TypeId} {ds : List (DataW H)} (hsz : (DataW.weightsEach P ts ds).all (· ≤ reachBytes) = true) {j : Nat} {t e : TypeId} {a : Option Addr} {n c : Nat} {d : DataW H} {ps : List MemPlace} (htj : ts[j]? = some t) (hd : ds[j]? = some d)
    (ht : P.underlying t = some (.slice e)) (h : DataW.Trod enc P w base spare held t (.slice a n c) d ps) : n * P.bytesOf e ≤ 140737488351232 := by
  obtain ⟨fuel, hf⟩ := h
  simp only [Value.cells] at hf
  rcases Go.Deep.open_slice ht hf with ⟨h0, _⟩ | ⟨a', len, cap, m, n', D, Pl, h0, _, hle, hmax, hm, hx, _⟩
  · simp at h0; obtain ⟨rfl, rfl, rfl⟩ := h0
    omega
  · simp at h0; obtain ⟨rfl, rfl, rfl⟩ := h0
    simp only [Prod.mk.injEq] at hx
    obtain ⟨rfl, rfl⟩ := hx
    have := sized_slice hsz htj hd ht
    simp only [List.length_map, List.length_range, reachBytes] at this
    exact Nat.le_trans (Nat.mul_le_mul_right _ (Nat.le_add_right _ _)) this
end
end Go.Vc
