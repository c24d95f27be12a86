/- Separated memory: make; and smaller words. Conditions: none. -/
import Derived.Test.YtllpiaedljoejaaGreatDoorVcSL2
namespace Go.Vc
set_option linter.unusedSimpArgs false
set_option linter.unusedVariables false

/-- A type's zero as an element. -/
structure ZeT {α : Type} (P : Program) (t : TypeId) (E : Enc α) (x0 : α) : Prop where
  h : ∃ i z, P.info? t = some i ∧ i.zero = some z ∧ z.cells.toList = E.f x0 ∧ i.size = E.k ∧ i.bytes ≤ 100000
theorem ZeT.of {α : Type} {P : Program} {t : TypeId} {E : Enc α} {x0 : α} {k bytes : Nat} (h : (P.info? t).map (fun i => (i.zero.map (fun z => z.cells.toList), i.size, i.bytes)) = some (some (E.f x0), k, bytes)) (hk : k = E.k) (hb : bytes ≤ 100000) : ZeT P t E x0 := by
  cases hi : P.info? t with
  | none => rw [hi] at h; cases h
  | some i =>
    rw [hi] at h
    simp only [Option.map_some, Option.some.injEq, Prod.mk.injEq] at h
    obtain ⟨h1, h2, h3⟩ := h
    obtain ⟨z, hz, hc⟩ := Option.map_eq_some_iff.1 h1
    exact ⟨i, z, hi, hz, hc, by omega, by omega⟩
theorem made_flat {α : Type} {E : Enc α} {z : Array Value} {x0 : α} (hz : z.toList = E.f x0) (n : Nat) : (madeCells z (n * E.k)).toList = E.flat (List.replicate n x0) := by
  have hk := E.pos
  have hs : z.size = E.k := by rw [← Array.length_toList, hz, E.len]
  apply List.ext_getElem?
  intro j
  by_cases hj : j < n * E.k
  · have hi : j / E.k < n := (Nat.div_lt_iff_lt_mul hk).2 hj
    have hm : j % E.k < (E.f x0).length := by rw [E.len]; exact Nat.mod_lt _ hk
    have hg := E.flat_get (List.replicate n x0) (j / E.k) (j % E.k) x0 (E.f x0)[j % E.k] (by simp [hi]) (by simp [hm])
    rw [Nat.div_add_mod' j E.k] at hg
    rw [hg]
    have hm2 : j % z.size < z.size := by rw [hs]; exact Nat.mod_lt _ hk
    have e : z[j % z.size]! = (E.f x0)[j % E.k] := by
      rw [getElem!_pos z _ hm2]
      have : (E.f x0)[j % E.k]? = z.toList[j % E.k]? := by rw [hz]
      rw [List.getElem?_eq_getElem hm] at this
      simp only [hs]
      have h2 : z.toList[j % E.k]? = some (z[j % E.k]'(by rw [hs]; exact Nat.mod_lt _ hk)) := by simp [hs, Nat.mod_lt _ hk]
      rw [h2] at this
      exact (Option.some.inj this).symm
    simp [madeCells, hj, e]
  · rw [List.getElem?_eq_none (by simp [madeCells]; omega), List.getElem?_eq_none (by rw [E.flat_length]; simp; omega)]
section
variable {e w : World} {m : Hp} {L L' : List HP} {α : Type} {E : Enc α} {x0 : α} {t st : TypeId} {P : Program}
theorem St.make {n : Nat} {q : Int} {K : Option Addr → Nat → Nat → World → Prop} (H : St e m w L) (ht : P.underlying st = some (.slice t)) (hz : ZeT P t E x0) (hq : q = (n : Int)) (hn : n ≤ 1000000)
    (h : ∀ b w', St e m w' (own E t (some ⟨b, 0, none⟩) n (List.replicate n x0) :: L) → K (some ⟨b, 0, none⟩) n n w') :
    ∃ (A : Option Addr) (N C : Nat) (w2 : World), (Instr.makeSlice st (.int .i64 q) (.int .i64 q)).run P w = .ok (.slice A N C) w2 ∧ K A N C w2 := by
  subst hq
  obtain ⟨i, z, hi, hz, hc, hs, hb⟩ := hz
  have hr := run_make (P := P) w st t i z ht hi hz .i64 .i64 (n : Int) (n : Int) (by omega) (by omega) (by
    have : i.bytes * n ≤ 100000 * 1000000 := Nat.mul_le_mul hb hn
    have h2 : ((i.bytes * n : Nat) : Int) = (i.bytes : Int) * n := by simp
    omega) (by omega)
  rw [Int.toNat_natCast, hs] at hr
  refine ⟨_, _, _, _, hr, h _ _ ?_⟩
  have H2 := H.newObj (.cells (madeCells z.cells (n * E.k)) t)
  refine H2.imp fun h hb => .inr ⟨w.heap.size, _, rfl, hb, by simp, by simp only [maxLen]; omega, by rw [size_madeCells], ?_⟩
  rw [made_flat hc, List.length_replicate, List.take_of_length_le (by rw [E.flat_length]; simp)]
/-- A row of elements as a slice of one's own. -/
theorem St.newOwn {cs : Array Value} {K : Nat → World → Prop} (H : St e m w L) (xs : List α) (hl : xs.length ≤ 1000000000) (h : ∀ b w', St e m w' (own E t (some ⟨b, 0, none⟩) xs.length xs :: L) → K b w')
    (hcs : cs = (E.flat xs).toArray := by rfl) : newBlk w (.cells cs t (0, 0)) K := by
  subst hcs
  exact H.new fun b w' H => h b w' (H.rowOwn (by simp only [maxLen]; omega))
end
end Go.Vc
