/- A strings.Builder: a text is written. Conditions: none. -/
import Derived.Test.YtllpiaedljoejaaGreatDoorShB
import Derived.Test.YtllpiaedljoejaaGreatDoorSc8
import Derived.Lib.AppendStr
namespace Go.Proofs.YtllpiaedljoejaaGreatDoor
open Go.Vc Go.Lib
set_option linter.unusedSimpArgs false
set_option linter.unusedVariables false
set_option maxRecDepth 100000
theorem strCells_ints (s : ByteArray) : (Enc.int .u8).flat (ints s.data.toList) = strCells s := by
  rw [bytes_of]
  unfold byteCells strCells
  simp
section
variable {e w : World} {m : Hp} {L : List HP}
theorem own_appS {a : Option Addr} {c : Nat} {xs : List Int} (H : St e m w (own (Enc.int .u8) 5 a c xs :: L)) (s : ByteArray) (hn : xs.length + s.size ≤ 10000000) :
    ∃ a' c' w', (Builtin.append_ #[28, 9] 28 #[.slice a xs.length c, .string s]).run Tryz.prog w = .ok (.slice a' (xs.length + s.size) c') w' ∧ St e m w' (own (Enc.int .u8) 5 a' c' (xs ++ ints s.data.toList) :: L) := by
  have ht : Tryz.prog.underlying 28 = some (.slice 5) := by kernel_rfl
  have hu : Tryz.prog.underlying 9 = some .string := by kernel_rfl
  obtain ⟨i, hi⟩ : ∃ i, Tryz.prog.info? 5 = some i := Option.isSome_iff_exists.1 (by kernel_rfl)
  have h2 : (Tryz.prog.info? 5).map (fun i => (i.size, i.bytes)) = some (1, 1) := by kernel_rfl
  have hz : (Tryz.prog.info? 5).bind (·.zero) = some (.int .u8 0) := by kernel_rfl
  rw [hi] at h2 hz
  simp only [Option.map_some, Option.some.injEq, Prod.mk.injEq, Option.bind_some] at h2 hz
  obtain ⟨hs1, hb1⟩ := h2
  have hlen : (xs ++ ints s.data.toList).length = xs.length + s.size := by
    rw [List.length_append]; unfold ints; rw [List.length_map]; rfl
  have hfl : (Enc.int .u8).flat (xs ++ ints s.data.toList) = (Enc.int .u8).flat xs ++ strCells s := by
    rw [← strCells_ints]; simp [Enc.flat, List.flatMap_append]
  have toOwn : ∀ {base : Nat} {w' : World} {a' : Option Addr} {c' : Nat}, w'.ownsRow base 5 1 (.slice a' (xs.length + s.size) c') (xs.length + s.size) ((Enc.int .u8).flat xs ++ strCells s) → Own (Enc.int .u8) 5 base w' a' c' (xs ++ ints s.data.toList) := fun h => by
    unfold Own
    rw [hfl, hlen]
    exact h
  have hown : ∀ base, (a = none ∨ base ≤ pb a) → w.ownsRow base 5 1 (.slice a xs.length c) xs.length ((Enc.int .u8).flat xs) := fun base hb => by
    have h0 := H.ownOut
    unfold Own at h0
    refine ⟨h0.1, ?_⟩
    rcases h0.2 with h | ⟨g, cap, cur, hv, _, hr⟩
    · exact .inl h
    · refine .inr ⟨g, cap, cur, hv, ?_, hr⟩
      simp only [Value.slice.injEq] at hv
      rcases hb with hb | hb
      · rw [hb] at hv; cases hv.1
      · rw [hv.1] at hb; exact hb
  have hm : xs.length + s.size ≤ maxLen := by simp only [maxLen]; omega
  cases a with
  | none =>
    obtain ⟨v', w', hr, ho, hg, _⟩ := run_append_own_string (P := Tryz.prog) (w := w) w.heap.size 28 9 28 5 i ht hu hi hz hs1 hb1 _ _ _ (hown w.heap.size (.inl rfl)) s hm (by omega) (Nat.le_refl _)
    have hsh : ∃ a' c', v' = .slice a' (xs.length + s.size) c' := by
      rcases ho.2 with ⟨h1, h3⟩ | ⟨g, cap, cur, h1, _⟩
      · exact ⟨none, 0, by rw [h1, h3]⟩
      · exact ⟨_, _, h1⟩
    obtain ⟨a', c', rfl⟩ := hsh
    exact ⟨a', c', w', hr, H.drop.ownIn (Ch.of_grown hg) (toOwn ho) (Nat.le_refl _)⟩
  | some ad =>
    obtain ⟨p, hp, hl⟩ := H.get
    have hp2 := hp
    rcases hp2 with ⟨h, _⟩ | ⟨g, cur, hg0, hcur, hxc, hcm, hsz, htk⟩
    · cases h
    simp only [Option.some.injEq] at hg0
    subst hg0
    have hcw : w.heap[g]? = some (.cells cur 5 (0, 0)) := hl _ _ hcur
    obtain ⟨v', w', hr, ho, hg, _⟩ := run_append_own_string (P := Tryz.prog) (w := w) 0 28 9 28 5 i ht hu hi hz hs1 hb1 _ _ _ (hown 0 (.inr (Nat.zero_le _))) s hm (by omega) (Nat.zero_le _)
    have hv : ∃ g' c', v' = .slice (some ⟨g', 0, none⟩) (xs.length + s.size) c' ∧ (g' = g ∨ w.heap.size ≤ g') := by
      by_cases hroom : xs.length + s.size ≤ c
      · have hk : (Enc.int .u8).k = 1 := rfl
        have h3 := run_append_room_string (P := Tryz.prog) w 28 9 28 5 i ht hu hi hs1 g xs.length c cur hcw s hroom (by rw [hsz, hk]; omega)
        rw [hr] at h3
        cases h3
        exact ⟨g, c, rfl, .inl rfl⟩
      · have h3 := run_append_grow_string (P := Tryz.prog) w 28 9 28 5 i (.int .u8 0) ht hu hi hz ⟨g, 0, none⟩ xs.length c ((Enc.int .u8).flat xs) (by rw [hs1, Enc.flat_length]; rfl) ((hown 0 (.inr (Nat.zero_le _))).cells (g := g) rfl) s (by omega) (by omega) (by rw [hb1]; exact growslice_fits (by omega) (by omega))
        rw [hr] at h3
        cases h3
        exact ⟨_, _, rfl, .inr (Nat.le_refl _)⟩
    obtain ⟨g', c', rfl, hgg⟩ := hv
    refine ⟨_, c', w', hr, ?_⟩
    refine St.ch H (Ch.of_grown hg) fun q hq hlq => ⟨?_, ?_⟩
    · intro b hb
      left
      rcases hq with ⟨h, _⟩ | ⟨g2, cur2, hg2, hcur2, _⟩
      · cases h
      · simp only [Option.some.injEq, Addr.mk.injEq, and_true] at hg2
        subst hg2
        simp only [Value.ownBlock, Option.toList_some, List.mem_singleton] at hb
        rw [hb, hcur2]; simp
    · obtain ⟨a2, p1, p2, p3⟩ := own_part (Own_own (toOwn ho))
      refine ⟨a2, p1, p2, fun i hi => ?_⟩
      obtain ⟨_, h5⟩ := p3 i hi
      subst h5
      rcases hgg with rfl | h
      · left
        rcases hq with ⟨h, _⟩ | ⟨g2, cur2, hg2, hcur2, _⟩
        · cases h
        · simp only [Option.some.injEq, Addr.mk.injEq, and_true] at hg2
          subst hg2
          intro hx
          have hx2 := hx.symm.trans hcur2
          cases hx2
      · right; exact h
theorem WriteString_sp {b : Nat} {xs : List Int} (H : St e m w (bld b xs :: L)) (s : ByteArray) (hx : xs.length + s.size ≤ 10000000) : Calls Tryz.prog 15 #[.pointer (some ⟨b, 0, none⟩), .string s] w (Ret fun v w' => v = .tuple #[.int .i64 (s.size : Int), .nilIface] ∧ St e m w' (bld b (xs ++ ints s.data.toList) :: L)) := by
  apply strings_Builder_WriteString.calls
  unfold strings_Builder_WriteString.F
  obtain ⟨p, H⟩ := H.ex
  obtain ⟨a, H⟩ := H.ex
  obtain ⟨c0, H⟩ := H.ex
  obtain ⟨hp, H⟩ := H.pure
  have H := H.flat
  refine Calls.ret (check_sp H hp) ?_
  rintro v w1 ⟨rfl, H⟩
  refine ⟨rfl, ?_⟩
  refine ⟨_, _, _, St.ld H, ?_⟩
  have H2 := St.re (L' := own (Enc.int .u8) 5 a c0 xs :: row b 41 [.pointer (some ⟨b, 0, none⟩), .slice a xs.length c0] :: L) H
  obtain ⟨a', c', w2, hr, H3⟩ := own_appS H2 s hx
  refine ⟨a', _, c', w2, hr, ?_⟩
  refine St.st H3 fun w3 H => ?_
  refine ⟨rfl, ?_⟩
  have hlen : (xs ++ ints s.data.toList).length = xs.length + s.size := by
    rw [List.length_append]; unfold ints; rw [List.length_map]; rfl
  have H4 := St.re (L' := row b 41 (splice [.pointer (some ⟨b, 0, none⟩), .slice a xs.length c0] (0 + 1) [.slice a' (xs.length + s.size) c']) :: own (Enc.int .u8) 5 a' c' (xs ++ ints s.data.toList) :: L) H
  rw [← hlen] at H4
  have H5 := St.join (L1 := [row b 41 (splice [.pointer (some ⟨b, 0, none⟩), .slice a xs.length c0] (0 + 1) [.slice a' (xs ++ ints s.data.toList).length c']), own (Enc.int .u8) 5 a' c' (xs ++ ints s.data.toList)]) H4
  exact H5.imp fun h hh => ⟨_, a', c', .inr rfl, hh⟩
end
end Go.Proofs.YtllpiaedljoejaaGreatDoor
