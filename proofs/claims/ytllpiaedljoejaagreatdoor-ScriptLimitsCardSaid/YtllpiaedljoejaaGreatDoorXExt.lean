/- Closed runs: the functions that the machine takes whole do what it says. Conditions: none. -/
import Derived.Test.YtllpiaedljoejaaGreatDoorXSpl
import Derived.Test.YtllpiaedljoejaaGreatDoorXAs
import Derived.Test.YtllpiaedljoejaaGreatDoorXCk
import Derived.Test.YtllpiaedljoejaaGreatDoorShelf
import Derived.Test.YtllpiaedljoejaaGreatDoorVcF
import Derived.Test.YtllpiaedljoejaaGreatDoorVcGr
import Derived.Lib.ItoaLen
namespace Go.Proofs.YtllpiaedljoejaaGreatDoor
open Go.Vc Go.Lib
set_option linter.unusedSimpArgs false
set_option linter.unusedVariables false
set_option maxRecDepth 100000
/-- What the library's variables hold, in every world in which nothing of w0 has turned. -/
structure LibX (w0 : World) : Prop where
  pow : ∀ w, Ch [] w0 w → TabIs Tryz.prog w "internal/strconv.uint64pow10" .u64 pow10Tab
  mx : ∀ w, Ch [] w0 w → ∃ k, w.cell? ⟨1, 0, none⟩ = some (.int .i64 k)
  et : ∀ w, Ch [] w0 w → w.cell? ⟨0, 0, none⟩ = some (.iface 266 (.agg #[.pointer (some ⟨14, 51, none⟩)]))
def ExtR (w0 : World) (f : FuncId) (g : Ext) : Prop := ∀ args h v h', g args h = some (v, h') → ∀ (ρ : RM) (w : World) (args' : List Value), Rel ρ h w0 w → VRs ρ args args' → Calls Tryz.prog f args'.toArray w (Ret (Aft ρ h' w0 v))
theorem belowCh {w w' : World} (h : Go.RowKit.Below w.heap.size w w') : Ch [] w w' := ⟨h.os, h.tape, h.output, h.size, fun b hb _ => h.block b hb⟩
section
variable {w0 w w' : World} {ρ : RM} {h : XH}
theorem keepA {v : Value} (hp : plainV v = true) (H : Rel ρ h w0 w) (hc : Ch [] w w') : Aft ρ h w0 v v w' := ⟨ρ, RM.le_refl _, H.heapEq hc, .plainV hp⟩
theorem x_IndexByte : ExtR w0 18 xIndexByte := by
  intro args h v h' hx ρ w args' H hv
  unfold xIndexByte at hx
  split at hx
  · rename_i s c
    cases hx
    have e := hv.of_plain rfl
    subst e
    refine (Tryz.strings_IndexByte s c w).mono ?_
    rintro _ w' ⟨rfl, rfl⟩
    exact ⟨_, rfl, keepA rfl H (Ch.refl _ _)⟩
  · cases hx
theorem decX_step (f u : Nat) : decX (f + 1) u = if u < 10 then [UInt8.ofNat (48 + u)] else decX f (u / 10) ++ [UInt8.ofNat (48 + u % 10)] := by
  have e : decX (f + 1) u = (match Nat.blt u 10 with | true => [UInt8.ofNat (48 + u)] | false => decX f (u / 10) ++ [UInt8.ofNat (48 + u % 10)]) := rfl
  rw [e]
  by_cases hu : u < 10
  · have : Nat.blt u 10 = true := Nat.ble_eq_true_of_le hu
    rw [this, if_pos hu]
  · have : Nat.blt u 10 = false := by
      cases hb : Nat.blt u 10 with
      | false => rfl
      | true => exact (hu (Nat.le_of_ble_eq_true hb)).elim
    rw [this, if_neg hu]
theorem decX_eq : ∀ (f u : Nat), u < 10 ^ (f + 1) → decX (f + 1) u = decDigits u
  | 0, u, h => by
    have hu : u < 10 := by simpa using h
    rw [decX_step, decDigits, if_pos hu, dif_pos hu]
  | f + 1, u, h => by
    rw [decX_step, decDigits]
    by_cases hu : u < 10
    · rw [if_pos hu, dif_pos hu]
    · rw [if_neg hu, dif_neg hu]
      have hf : u / 10 < 10 ^ (f + 1) := by rw [Nat.pow_succ] at h; exact (Nat.div_lt_iff_lt_mul (by decide)).2 h
      rw [decX_eq f (u / 10) hf]
theorem itoaX_eq {n : Int} {l : List UInt8} (h : itoaX n = some l) : -9223372036854775808 ≤ n ∧ n ≤ 9223372036854775807 ∧ itoa n = l := by
  unfold itoaX at h
  split at h
  · rename_i u
    split at h
    · rename_i hb
      cases h
      have hu : u < 1000000000000 := Nat.le_of_ble_eq_true hb
      refine ⟨by first | omega | (simp; done) | (simp; omega), by first | omega | (simp; done) | (simp; omega), ?_⟩
      unfold itoa
      rw [if_neg (by simp)]
      exact (decX_eq 11 u (by omega)).symm
    · cases h
  · rename_i u
    split at h
    · rename_i hb
      cases h
      have hu : u < 1000000 := Nat.le_of_ble_eq_true hb
      refine ⟨by omega, by omega, ?_⟩
      unfold itoa
      rw [if_pos (by omega)]
      exact congrArg _ (decX_eq 11 (u + 1) (by omega)).symm
    · cases h
theorem x_Itoa (hL : LibX w0) : ExtR w0 22 xItoa := by
  intro args h v h' hx ρ w args' H hv
  unfold xItoa at hx
  split at hx
  · rename_i n
    split at hx
    · rename_i l hl
      cases hx
      have e := hv.of_plain rfl
      subst e
      obtain ⟨h1, h2, h3⟩ := itoaX_eq hl
      refine (Tryz.strconv_Itoa n h1 h2 w (hL.pow w H.ch)).mono ?_
      rintro _ w' ⟨rfl, k, os, rfl⟩
      rw [h3]
      exact ⟨_, rfl, keepA rfl H (Gr.ch ⟨k, os, rfl⟩)⟩
    · cases hx
  · cases hx
theorem x_Cut (hL : LibX w0) : ExtR w0 36 xCut := by
  intro args h v h' hx ρ w args' H hv
  unfold xCut at hx
  split at hx
  · rename_i s p
    split at hx
    · rename_i a b c hb hc
      cases hx
      have e := hv.of_plain rfl
      subst e
      have hs : s.size < 1000000 := Nat.le_of_ble_eq_true hb
      obtain ⟨k, hk⟩ := hL.mx w H.ch
      refine (Tryz.strings_Cut s p k w (by omega) hk).mono ?_
      rintro _ w' ⟨rfl, n, rfl⟩
      rw [hc]
      exact ⟨_, rfl, keepA rfl H (Gr.ch ⟨n, #[], by rw [Sort.grow_empty]⟩)⟩
    · cases hx
  · cases hx
theorem x_CutPrefix : ExtR w0 85 xCutPrefix := by
  intro args h v h' hx ρ w args' H hv
  unfold xCutPrefix at hx
  split at hx
  · rename_i s p
    cases hx
    have e := hv.of_plain rfl
    subst e
    refine (Tryz.strings_CutPrefix s p w).mono ?_
    rintro _ w' ⟨rfl, rfl⟩
    exact ⟨_, rfl, keepA rfl H (Ch.refl _ _)⟩
  · cases hx
theorem x_TrimPrefix : ExtR w0 174 xTrimPrefix := by
  intro args h v h' hx ρ w args' H hv
  unfold xTrimPrefix at hx
  split at hx
  · rename_i s p
    cases hx
    have e := hv.of_plain rfl
    subst e
    refine (Tryz.strings_TrimPrefix s p w).mono ?_
    rintro _ w' ⟨rfl, rfl⟩
    exact ⟨_, rfl, keepA rfl H (Ch.refl _ _)⟩
  · cases hx
theorem x_ParseInt : ExtR w0 175 xParseInt := by
  intro args h v h' hx ρ w args' H hv
  unfold xParseInt at hx
  split at hx
  · rename_i s
    split at hx
    · rename_i n hb hn
      cases hx
      have e := hv.of_plain rfl
      subst e
      have hs : s.size < 1000000 := Nat.le_of_ble_eq_true hb
      refine (Tryz.strconv_ParseInt_10_at64_ok s (by omega) n hn w).mono ?_
      rintro _ w' ⟨rfl, hw⟩
      refine ⟨_, rfl, keepA rfl H ?_⟩
      rcases hw with rfl | ⟨t, rfl⟩
      · exact Ch.refl _ _
      · exact belowCh (Lib.bytesWorld_below w _ t)
    · cases hx
  · cases hx
theorem strsX_spec : ∀ {vs : List Value} {l : List (List UInt8)}, strsX vs = some l → ∃ xs : List ByteArray, vs = xs.map Value.string ∧ l = xs.map (·.data.toList)
  | [], l, h => by simp only [strsX, Option.some.injEq] at h; subst h; exact ⟨[], rfl, rfl⟩
  | v :: r, l, h => by
    unfold strsX at h
    split at h
    · rename_i heq; cases heq
    · rename_i s r' heq
      simp only [List.cons.injEq] at heq
      obtain ⟨e1, e2⟩ := heq
      subst e1; subst e2
      split at h
      · rename_i l' hl
        cases h
        obtain ⟨xs, h1, h2⟩ := strsX_spec hl
        exact ⟨s :: xs, by simp [h1], by simp [h2]⟩
      · cases h
    · cases h
theorem x_Join : ExtR w0 62 xJoin := by
  intro args h v h' hx ρ w args' H hv
  unfold xJoin at hx
  split at hx
  · rename_i p
    cases hx
    have e := hv.of_plain rfl
    subst e
    refine (Tryz.strings_Join_none none 0 p w).mono ?_
    rintro _ w' ⟨rfl, rfl⟩
    exact ⟨_, rfl, keepA rfl H (Ch.refl _ _)⟩
  · rename_i k o n c p
    split at hx
    · rename_i vs hr
      split at hx
      · rename_i l hl
        split at hx
        · rename_i hb
          cases hx
          obtain ⟨xs, e1, e2⟩ := strsX_spec hl
          cases hv with
          | cons a1 a2 =>
          cases a2 with
          | cons a2 a3 =>
          cases a3
          have ep := a2.of_plain rfl
          subst ep
          cases a1 with
          | plain hp => simp [plain1] at hp
          | @slice _ _ _ _ bk cc hk hle =>
          obtain ⟨h1, vs', h2, h3⟩ := rdN_sound H.cell hk _ _ hr
          have hpl : vs.all plain1 = true := by
            rw [e1, List.all_eq_true]
            intro x hx
            obtain ⟨y, _, rfl⟩ := List.mem_map.1 hx
            rfl
          have ev := h2.of_plain hpl
          subst ev
          have hn : n = xs.length := by rw [← h1, e1, List.length_map]
          subst hn
          subst e2
          simp only [Bool.and_eq_true] at hb
          have hlt : (join (xs.map (·.data.toList)) p.data.toList).length < 1000000 := Nat.le_of_ble_eq_true hb.1
          have hn6 : xs.length < 65536 := Nat.le_of_ble_eq_true hb.2
          refine (Tryz.strings_Join bk o (cc - c) xs p w (fun j x hj => h3 w rfl j (.string x) (by rw [e1, List.getElem?_map, hj]; rfl)) (H.lt _ _ _ hk) (by omega) (by omega) (by omega)).mono ?_
          rintro _ w' ⟨rfl, hb⟩
          exact ⟨_, rfl, keepA rfl H (belowCh hb)⟩
        · cases hx
      · cases hx
    · cases hx
  · cases hx
theorem x_Split (hL : LibX w0) : ExtR w0 20 xSplit := by
  intro args h v h' hx ρ w args' H hv
  unfold xSplit at hx
  split at hx
  · rename_i s p
    split at hx
    · rename_i c hp
      split at hx
      · rename_i hb
        have e := hv.of_plain rfl
        subst e
        have hs : s.size < 65000 := Nat.le_of_ble_eq_true hb
        obtain ⟨k, hk⟩ := hL.mx w H.ch
        have ep : p = ⟨#[c]⟩ := by
          cases p with
          | mk a => cases a with
            | mk l => have hp : l = [c] := hp
                      subst hp; rfl
        subst ep
        have h1 : 1 ≤ (⟨#[c]⟩ : ByteArray).size := Nat.le_refl 1
        have hlen := splitB_all ⟨#[c]⟩ h1 0 _ s rfl
        have hx2 := split_x s c
        have hcb := countB_le ⟨#[c]⟩ h1 s.size s (Nat.le_refl _)
        have hln : (splitX c s.data.toList []).length = countB s ⟨#[c]⟩ + 1 := by
          have := congrArg List.length hx2
          simp only [List.length_map] at this
          rw [← this]; exact hlen
        refine (Tryz.strings_Split s ⟨#[c]⟩ k w (by omega) hk h1).mono ?_
        rintro _ w' ⟨rfl, rfl⟩
        rw [hx2]
        obtain ⟨kk, rfl, g1, g2⟩ := newCells (ow := 1) (c := countB s ⟨#[c]⟩ + 1) (cs' := (splitX c s.data.toList []).map fun l => Value.string ⟨l.toArray⟩) H hx (VRs.plain (by
          rw [List.all_eq_true]
          intro x hx
          obtain ⟨y, _, rfl⟩ := List.mem_map.1 hx
          rfl)) (fun _ => ⟨by rw [List.length_map, hln]; omega, by simp only [maxLen]; omega⟩)
        refine ⟨_, rfl, _, g1, g2, ?_⟩
        rw [hln]
        have := VR.slice (ρ := ρ.put kk (w.heap.size, countB s ⟨#[c]⟩ + 1)) (k := kk) (o := 0) (n := countB s ⟨#[c]⟩ + 1) (l := 0) (b := w.heap.size) (c := countB s ⟨#[c]⟩ + 1) RM.put_self (by omega)
        simpa using this
      · cases hx
    · cases hx
  · cases hx
theorem x_Check : ExtR w0 33 xCheck := by
  intro args h v h' hx ρ w args' H hv
  unfold xCheck at hx
  split at hx
  · rename_i k
    cases hv with
    | cons a1 a2 =>
    cases a2
    cases a1 with
    | plain hp => simp [plain1] at hp
    | @ptr _ _ b c hk =>
    split at hx
    · rename_i t u hg
      split at hx
      · rename_i h2 ht hs
        cases hx
        have ht := Nat.eq_of_beq_eq_true ht
        subst ht
        obtain ⟨b', c', hb', cs', tl, hw, hcs, h0, _⟩ := H.obj _ _ hg
        rw [hk] at hb'; cases hb'
        have := h0 rfl
        subst this
        rw [List.append_nil] at hw
        generalize hcc : cs' = z at hcs
        cases hcs with
        | cons i1 i2 =>
        cases i2 with
        | cons i2 i3 =>
        cases i3
        have e1 := i1.of_plain rfl
        subst e1
        subst hcc
        have hrow : Row w b 41 [.pointer none, _] := hw
        obtain ⟨g1, g2, g3⟩ := storeCX_sound (vs := [.pointer (some ⟨k, 0, none⟩)]) (vs' := [.pointer (some ⟨b, 0, none⟩)]) H hk (.cons (.ptr hk) .nil) hs
        refine (check_fresh b w (hrow.cell rfl) (by simp only [World.shape?, hw]; rfl) (hrow.frozen 0)).mono ?_
        rintro _ w' ⟨rfl, rfl⟩
        exact ⟨_, rfl, ρ, RM.le_refl _, by simpa [World.setCells] using g3, .plainV rfl⟩
      · cases hx
    · rename_i t k' u hg
      split at hx
      · rename_i hkk
        cases hx
        have hkk := Nat.eq_of_beq_eq_true hkk
        subst hkk
        obtain ⟨bb, cc, v', hb', hvr, hcell⟩ := H.cell k 0 (.pointer (some ⟨k, 0, none⟩)) (by unfold XH.cell; rw [hg]; rfl)
        rw [hk] at hb'; cases hb'
        cases hvr with
        | plain hp => simp [plain1] at hp
        | @ptr _ _ b2 c2 hk2 =>
        rw [hk] at hk2; cases hk2
        refine (check_used b w (hcell w rfl)).mono ?_
        rintro _ w' ⟨rfl, rfl⟩
        exact ⟨_, rfl, keepA rfl H (Ch.refl _ _)⟩
      · cases hx
    · cases hx
  · cases hx
end
end Go.Proofs.YtllpiaedljoejaaGreatDoor

namespace Go.Proofs.YtllpiaedljoejaaGreatDoor
open Go.Vc Go.Lib
set_option linter.unusedSimpArgs false
set_option linter.unusedVariables false
set_option maxRecDepth 100000
theorem sel_kill (i : Nat) (t : T8 XO) : T8.sel i (killT t) = killT (T8.sel i t) := by
  cases t with
  | e => rfl
  | l x => rfl
  | n c0 c1 c2 c3 c4 c5 c6 c7 =>
    show (Bool.rec (Bool.rec (Bool.rec (killT c7) (killT c6) (Nat.ble i 6)) (Bool.rec (killT c5) (killT c4) (Nat.ble i 4)) (Nat.ble i 5)) (Bool.rec (Bool.rec (killT c3) (killT c2) (Nat.ble i 2)) (Bool.rec (killT c1) (killT c0) (Nat.ble i 0)) (Nat.ble i 1)) (Nat.ble i 3) : T8 XO) = killT (Bool.rec (Bool.rec (Bool.rec c7 c6 (Nat.ble i 6)) (Bool.rec c5 c4 (Nat.ble i 4)) (Nat.ble i 5)) (Bool.rec (Bool.rec c3 c2 (Nat.ble i 2)) (Bool.rec c1 c0 (Nat.ble i 0)) (Nat.ble i 1)) (Nat.ble i 3))
    cases Nat.ble i 3 <;> cases Nat.ble i 1 <;> cases Nat.ble i 5 <;> cases Nat.ble i 0 <;> cases Nat.ble i 2 <;> cases Nat.ble i 4 <;> cases Nat.ble i 6 <;> rfl
theorem get_kill : ∀ (d k : Nat) (t : T8 XO), T8.get d k (killT t) = (T8.get d k t).map fun _ => .dead
  | 0, k, t => by
    rw [T8.get_zero, T8.get_zero]
    split
    · cases t <;> rfl
    · rfl
  | d + 1, k, t => by rw [T8.get_succ, T8.get_succ, sel_kill, get_kill d]
section
variable {w0 w w' : World} {ρ : RM} {h : XH}
theorem kill_rel (H : Rel ρ h w0 w) (hc : Ch [] w0 w') (hs : w.heap.size ≤ w'.heap.size) : Rel ρ (killX h) w0 w' where
  ch := hc
  obj := fun k x hk => by
    have e : (killX h).get k = (h.get k).map fun _ => .dead := get_kill 6 k h.tr
    rw [e] at hk
    cases hg : h.get k with
    | none => rw [hg] at hk; cases hk
    | some y =>
      rw [hg] at hk
      cases hk
      obtain ⟨b, c, h1, _⟩ := H.obj k y hg
      exact ⟨b, c, h1, trivial⟩
  inj := fun k k' x x' b c c' h1 h2 h3 => by
    have e : (killX h).get k = (h.get k).map fun _ => .dead := get_kill 6 k h.tr
    rw [e] at h1
    cases hg : h.get k with
    | none => rw [hg] at h1; cases h1
    | some y => rw [hg] at h1; cases h1; exact (h3 rfl).elim
  dom := fun k hk => by
    have e : (killX h).get k = (h.get k).map fun _ => .dead := get_kill 6 k h.tr
    rw [e] at hk
    cases hg : h.get k with
    | none => exact H.dom k hg
    | some y => rw [hg] at hk; cases hk
  own := H.own
  lt := fun k b c hk => Nat.lt_of_lt_of_le (H.lt k b c hk) hs
  glob := H.glob
theorem bytesX_spec : ∀ {cs : List Value} {l : List UInt8}, bytesX cs = some l → cs = byteCells l
  | [], l, h => by simp only [bytesX, Option.some.injEq] at h; subst h; rfl
  | v :: r, l, h => by
    unfold bytesX at h
    split at h
    · rename_i heq; cases heq
    · rename_i n r' heq
      simp only [List.cons.injEq] at heq
      obtain ⟨e1, e2⟩ := heq
      subst e1; subst e2
      split at h
      · rename_i bs hn hb
        cases h
        have hn : n < 256 := Nat.le_of_ble_eq_true hn
        rw [bytesX_spec hb]
        show _ = Value.int .u8 ((UInt8.ofNat n).toNat : Nat) :: byteCells bs
        rw [UInt8.toNat_ofNat_of_lt' hn]
        rfl
      · cases h
    · cases h
theorem byteCells_plain (l : List UInt8) : (byteCells l).all plain1 = true := by
  rw [List.all_eq_true]
  intro v hv
  simp only [byteCells, List.mem_map] at hv
  obtain ⟨b, _, rfl⟩ := hv
  rfl
theorem self_val {k b c : Nat} {p p' : Value} (hk : ρ k = some (b, c)) (hs : selfX k p = true) (hp : VR ρ p p') : p' = .pointer none ∨ p' = .pointer (some ⟨b, 0, none⟩) := by
  unfold selfX at hs
  split at hs
  · left; exact hp.of_plain rfl
  · rename_i k'
    have := Nat.eq_of_beq_eq_true hs
    subst this
    cases hp with
    | plain hp => simp [plain1] at hp
    | ptr e => rw [hk] at e; cases e; right; rfl
  · cases hs
theorem x_String : ExtR w0 16 xString := by
  intro args h v h' hx ρ w args' H hv
  unfold xString at hx
  split at hx
  case h_2 => cases hx
  rename_i k
  cases hv with
  | cons a1 a2 =>
  cases a2
  cases a1 with
  | plain hp => simp [plain1] at hp
  | @ptr _ _ b c hk =>
  have post : ∀ (l : List UInt8), IsBuilder 41 5 w0.heap.size b (byteCells l) w → h' = killX h → v = .string ⟨l.toArray⟩ → Calls Tryz.prog 16 [Value.pointer (some ⟨b, 0, none⟩)].toArray w (Ret (Aft ρ h' w0 v)) := by
    intro l hb e1 e2
    subst e1; subst e2
    refine (Tryz.Builder_String_any w0.heap.size b l w hb H.ch.size).mono ?_
    rintro _ w' ⟨rfl, hbl⟩
    have hch : Ch [] w0 w' := ⟨hbl.os.trans H.ch.os, hbl.tape.trans H.ch.tape, hbl.output.trans H.ch.output, Nat.le_trans H.ch.size hbl.size, fun i hi _ => (hbl.block i hi).trans (H.ch.block i hi (by simp))⟩
    exact ⟨_, rfl, ρ, RM.le_refl _, kill_rel H hch hbl.size, .plain rfl⟩
  split at hx
  · rename_i t p hg
    split at hx
    · rename_i hok
      cases hx
      simp only [Bool.and_eq_true] at hok
      obtain ⟨⟨ht, hs⟩, hx0⟩ := hok
      have ht := Nat.eq_of_beq_eq_true ht
      subst ht
      obtain ⟨b', c', hb', cs', tl, hw, hcs, h0, _⟩ := H.obj _ _ hg
      rw [hk] at hb'; cases hb'
      have := h0 rfl
      subst this
      rw [List.append_nil] at hw
      generalize hcc : cs' = z at hcs
      cases hcs with
      | cons i1 i2 =>
      cases i2 with
      | cons i2 i3 =>
      cases i3
      have e2 := i2.of_plain rfl
      subst e2
      subst hcc
      refine post [] ?_ rfl rfl
      have hown : w.ownsRow w0.heap.size 5 1 (.slice none 0 0) (byteCells []).length (byteCells []) := ⟨rfl, .inl ⟨rfl, rfl⟩⟩
      have hB : w0.heap.size ≤ b := H.own _ _ _ hk (Nat.le_of_ble_eq_true hx0)
      rcases self_val hk hs i1 with e | e
      · subst e; exact .inl ⟨hB, _, hw, hown, by simp [Value.ownBlock]⟩
      · subst e; exact .inr ⟨hB, _, hw, hown, by simp [Value.ownBlock]⟩
    · cases hx
  · rename_i t p g n hg
    split at hx
    · rename_i e cs hgg
      split at hx
      · rename_i l hl hok
        cases hx
        simp only [Bool.and_eq_true] at hok
        obtain ⟨⟨⟨⟨⟨hn, he⟩, ht⟩, hs⟩, hx0⟩, hx1⟩ := hok
        have hn := Nat.eq_of_beq_eq_true hn
        have he := Nat.eq_of_beq_eq_true he
        have ht := Nat.eq_of_beq_eq_true ht
        subst hn; subst he; subst ht
        obtain ⟨b', c', hb', cs', tl, hw, hcs, h0, _⟩ := H.obj _ _ hg
        rw [hk] at hb'; cases hb'
        have := h0 rfl
        subst this
        rw [List.append_nil] at hw
        generalize hcc : cs' = z at hcs
        cases hcs with
        | cons i1 i2 =>
        cases i2 with
        | cons i2 i3 =>
        cases i3
        subst hcc
        cases i2 with
        | plain hp => simp [plain1] at hp
        | @slice _ _ _ _ gb gc hgk hle =>
        obtain ⟨gb', gc', hgb', ds', tl2, hw2, hds, _, h1⟩ := H.obj _ _ hgg
        rw [hgk] at hgb'; cases hgb'
        obtain ⟨hcap, hcmx⟩ := h1 (by simp)
        have ec := bytesX_spec hl
        have ed := hds.of_plain (by rw [ec]; exact byteCells_plain l)
        subst ed
        refine post l ?_ rfl rfl
        have hne : gb ≠ b := fun e => by
          subst e
          have := H.inj _ _ _ _ _ _ _ hgg hg (by simp) (by simp) hgk hk
          subst this
          rw [hg] at hgg
          simp only [Option.some.injEq, XO.cells.injEq] at hgg
          exact absurd hgg.1 (by decide)
        have hown : w.ownsRow w0.heap.size 5 1 (.slice (some ⟨gb, 0, none⟩) ds'.length (gc - 0)) (byteCells l).length (byteCells l) := by
          rw [← ec]
          refine ⟨by simp, .inr ⟨gb, gc - 0, (ds' ++ tl2).toArray, rfl, H.own _ _ _ hgk (Nat.le_of_ble_eq_true hx1), hw2, by omega, by omega, by simpa using hcap, by simp⟩⟩
        have hB : w0.heap.size ≤ b := H.own _ _ _ hk (Nat.le_of_ble_eq_true hx0)
        rcases self_val hk hs i1 with e | e
        · subst e; exact .inl ⟨hB, _, hw, hown, by simp [Value.ownBlock]; exact hne⟩
        · subst e; exact .inr ⟨hB, _, hw, hown, by simp [Value.ownBlock]; exact hne⟩
      · cases hx
    · cases hx
  · cases hx
theorem x_As (hL : LibX w0) : ExtR w0 55 xAs := by
  intro args h v h' hx ρ w args' H hv
  unfold xAs at hx
  split at hx
  · cases hx
    cases hv with
    | cons a1 a2 =>
    cases a2 with
    | cons a2 a3 =>
    cases a3
    have e := a1.of_plain rfl
    subst e
    refine (as_nil _ w).mono ?_
    rintro _ w' ⟨rfl, rfl⟩
    exact ⟨_, rfl, keepA rfl H (Ch.refl _ _)⟩
  · rename_i t e u k
    split at hx
    · rename_i h2 hok hs
      cases hx
      simp only [Bool.and_eq_true] at hok
      have ht := Nat.eq_of_beq_eq_true hok.1
      have hu := Nat.eq_of_beq_eq_true hok.2
      subst ht; subst hu
      cases hv with
      | cons a1 a2 =>
      cases a2 with
      | cons a2 a3 =>
      cases a3
      cases a1 with
      | plain hp => simp [plain1] at hp
      | iface a1 =>
      cases a1 with
      | plain hp => simp [plain1] at hp
      | @ptr _ _ eb ec hek =>
      cases a2 with
      | plain hp => simp [plain1] at hp
      | iface a2 =>
      cases a2 with
      | plain hp => simp [plain1] at hp
      | @ptr _ _ b c hk =>
      obtain ⟨g1, g2, g3⟩ := storeCX_sound (vs := [.pointer (some ⟨e, 0, none⟩)]) (vs' := [.pointer (some ⟨eb, 0, none⟩)]) H hk (.cons (.ptr hek) .nil) hs
      have hr := g1 0 (by simp)
      obtain ⟨old, hold⟩ := Option.isSome_iff_exists.1 hr.1
      refine (as_hit ⟨eb, 0, none⟩ ⟨b, 0, none⟩ old w (hL.et w H.ch) (by simpa using hold) (by simpa using hr.2)).mono ?_
      rintro _ w' ⟨rfl, rfl⟩
      obtain ⟨w4, hw4⟩ : ∃ w4, w4 = ((((w.alloc (.cells #[.pointer (some ⟨b, 0, none⟩)] 124)).alloc (.cells #[.pointer (some ⟨14, 124, none⟩), .pointer (some ⟨w.heap.size, 0, none⟩), .int .u64 150] 194)).alloc (.cells #[.pointer (some ⟨14, 124, none⟩), .pointer (some ⟨w.heap.size, 0, none⟩), .int .u64 150] 194)).alloc (.cells #[.pointer (some ⟨eb, 0, none⟩)] 99)) := ⟨_, rfl⟩
      have hc4 : Ch [] w w4 := by
        rw [hw4]
        exact (((Ch.alloc _ _).trans0 (Ch.alloc _ _)).trans0 (Ch.alloc _ _)).trans0 (Ch.alloc _ _)
      have H4 := H.heapEq hc4
      obtain ⟨i1, i2, i3⟩ := storeCX_sound (vs := [.pointer (some ⟨e, 0, none⟩)]) (vs' := [.pointer (some ⟨eb, 0, none⟩)]) H4 hk (.cons (.ptr hek) .nil) hs
      refine ⟨_, rfl, ρ, RM.le_refl _, ?_, .plain rfl⟩
      rw [← hw4]
      simpa [World.setCells] using i3
    · cases hx
  · cases hx
theorem x_Is : ExtR w0 88 xIs := by
  intro args h v h' hx ρ w args' H hv
  unfold xIs at hx
  split at hx
  · rename_i t e u n
    split at hx
    · rename_i m hok hc
      split at hx
      · rename_i hmn
        cases hx
        have hmn := of_decide_eq_true hmn
        subst hmn
        simp only [Bool.and_eq_true] at hok
        have ht := Nat.eq_of_beq_eq_true hok.1
        have hu := Nat.eq_of_beq_eq_true hok.2
        subst ht; subst hu
        cases hv with
        | cons a1 a2 =>
        cases a2 with
        | cons a2 a3 =>
        cases a3
        cases a1 with
        | plain hp => simp [plain1] at hp
        | iface a1 =>
        cases a1 with
        | plain hp => simp [plain1] at hp
        | @ptr _ _ eb ec hek =>
        cases a2 with
        | plain hp => simp [plain1] at hp
        | iface a2 =>
        have e2 := a2.of_plain rfl
        subst e2
        obtain ⟨b', c', v', hb', hvr, hcell⟩ := H.cell e 1 _ hc
        rw [hek] at hb'; cases hb'
        have e3 := hvr.of_plain rfl
        subst e3
        refine (is_hit eb m w (hcell w rfl)).mono ?_
        rintro _ w' ⟨rfl, rfl⟩
        exact ⟨_, rfl, keepA rfl H (Ch.refl _ _)⟩
      · cases hx
    · cases hx
  · cases hx
theorem envX_exts (hL : LibX w0) : envX.Exts w0 := by
  intro f g hg
  have hg : extX f = some g := hg
  unfold extX at hg
  split at hg <;> first | (cases hg; done) | skip
  · cases hg; exact x_IndexByte
  · cases hg; exact x_Itoa hL
  · cases hg; exact x_Cut hL
  · cases hg; exact x_CutPrefix
  · cases hg; exact x_TrimPrefix
  · cases hg; exact x_ParseInt
  · cases hg; exact x_Join
  · cases hg; exact x_Split hL
  · cases hg; exact x_Check
  · cases hg; exact x_String
  · cases hg; exact x_As hL
  · cases hg; exact x_Is
end
end Go.Proofs.YtllpiaedljoejaaGreatDoor
