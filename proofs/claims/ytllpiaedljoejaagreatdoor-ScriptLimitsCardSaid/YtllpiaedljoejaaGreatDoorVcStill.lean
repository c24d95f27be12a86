/- The engine's first half: an operation that leaves the world alone does what its formula says. Conditions: none. -/
import Derived.Test.YtllpiaedljoejaaGreatDoorVc
import Derived.Laws.Slices
import Derived.Laws.Pointers
import Derived.Laws.Strings
import Derived.Laws.Sem
namespace Go.Vc
set_option linter.unusedSimpArgs false
set_option linter.unusedVariables false

theorem underlying_run {P : Program} {t : TypeId} {d : TypeDesc} (h : P.underlying t = some d) (w : World) : (underlying t).run P w = .ok d w := by
  simp [underlying, h]

/-- In each world in which 'rd' and 'rn' tell the truth. -/
def Truth (P : Program) (rd : Addr → Value → Prop) (rn : Sem Value → Value → Prop) (w : World) : Prop :=
  (∀ a u, rd a u → w.cell? a = some u) ∧ (∀ s u, rn s u → s.run P w = .ok u w)

def Comes1 (P : Program) (rd : Addr → Value → Prop) (rn : Sem Value → Value → Prop) (o : Oper) (l : Fr) (K : Value → Prop) : Prop :=
  ∃ v, (∀ w, Truth P rd rn w → (execOp (ev l) o).run P w = .ok (.value v) w) ∧ K v

section
variable {P : Program} {rd : Addr → Value → Prop} {rn : Sem Value → Value → Prop} {o : Oper} {l : Fr} {K : Value → Prop}

theorem pure_sound (h : pureVC P o l K) : Comes1 P rd rn o l K := by
  unfold pureVC at h
  split at h
  · rename_i v hv
    exact ⟨v, fun w _ => pureVal_run hv w, h⟩
  · exact h.elim

theorem ldCells_get {b k : Nat} : ∀ (shs : List Sh) (i : Nat) (K : List Value → Prop), ldCells rd b k shs i K →
    ∃ vs : List Value, vs.length = shs.length ∧ (∀ j (hj : j < vs.length), rd ⟨b, k + (i + j), none⟩ vs[j]) ∧ K vs
  | [], i, K, h => ⟨[], rfl, fun j hj => by simp at hj, h⟩
  | s :: r, i, K, h => by
    obtain ⟨v, hv, h⟩ := exSh_ex h
    obtain ⟨vs, hl, hr, hk⟩ := ldCells_get r (i + 1) _ h
    refine ⟨v :: vs, by simp [hl], ?_, hk⟩
    intro j hj
    cases j with
    | zero => simpa using hv
    | succ j =>
      have := hr j (by simpa using hj)
      simpa [Nat.add_assoc, Nat.add_comm 1 j] using this

theorem addr_add (b k j : Nat) : (⟨b, k, none⟩ : Addr).add j = ⟨b, k + j, none⟩ := by
  unfold Addr.add
  split
  · rename_i h; subst h; rfl
  · rfl

theorem okP_ex {p : Option Addr} {X : Prop} (h : okP p X) : ∃ b k, p = some ⟨b, k, none⟩ ∧ X := by
  obtain ⟨e, hx⟩ := okP_iff.1 h
  exact ⟨_, _, e, hx⟩

theorem loadVC_ptr {t : TypeId} {addr : Value} (h : loadVC P rd t addr K) : ∃ a, addr = .pointer (some a) := by
  unfold loadVC at h
  split at h
  · obtain ⟨b, k, rfl, h⟩ := okP_ex h
    exact ⟨_, rfl⟩
  · exact h.elim

theorem loadVC_sound {t : TypeId} {addr : Value} (h : loadVC P rd t addr K) :
    ∃ v, (∀ w, Truth P rd rn w → (Instr.loadAt t addr).run P w = .ok v w) ∧ K v := by
  unfold loadVC at h
  split at h
  case h_2 => exact h.elim
  rename_i p
  obtain ⟨b, k, rfl, h⟩ := okP_ex h
  simp only [pb_some, po_some] at h
  have agg : (∃ d, P.underlying t = some d ∧ ((∃ fs, d = .struct fs) ∨ ∃ n e, d = .array n e)) →
      gd ((P.info? t).map (·.size) == some (cellShs P 12 t).length) (ldCells rd b k (cellShs P 12 t) 0 (fun vs => K (.agg vs.toArray))) →
      ∃ v, (∀ w, Truth P rd rn w → (Instr.loadAt t (.pointer (some ⟨b, k, none⟩))).run P w = .ok v w) ∧ K v := by
    rintro ⟨d, hd, hagg⟩ h
    obtain ⟨hs, h⟩ := gd_iff.1 h
    have hs := eq_of_beq hs
    obtain ⟨vs, hlen, hr, hk⟩ := ldCells_get _ _ _ h
    refine ⟨.agg vs.toArray, fun w hw => ?_, hk⟩
    have hcells : (loadCells ⟨b, k, none⟩ vs.length).run P w = .ok vs.toArray w := by
      refine run_loadCells_list (P := P) (w := w) ⟨b, k, none⟩ vs fun j v hj => ?_
      obtain ⟨hjl, rfl⟩ := List.getElem?_eq_some_iff.1 hj
      have := hw.1 _ _ (hr j hjl)
      rw [addr_add]; simpa using this
    have hi : (isAgg t).run P w = .ok true w := by
      unfold isAgg
      rcases hagg with ⟨fs, rfl⟩ | ⟨n, e, rfl⟩ <;> simp [underlying, hd]
    cases hinfo : P.info? t with
    | none => rw [hinfo] at hs; simp at hs
    | some i =>
      rw [hinfo] at hs
      have hsz : i.size = vs.length := by simp at hs; rw [hs, hlen]
      have hso : (sizeOf t).run P w = .ok vs.length w := by simp [sizeOf, typeInfo, hinfo, hsz]
      simp [Instr.loadAt, Instr.sureAddr, loadVar, hi, hso, hcells]
  split at h
  · rename_i fs hu; exact agg ⟨_, hu, .inl ⟨_, rfl⟩⟩ h
  · rename_i n e hu; exact agg ⟨_, hu, .inr ⟨_, _, rfl⟩⟩ h
  · rename_i d hn1 hn2 hu
    obtain ⟨v, hv, hk⟩ := exSh_ex h
    refine ⟨v, fun w hw => ?_, hk⟩
    have hc := hw.1 _ _ hv
    have hi : (isAgg t).run P w = .ok false w := by
      unfold isAgg
      cases d <;> simp_all [underlying]
    simp [Instr.loadAt, Instr.sureAddr, loadVar, hi, hc]
  · exact h.elim

theorem sizeOf_run {e : TypeId} (h : (P.info? e).isSome = true) (w : World) : (sizeOf e).run P w = .ok (P.cellsOf e) w := by
  cases he : P.info? e with
  | none => simp [he] at h
  | some inf => simp [sizeOf, typeInfo, he, Program.cellsOf]

theorem indexVC_sound {t : TypeId} {x ix : Value} (h : indexVC P t x ix K) : ∃ v, (∀ w, (Instr.indexAt t x ix).run P w = .ok v w) ∧ K v := by
  unfold indexVC at h
  split at h
  case h_2 => exact h.elim
  rename_i k i
  split at h
  · rename_i n e p hu
    obtain ⟨hs, h0, h1, h⟩ := gd_iff.1 h
    obtain ⟨b, k', rfl, h⟩ := okP_ex h
    refine ⟨_, fun w => ?_, h⟩
    simp [Instr.indexAt, asIntOf, underlying, hu, Instr.sureAddr, sizeOf_run hs, h0, h1, addr_add]
  · rename_i e a n c hu
    obtain ⟨hs, h0, h1, h⟩ := gd_iff.1 h
    obtain ⟨b, k', rfl, h⟩ := okP_ex h
    refine ⟨_, fun w => ?_, h⟩
    simp [Instr.indexAt, asIntOf, underlying, hu, sizeOf_run hs, h0, h1, addr_add]
  · exact h.elim

theorem sliceVC_sound {t : TypeId} {x : Value} {lo hi mx : Option Value} (h : sliceVC P t x lo hi mx K) : ∃ v, (∀ w, (Instr.sliceAt t x lo hi mx).run P w = .ok v w) ∧ K v := by
  unfold sliceVC at h
  split at h
  · exact h.elim
  split at h
  · rename_i s hu
    split at h
    · rename_i kh hh
      obtain ⟨h0, h1, h⟩ := h
      refine ⟨_, fun w => ?_, h⟩
      simp [Instr.sliceAt, Instr.slice, Instr.sliceBounds, Instr.sliceBound, asIntOf, underlying, hu, h0, h1]
    · rename_i kl ll
      obtain ⟨h0, h1, h⟩ := h
      refine ⟨_, fun w => ?_, h⟩
      simp [Instr.sliceAt, Instr.slice, Instr.sliceBounds, Instr.sliceBound, asIntOf, underlying, hu, h0, h1]
    · rename_i ka kl kb kh
      obtain ⟨h0, h1, h2, h3, h⟩ := h
      refine ⟨_, fun w => ?_, h⟩
      have h4 : kl ≤ max kh 0 := by omega
      simp [Instr.sliceAt, Instr.slice, Instr.sliceBounds, Instr.sliceBound, asIntOf, underlying, hu, h0, h1, h2, h3, h4]
    · exact h.elim
  · rename_i e a n c hu
    obtain ⟨hs, h⟩ := gd_iff.1 h
    split at h
    · rename_i kh hh
      obtain ⟨h0, h1, h⟩ := h
      refine ⟨_, fun w => ?_, h⟩
      simp [Instr.sliceAt, Instr.slice, Instr.sliceBounds, Instr.sliceBound, asIntOf, underlying, hu, sizeOf_run hs, h0, h1, cutBase]
    · rename_i kl ll
      obtain ⟨h0, h1, h⟩ := h
      refine ⟨_, fun w => ?_, h⟩
      simp [Instr.sliceAt, Instr.slice, Instr.sliceBounds, Instr.sliceBound, asIntOf, underlying, hu, sizeOf_run hs, h0, h1, cutBase]
    · rename_i ka kl kb kh _
      obtain ⟨h0, h1, h2, h3, h⟩ := h
      refine ⟨_, fun w => ?_, h⟩
      have h4 : kl ≤ max kh 0 := by omega
      simp [Instr.sliceAt, Instr.slice, Instr.sliceBounds, Instr.sliceBound, asIntOf, underlying, hu, sizeOf_run hs, h0, h1, h2, h3, h4, cutBase]
    · exact h.elim
  · exact h.elim

theorem pickV_sound {t : Bool} {a b : Value} (h : pickV t a b K) : K (if t then a else b) := by
  unfold pickV at h
  split at h
  · cases t <;> exact h
  · cases t <;> exact h

theorem bin_sound0 {op : BinOp} {t u : TypeId} {x y : Operand} (ho : o.op = .binOp op t x y u) (h : binVC0 P rn o op t x y l K) : Comes1 P rd rn o l K := by
  have go : ∀ v, (∀ w, Truth P rd rn w → (do eqGuard op t x y (ev l x) (ev l y); binOp op t (ev l x) (ev l y)).run P w = .ok v w) → K v → Comes1 P rd rn o l K :=
    fun v hv hk => ⟨v, fun w hw => by
      have := hv w hw
      unfold execOp; simp only [ho, Sem.run_bind, this, Result.andThen, Sem.run_pure], hk⟩
  unfold binVC0 at h
  split at h
  · rename_i k a k' b hx hy
    obtain ⟨hk, hb, h'⟩ := gd_iff.1 h
    have hk := of_decide_eq_true hk
    subst hk
    clear h
    exact go (.int k (k.wrap (a.tdiv b))) (fun w _ => by simp [hx, hy, eqGuard, binOp, Op.intDiv, hb]) h'
  · rename_i k a k' b hx hy
    obtain ⟨hk, hb, h'⟩ := gd_iff.1 h
    have hk := of_decide_eq_true hk
    subst hk
    clear h
    exact go (.int k (a.tmod b)) (fun w _ => by simp [hx, hy, eqGuard, binOp, Op.intDiv, hb]) h'
  · rename_i k a k' b hx hy
    obtain ⟨hb, h⟩ := h
    exact go (.int k (k.wrap (a * 2 ^ (min b.toNat k.bits)))) (fun w _ => by simp [hx, hy, eqGuard, binOp, Op.shift, hb]) h
  · rename_i k a k' b hx hy
    obtain ⟨hb, h⟩ := h
    exact go (.int k (a.fdiv (2 ^ (min b.toNat k.bits)))) (fun w _ => by simp [hx, hy, eqGuard, binOp, Op.shift, hb]) h
  · rename_i a b hx hy
    obtain ⟨hb, h⟩ := h
    refine go (.string (a ++ b)) (fun w _ => ?_) h
    simp only [hx, hy, eqGuard, binOp, Op.stringOp]
    have hm : IntKind.i64.max = 9223372036854775807 := by decide
    have hn : ¬ (((a.size + b.size : Nat) : Int) > IntKind.i64.max) := by rw [hm]; omega
    simp only [Sem.run_bind, Sem.run_pure, Result.andThen]
    rw [if_neg hn]
    rfl
  · rename_i hx
    obtain ⟨c, hc, h⟩ := h
    exact go _ (fun w hw => by rw [hx]; exact hw.2 _ _ hc) h
  · rename_i hx
    obtain ⟨c, hc, h⟩ := h
    exact go _ (fun w hw => by rw [hx]; exact hw.2 _ _ hc) h
  · rename_i p hx hy
    obtain ⟨ht, h⟩ := gd_iff.1 h
    refine go _ (fun w _ => ?_) h
    rw [hx, hy]
    unfold isPtrT at ht
    split at ht
    · rename_i e hu
      have hpt : P.underlying t = some (.pointer (P.pointee t)) := by simp [Program.pointee, hu]
      have := run_eql_pointer_nil (w := w) t p hpt
      simp only [eqGuard, Sem.run_bind]
      simpa [Result.andThen] using this
    · cases ht
  · rename_i p hx hy
    obtain ⟨ht, h⟩ := gd_iff.1 h
    refine go _ (fun w _ => ?_) h
    rw [hx, hy]
    unfold isPtrT at ht
    split at ht
    · rename_i e hu
      have hpt : P.underlying t = some (.pointer (P.pointee t)) := by simp [Program.pointee, hu]
      have := run_neq_pointer_nil (w := w) t p hpt
      simp only [eqGuard, Sem.run_bind]
      simpa [Result.andThen] using this
    · cases ht
  · exact pure_sound h
  · exact pure_sound h
  · exact pure_sound h
  · exact pure_sound h
  · exact pure_sound h
  · exact pure_sound h
  · obtain ⟨c, hc, h⟩ := h
    exact go _ (fun w hw => hw.2 _ _ hc) h
  · obtain ⟨c, hc, h⟩ := h
    exact go _ (fun w hw => hw.2 _ _ hc) h
  · exact pure_sound h

theorem bin_sound {op : BinOp} {t u : TypeId} {x y : Operand} (ho : o.op = .binOp op t x y u) (h : binVC P rn o op t x y l K) : Comes1 P rd rn o l K := by
  have go : ∀ v, (∀ w, Truth P rd rn w → (do eqGuard op t x y (ev l x) (ev l y); binOp op t (ev l x) (ev l y)).run P w = .ok v w) → K v → Comes1 P rd rn o l K :=
    fun v hv hk => ⟨v, fun w hw => by
      have := hv w hw
      unfold execOp; simp only [ho, Sem.run_bind, this, Result.andThen, Sem.run_pure], hk⟩
  unfold binVC at h
  split at h
  · obtain ⟨c, hc, h⟩ := h
    exact go _ (fun w hw => hw.2 _ _ hc) h
  · obtain ⟨c, hc, h⟩ := h
    exact go _ (fun w hw => hw.2 _ _ hc) h
  · exact bin_sound0 ho h

theorem still_sound {lo : List Oper} (h : stillVC P lo rd rn o l K) : Comes1 P rd rn o l K := by
  have go : ∀ (s : Sem Value) (v : Value), execOp (ev l) o = (do pure (.value (← s))) → (∀ w, Truth P rd rn w → s.run P w = .ok v w) → K v → Comes1 P rd rn o l K :=
    fun s v he hv hk => ⟨v, fun w hw => by
      have := hv w hw
      rw [he]; simp only [Sem.run_bind, this, Result.andThen, Sem.run_pure], hk⟩
  unfold stillVC at h
  split at h
  · rename_i x ho
    exact ⟨_, fun w _ => by simp [execOp, ho], h⟩
  · rename_i x ho
    exact ⟨_, fun w _ => by simp [execOp, ho], h⟩
  · rename_i c a b ho
    split at h
    · rename_i t hc
      exact ⟨_, fun w _ => by simp [execOp, ho, hc, asBool], pickV_sound h⟩
    · exact h.elim
  · rename_i t a ho
    obtain ⟨v, hv, hk⟩ := loadVC_sound (rn := rn) h
    exact go _ v (by simp [execOp, ho]) hv hk
  · rename_i x ho
    split at h
    · rename_i nm a b hp
      obtain ⟨h1, h2⟩ := h
      refine ⟨_, fun w hw => ?_, h2⟩
      have hr := hw.2 _ _ h1
      unfold nilMethS at hr
      split at hr
      · rename_i hf
        simp [stuck] at hr
      · rename_i t y hf
        simp only [Sem.run_bind, run_program, Result.andThen] at hr
        cases hn : (nilAhead (P.types.size + Made.depth) t y nm).run P w with
        | halt _ _ => rw [hn] at hr; cases hr
        | ok b2 w2 =>
          rw [hn] at hr
          simp only at hr
          by_cases hb : (b2 != some false) = true
          · simp [hb] at hr
          · simp only [hb] at hr
            simp [execOp, ho, hp, hf, hn, hb]
            simp at hr hb
            subst hr
            rw [if_pos hb]
      · rename_i hn1 hn2
        simp only [execOp, ho, hp]
        simp
    unfold nilVC at h
    split at h
    · rename_i p hp
      obtain ⟨b, k', rfl, h⟩ := okP_ex h
      exact ⟨_, fun w _ => by simp [execOp, ho, hp], h⟩
    · rename_i t y hp
      exact ⟨_, fun w _ => by simp [execOp, ho, hp], h⟩
    · rename_i f a b hp
      exact ⟨_, fun w _ => by simp [execOp, ho, hp], h⟩
    · exact h.elim
  · rename_i t x i ho
    obtain ⟨v, hv, hk⟩ := indexVC_sound h
    exact go _ v (by simp [execOp, ho]) (fun w _ => hv w) hk
  · rename_i t x i ho
    unfold idxVC at h
    split at h
    · rename_i s k' n hx hi
      obtain ⟨hs, h0, h1, h⟩ := gd_iff.1 h
      have hu : P.underlying t = some .string := by
        revert hs; unfold isStrT; split
        · intro _; assumption
        · intro f; cases f
      refine go (Instr.index t (ev l x) (ev l i)) _ (by simp [execOp, ho]) (fun w _ => ?_) h
      have hlt : n.toNat < s.data.size := by have : s.size = s.data.size := rfl; omega
      have hg : s[n.toNat]? = some (s.data[n.toNat]'hlt) := by
        have : n.toNat < s.size := hlt
        simp [this]; rfl
      have hlt2 : n < (s.data.size : Int) := h1
      simp [hx, hi, Instr.index, asIntOf, underlying, hu, h0, hg, Array.getD, hlt]
      rw [dif_pos h1]
    · rename_i vs k' n hx hi
      cases i with
      | tmp tm =>
        simp only at h
        split at h
        · rename_i len e hu
          split at h
          · exact pure_sound h
          · exact pure_sound h
          · rename_i d hns hna hd
            obtain ⟨hs, h0, h1, h⟩ := gd_iff.1 h
            obtain ⟨v, hv, hk⟩ := exSh_ex h
            refine go (Instr.index t (ev l x) (ev l (.tmp tm))) v (by simp [execOp, ho]) (fun w _ => ?_) hk
            have hsz : ∃ inf, P.info? e = some inf ∧ inf.size = 1 := by
              cases he : P.info? e with
              | none => rw [he] at hs; simp at hs
              | some inf => rw [he] at hs; exact ⟨inf, rfl, by simpa using hs⟩
            obtain ⟨inf, he, hs1⟩ := hsz
            have hso : (sizeOf e).run P w = .ok 1 w := by simp [sizeOf, typeInfo, he, hs1]
            have hag : (isAgg e).run P w = .ok false w := by
              unfold isAgg
              cases d <;> simp_all [underlying]
            simp [hx, hi, Instr.index, asIntOf, underlying, hu, h0, h1, hso, part, hag, hv]
          · exact h.elim
        · exact pure_sound h
      | _ => exact pure_sound h
    · exact pure_sound h
  · rename_i t x lo hi mx ho
    obtain ⟨v, hv, hk⟩ := sliceVC_sound h
    exact go _ v (by simp [execOp, ho]) (fun w _ => hv w) hk
  · rename_i op t x y u ho
    exact bin_sound ho h
  · rename_i t x i c ho
    obtain ⟨v, hv, hk⟩ := exR_ex h
    exact go _ v (by simp [execOp, ho]) (fun w hw => hw.2 _ _ hv) hk
  · rename_i x ho
    obtain ⟨k, h⟩ := exT_ex h
    obtain ⟨v, hv, hk⟩ := exT_ex h
    exact go _ _ (by simp [execOp, ho]) (fun w hw => hw.2 _ _ hv) hk
  · rename_i args ts ho
    split at h
    · obtain ⟨v, hv, hk⟩ := exSh_ex h
      refine ⟨v, fun w hw => ?_, hk⟩
      have := hw.2 _ _ hv
      simp [execOp, ho, resolve, invoke, builtin, this]
    · exact pure_sound h
  · exact pure_sound h
end
end Go.Vc
