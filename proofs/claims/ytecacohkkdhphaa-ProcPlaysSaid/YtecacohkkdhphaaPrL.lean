/- Processes: the statements' own small functions, the chapter's examples; ProcRuns returns true. Conditions: none. -/
import Derived.Test.YtecacohkkdhphaaPrP
import Derived.Test.YtecacohkkdhphaaPrl
namespace Go.Proofs.Ytecacohkkdhphaa
open Go.Vc Go.Sort
set_option linter.unusedSimpArgs false
set_option linter.unusedVariables false
set_option maxRecDepth 100000

structure PCall where
  kind : Int
  i : Int
  prio : Int
deriving Inhabited
def encK : Enc PCall := ⟨3, fun x => [.int .i64 x.kind, .int .i64 x.i, .int .i64 x.prio], fun _ => rfl, by decide, fun x v hv => by
  simp at hv; rcases hv with h | h | h <;> rw [h] <;> rfl⟩
def ck (k : Int) : Int := if k < 0 ∨ 7 < k then 8 else k
theorem ck_ok (k : Int) : okKind (ck k) := by unfold okKind ck; split <;> omega

section
variable {e w : World} {m : Hp} {L : List HP} {b n : Nat} {t : PT}
theorem call_sp (H : St e m w L) (k i p : Int) : Calls Try.prog 23 #[.agg #[.int .i64 k, .int .i64 i, .int .i64 p]] w (Ret fun v w' => v = .agg #[.int .i64 (ck k), .int .i64 i, .int .i64 p] ∧ St e m w' L) := by
  apply purlinlaw17_call.calls
  unfold purlinlaw17_call.F
  refine H.new fun b w H => H.new fun b1 w H => ⟨_, H.ld, ?_⟩
  refine br_dec (fun h => ?_) fun h => ⟨_, H.ld, br_dec (fun h2 => ?_) fun h2 => ?_⟩
  · refine H.st fun w H => ?_
    unfold purlinlaw17_call.K0
    repeat (first | (refine St.new H fun b_ w_ H => ?_) | (refine St.st H fun w_ H => ?_) | (refine ⟨_, St.ld H, ?_⟩) | (refine ⟨_, _, _, St.ld H, ?_⟩) | (refine St.drw H fun w_ H => ?_))
    exact ⟨by unfold ck; rw [if_pos (.inl h)], H.re⟩
  · refine H.st fun w H => ?_
    unfold purlinlaw17_call.K0
    repeat (first | (refine St.new H fun b_ w_ H => ?_) | (refine St.st H fun w_ H => ?_) | (refine ⟨_, St.ld H, ?_⟩) | (refine ⟨_, _, _, St.ld H, ?_⟩) | (refine St.drw H fun w_ H => ?_))
    exact ⟨by unfold ck; rw [if_pos (.inr h2)], H.re⟩
  · unfold purlinlaw17_call.K0
    repeat (first | (refine St.new H fun b_ w_ H => ?_) | (refine St.st H fun w_ H => ?_) | (refine ⟨_, St.ld H, ?_⟩) | (refine ⟨_, _, _, St.ld H, ?_⟩) | (refine St.drw H fun w_ H => ?_))
    exact ⟨by unfold ck; rw [if_neg (by omega)], H.re⟩
theorem do_sp (H : St e m w (table b t :: L)) (hi : t.inv n) (hn : n ≤ 1000000) {k : Int} (hk : okKind k) (i p : Int) :
    Calls Try.prog 25 #[.pointer (some ⟨b, 0, none⟩), .agg #[.int .i64 k, .int .i64 i, .int .i64 p]] w (Ret fun v w' => v = .int .i64 (t.doE k i p) ∧ St e m w' (table b (t.doS k i p) :: L)) := by
  have hf := hi.fit
  have hk' := hk
  unfold okKind at hk'
  apply purlinlaw17_do.calls
  unfold purlinlaw17_do.F
  refine H.new fun b1 w H => ⟨_, H.ld, ?_⟩
  have fin : ∀ {k' : Int} {w' : World} {X : PT} {x : Int}, t.doE k i p = x → t.doS k i p = X → St e m w' (table b X :: row b1 46 [.int .i64 k, .int .i64 i, .int .i64 p] :: L) →
      (Value.int .i64 x = .int .i64 (t.doE k i p) ∧ St e m w' (table b (t.doS k i p) :: L)) := fun h1 h2 H => by rw [h1, h2]; exact ⟨rfl, H.re⟩
  refine br_intro (fun h => ?_) fun h0 => br_intro (fun h => ?_) fun h1 => br_intro (fun h => ?_) fun h2 => br_intro (fun h => ?_) fun h3 => br_intro (fun h => ?_) fun h4 => br_intro (fun h => ?_) fun h5 => br_intro (fun h => ?_) fun h6 => br_intro (fun h => ?_) fun h7 => ?_
  · have h : k = 0 := by simpa using h
    subst h
    refine ⟨_, H.ld, Calls.ret (proc_Start_sp H.at_ hf hn i) ?_⟩
    rintro v w2 ⟨rfl, H⟩
    exact ⟨_, rfl, fin (k' := 0) (by simp [PT.doE]) (by simp [PT.doS]) H⟩
  · have h : k = 1 := by simpa using h
    subst h
    refine ⟨_, H.ld, Calls.ret (proc_Stop_sp H.at_ hf hn i) ?_⟩
    rintro v w2 ⟨rfl, H⟩
    exact ⟨_, rfl, fin (k' := 0) (by simp [PT.doE]) (by simp [PT.doS]) H⟩
  · have h : k = 2 := by simpa using h
    subst h
    refine ⟨_, H.ld, Calls.ret (proc_Block_sp H.at_ hf hn i) ?_⟩
    rintro v w2 ⟨rfl, H⟩
    exact ⟨_, rfl, fin (k' := 0) (by simp [PT.doE]) (by simp [PT.doS]) H⟩
  · have h : k = 3 := by simpa using h
    subst h
    refine ⟨_, H.ld, Calls.ret (proc_Wake_sp H.at_ hf hn i) ?_⟩
    rintro v w2 ⟨rfl, H⟩
    exact ⟨_, rfl, fin (k' := 0) (by simp [PT.doE]) (by simp [PT.doS]) H⟩
  · have h : k = 4 := by simpa using h
    subst h
    refine ⟨_, H.ld, Calls.ret (proc_Suspend_sp H.at_ hf hn i) ?_⟩
    rintro v w2 ⟨rfl, H⟩
    exact ⟨_, rfl, fin (k' := 0) (by simp [PT.doE]) (by simp [PT.doS]) H⟩
  · have h : k = 5 := by simpa using h
    subst h
    refine ⟨_, H.ld, Calls.ret (proc_Resume_sp H.at_ hf hn i) ?_⟩
    rintro v w2 ⟨rfl, H⟩
    exact ⟨_, rfl, fin (k' := 0) (by simp [PT.doE]) (by simp [PT.doS]) H⟩
  · have h : k = 6 := by simpa using h
    subst h
    refine ⟨_, H.ld, _, H.ld, Calls.ret (proc_Raise_sp H.at_ hf hn i p) ?_⟩
    rintro v w2 ⟨rfl, H⟩
    exact ⟨_, rfl, fin (k' := 0) (by simp [PT.doE]) (by simp [PT.doS]) H⟩
  · have h : k = 7 := by simpa using h
    subst h
    refine ⟨_, H.ld, Calls.ret (proc_Yield_sp H.at_ hf hn i) ?_⟩
    rintro v w2 ⟨rfl, H⟩
    exact ⟨_, rfl, fin (k' := 0) (by simp [PT.doE]) (by simp [PT.doS]) H⟩
  · have h : k = 8 := by
      have h0 : k ≠ 0 := by simpa using h0
      have h1 : k ≠ 1 := by simpa using h1
      have h2 : k ≠ 2 := by simpa using h2
      have h3 : k ≠ 3 := by simpa using h3
      have h4 : k ≠ 4 := by simpa using h4
      have h5 : k ≠ 5 := by simpa using h5
      have h6 : k ≠ 6 := by simpa using h6
      have h7 : k ≠ 7 := by simpa using h7
      omega
    subst h
    refine Calls.ret (proc_Reset_sp H.at_ hf.len hf.prio (by have := hf.most; omega)) ?_
    rintro v w2 ⟨rfl, H⟩
    exact ⟨rfl, fin (k' := 0) (by simp [PT.doE]) (by simp [PT.doS]) H⟩
def whoI (t : PT) : Int := match t.order.head? with | some x => x | none => -1
theorem who_sp (H : St e m w (table b t :: L)) (hi : t.inv n) : Calls Try.prog 56 #[.pointer (some ⟨b, 0, none⟩)] w (Ret fun v w' => v = .int .i64 (whoI t) ∧ St e m w' (table b t :: L)) := by
  apply purlinlaw17_who.calls
  unfold purlinlaw17_who.F
  refine Calls.ret (proc_Running_sp H hi.fit hi.good) ?_
  rintro v w1 ⟨rfl, H⟩
  refine ⟨_, _, rfl, ?_⟩
  unfold whoI
  cases t.order.head? with
  | none => exact br_t rfl ⟨rfl, H⟩
  | some x => exact br_f rfl ⟨rfl, H⟩
end

/-! ### The chapter's examples -/
def B0 : PT := PT.new [5, 5, 9]
def B1 : PT := B0.doS 0 0 0
def B2 : PT := B1.doS 0 1 0
def B3 : PT := B2.doS 0 2 0
def B4 : PT := B3.doS 2 2 0
def B5 : PT := B4.doS 7 0 0
def B6 : PT := B5.doS 3 2 0
def B7 : PT := B6.doS 1 2 0
def B8 : PT := B7.doS 4 1 0
theorem okk {k : Int} (h : 0 ≤ k ∧ k ≤ 8) : okKind k := h
theorem iB0 : B0.inv 0 := inv_new (by decide) (by decide) 0
theorem iB1 : B1.inv 1 := inv_do iB0 (okk (by decide))
theorem iB2 : B2.inv 2 := inv_do iB1 (okk (by decide))
theorem iB3 : B3.inv 3 := inv_do iB2 (okk (by decide))
theorem iB4 : B4.inv 4 := inv_do iB3 (okk (by decide))
theorem iB5 : B5.inv 5 := inv_do iB4 (okk (by decide))
theorem iB6 : B6.inv 6 := inv_do iB5 (okk (by decide))
theorem iB7 : B7.inv 7 := inv_do iB6 (okk (by decide))
theorem iB8 : B8.inv 8 := inv_do iB7 (okk (by decide))
theorem oB2 : whoI B2 = 0 := by unfold whoI; rw [order_head iB2.good (i := ⟨0, by decide +kernel⟩) (by decide +kernel) (by decide +kernel)]; rfl
theorem oB3 : whoI B3 = 2 := by unfold whoI; rw [order_head iB3.good (i := ⟨2, by decide +kernel⟩) (by decide +kernel) (by decide +kernel)]; rfl
theorem oB4 : whoI B4 = 0 := by unfold whoI; rw [order_head iB4.good (i := ⟨0, by decide +kernel⟩) (by decide +kernel) (by decide +kernel)]; rfl
theorem oB5 : whoI B5 = 1 := by unfold whoI; rw [order_head iB5.good (i := ⟨1, by decide +kernel⟩) (by decide +kernel) (by decide +kernel)]; rfl
theorem oB6 : whoI B6 = 2 := by unfold whoI; rw [order_head iB6.good (i := ⟨2, by decide +kernel⟩) (by decide +kernel) (by decide +kernel)]; rfl
theorem oB7 : whoI B7 = 1 := by unfold whoI; rw [order_head iB7.good (i := ⟨1, by decide +kernel⟩) (by decide +kernel) (by decide +kernel)]; rfl
theorem oB8 : whoI B8 = 0 := by unfold whoI; rw [order_head iB8.good (i := ⟨0, by decide +kernel⟩) (by decide +kernel) (by decide +kernel)]; rfl
theorem awake17_sp {e w : World} {m : Hp} {L : List HP} (H : St e m w L) : Calls Try.prog 22 #[] w (Ret fun v w' => v = .bool true ∧ St e m w' L) := by
  apply purlinlaw17_awake.calls
  unfold purlinlaw17_awake.F
  refine St.newOwn (E := Enc.int .u8) H [5, 5, 9] (by decide) fun b w H => ?_
  refine Calls.ret (proc_New_sp (pr := [5, 5, 9]) H (fun w H => H.ownOut.slr) (by decide)) ?_
  rintro v w2 ⟨_, hv⟩
  obtain ⟨tb, rfl, H⟩ := hv (by decide)
  refine ⟨_, _, rfl, br_f rfl (br_f rfl ?_)⟩
  refine Calls.ret (proc_Start_sp (t := B0) H iB0.fit (by decide) 0) ?_
  rintro v w3 ⟨rfl, H⟩
  refine ⟨_, rfl, ?_⟩
  refine Calls.ret (proc_Start_sp (t := B1) H iB1.fit (by decide) 1) ?_
  rintro v w4 ⟨rfl, H⟩
  refine ⟨_, rfl, ?_⟩
  refine Calls.ret (who_sp (t := B2) H iB2) ?_
  rintro v w5 ⟨rfl, H⟩
  refine ⟨_, rfl, ?_⟩
  refine Calls.ret (proc_Start_sp H iB2.fit (by decide) 2) ?_
  rintro v w6 ⟨rfl, H⟩
  refine ⟨_, rfl, ?_⟩
  refine Calls.ret (who_sp (t := B3) H iB3) ?_
  rintro v w7 ⟨rfl, H⟩
  refine ⟨_, rfl, ?_⟩
  refine Calls.ret (proc_Block_sp H iB3.fit (by decide) 2) ?_
  rintro v w8 ⟨rfl, H⟩
  refine ⟨_, rfl, ?_⟩
  refine Calls.ret (who_sp (t := B4) H iB4) ?_
  rintro v w9 ⟨rfl, H⟩
  refine ⟨_, rfl, ?_⟩
  refine Calls.ret (proc_Yield_sp H iB4.fit (by decide) 0) ?_
  rintro v w10 ⟨rfl, H⟩
  refine ⟨_, rfl, ?_⟩
  refine Calls.ret (who_sp (t := B5) H iB5) ?_
  rintro v w11 ⟨rfl, H⟩
  refine ⟨_, rfl, ?_⟩
  refine Calls.ret (proc_Wake_sp H iB5.fit (by decide) 2) ?_
  rintro v w12 ⟨rfl, H⟩
  refine ⟨_, rfl, ?_⟩
  refine Calls.ret (who_sp (t := B6) H iB6) ?_
  rintro v w13 ⟨rfl, H⟩
  refine ⟨_, rfl, ?_⟩
  refine Calls.ret (proc_Stop_sp H iB6.fit (by decide) 2) ?_
  rintro v w14 ⟨rfl, H⟩
  refine ⟨_, rfl, ?_⟩
  refine Calls.ret (who_sp (t := B7) H iB7) ?_
  rintro v w15 ⟨rfl, H⟩
  refine ⟨_, rfl, ?_⟩
  refine Calls.ret (proc_Suspend_sp H iB7.fit (by decide) 1) ?_
  rintro v w16 ⟨rfl, H⟩
  refine ⟨_, rfl, ?_⟩
  rw [oB2, oB3, oB4, oB5, oB6, oB7]
  refine br_t (by decide +kernel) (br_t (by decide +kernel) (br_t rfl (br_t (by decide +kernel) (br_t rfl (br_t (by decide +kernel) (br_t rfl (br_t (by decide +kernel) (br_t rfl (br_t (by decide +kernel) (br_t rfl (br_t (by decide +kernel) (br_t rfl (br_t (by decide +kernel) ?_)))))))))))))
  refine Calls.ret (who_sp (t := B8) H iB8) ?_
  rintro v w17 ⟨rfl, H⟩
  rw [oB8]
  refine ⟨_, rfl, br_t rfl ?_⟩
  refine Calls.ret (proc_Wake_sp H iB8.fit (by decide) 0) ?_
  rintro v w18 ⟨rfl, H⟩
  refine ⟨_, rfl, br_t (by decide +kernel) ?_⟩
  refine Calls.ret (proc_Len_sp H) ?_
  rintro v w19 ⟨rfl, rfl⟩
  have hl : (B8.opS 3 0 0).l.length = 3 := by decide +kernel
  exact ⟨_, rfl, by rw [hl]; rfl, H.drop.drop⟩
end Go.Proofs.Ytecacohkkdhphaa
