/- Closed runs by computation: a schedule, told by what the operations come to. Conditions: none. -/
import Derived.Test.YtllpiaedljoejaaGreatDoorVcYs
import Derived.LoopN
namespace Go.Vc
set_option linter.unusedSimpArgs false
set_option linter.unusedVariables false
def atP (S : Sp) (fl : Bool) (w : World) : World → Prop :=
  match fl with
  | true => sP S
  | false => fun w' => w' = w
def runT (P : Program) (lo : List Oper) : Sp → Sched → Fr → World → (Fr → World → Prop) → Prop
  | _, .done, l, w, K => K l w
  | S, .still i fl u nx, l, w, K =>
    match lo[i]? with
    | some o => ∃ v, Yld P lo.toArray (atP S fl w) o v l ∧ runT P lo S nx (put l o.dst v) w K
    | none => False
  | S, .eff i nx, l, w, K => opR P lo.toArray (cut S i) i l w (fun l' w' => sP (cut S i) w' ∧ runT P lo (cut S i) nx l' w' K)
  | S, .alt i nx more, l, w, K => opR P lo.toArray (cut S i) i l w (fun l' w' => sP (cut S i) w' ∧ runT P lo (cut S i) nx l' w' K) ∧ runT P lo S more l w K
section
variable {P : Program} {lo : List Oper} {K : Fr → World → Prop}
theorem schedT_sound {T : Nat} (hsel : ∀ (j : Nat) (o : Oper) cs b, lo.toArray[j]? = some o → o.op ≠ .select cs b) : ∀ (s : Sched) (S : Sp) (f L : Nat) (listed : Array Bool) (l : Fr) (w : World), Late T S → Lst lo.toArray L listed → sP S w → runT P lo S s l w K →
    (okS P lo T f s L none = true → anyR P lo.toArray S K f listed l w) ∧
    (∀ rest f', f = f' + 1 → okS P lo T f s L (some rest) = true → ∀ i ∈ rest, opR P lo.toArray (cut S i) i l w (fun l' w' => anyR P lo.toArray (cut S i) K f' (listed.setIfInBounds i true) l' w'))
  | .done, S, f, L, listed, l, w, hT, hL, hS, hr => by
    refine ⟨fun hok => ?_, fun rest f' _ hok => by simp [okS] at hok⟩
    have h0 : readyL lo L = [] := by cases f <;> simpa [okS] using hok
    have h1 : Region.ready .any lo.toArray listed = [] := (nil_of_mem fun i => readyL_mem hL i).1 h0
    cases f with
    | zero => exact ⟨h1, hr⟩
    | succ f => exact ⟨fun _ => hr, fun i hi => by rw [h1] at hi; cases hi⟩
  | .still i fl U nx, S, f, L, listed, l, w, hT, hL, hS, hr => by
    refine ⟨fun hok => ?_, fun rest f' _ hok => by cases f <;> simp [okS] at hok⟩
    cases f with
    | zero => simp [okS] at hok
    | succ f =>
    simp only [okS, Bool.and_eq_true] at hok
    obtain ⟨⟨⟨⟨hrd, hst⟩, hfr⟩, hu⟩, hnx⟩ := hok
    simp only [runT] at hr
    cases hi : lo[i]? with
    | none => simp [hi] at hr
    | some oi =>
    simp only [hi] at hr
    have hi' : lo.toArray[i]? = some oi := by simpa using hi
    have hst' : stillO P oi = true := by simpa [stillAt, hi] using hst
    have hrdy := (ready_of_mask hL i).1 hrd
    have next : ∀ v, runT P lo S nx (put l oi.dst v) w K → anyR P lo.toArray S K f (listed.setIfInBounds i true) (put l oi.dst v) w :=
      fun v hv => (schedT_sound hsel nx S f (L ||| 2 ^ i) _ _ w hT hL.set hS hv).1 hnx
    simp only [okU, Bool.and_eq_true, List.all_eq_true, List.mem_range, Bool.not_eq_true'] at hu
    obtain ⟨⟨hUi, hTi⟩, hall⟩ := hu
    have hci : cut S i = S := hT i hTi
    have hInv : ∀ (ls : Array Bool) (j : Nat) (oj : Oper), (ls.size = lo.length ∧ (∀ k, k < lo.length → ls.getD k true = true → U.testBit k = true) ∧ (∀ k, k < lo.length → L.testBit k = true → ls.getD k true = true)) →
        lo.toArray[j]? = some oj → j ≠ i → j ∈ Region.ready .any lo.toArray ls →
        (fl = true ∨ stillO P oj = true) ∧ cut S j = S ∧ ((ls.setIfInBounds j true).size = lo.length ∧ (∀ k, k < lo.length → (ls.setIfInBounds j true).getD k true = true → U.testBit k = true) ∧ (∀ k, k < lo.length → L.testBit k = true → (ls.setIfInBounds j true).getD k true = true)) := by
      intro ls j oj ⟨hsz, hin, hout⟩ hj hji hjr
      obtain ⟨hjun, oj', hoj', hdep⟩ := mem_ready.1 hjr
      have hj' : lo[j]? = some oj := by simpa using hj
      have hlt : j < lo.length := (List.getElem?_eq_some_iff.1 hj').1
      have he : oj' = oj := by rw [hj] at hoj'; exact (Option.some.inj hoj').symm
      subst he
      obtain ⟨⟨h1, h2⟩, h3⟩ := hall j hlt
      have hUj : U.testBit j = true := by
        cases hb : U.testBit j with
        | true => rfl
        | false =>
          have hrU : readyM lo U j = true := by
            unfold readyM
            simp only [hj', hb, Bool.not_false, Bool.true_and, Array.all_eq_true_iff_forall_mem, Bool.or_eq_true, Bool.and_eq_true]
            intro e hee
            cases hbnd : Region.binds .any e with
            | false => exact .inl rfl
            | true =>
              right
              have hd := hdep e hee hbnd
              have hon : e.on < lo.length := by
                rcases Nat.lt_or_ge e.on lo.length with h | h
                · exact h
                · rw [Array.getD, dif_neg (by omega)] at hd; cases hd
              refine ⟨by simp [Nat.blt]; omega, hin _ hon ?_⟩
              have hs2 : e.on < ls.size := by omega
              simp [Array.getD, hs2] at hd ⊢
              exact hd
          rw [hrU] at h3
          simp at h3
          exact (hji h3).elim
      have hLj : L.testBit j = false := by
        cases hb : L.testBit j with
        | false => rfl
        | true => rw [hout j hlt hb] at hjun; cases hjun
      rw [hUj, hLj] at h2
      simp [hj'] at h2
      refine ⟨h2.2, hT j h2.1, by simpa using hsz, fun k hk hk1 => ?_, fun k hk hk1 => ?_⟩
      · by_cases hjk : j = k
        · subst hjk; exact hUj
        · rw [getD_set_ne true hjk] at hk1; exact hin k hk hk1
      · by_cases hjk : j = k
        · subst hjk; have : j < ls.size := by omega
          simp [this]
        · rw [getD_set_ne true hjk]; exact hout k hk hk1
    have h00 : listed.size = lo.length ∧ (∀ k, k < lo.length → listed.getD k true = true → U.testBit k = true) ∧ (∀ k, k < lo.length → L.testBit k = true → listed.getD k true = true) := by
      refine ⟨by simpa using hL.1, fun k hk hk1 => ?_, fun k hk hk1 => ?_⟩
      · have := hL.2 k (by simpa using hk)
        rw [hk1] at this
        obtain ⟨⟨h1, _⟩, _⟩ := hall k hk
        rw [← this] at h1
        simpa using h1
      · rw [hL.2 k (by simpa using hk)]; exact hk1
    obtain ⟨v, hy, hk⟩ := hr
    cases fl with
    | true =>
      exact take_first (C := sP S) hi' hst' hsel _ (fun ls j oj hin hj hji hjr => by
        obtain ⟨_, h2, h3⟩ := hInv ls j oj hin hj hji hjr
        exact ⟨.inr fun _ h => h, h2, h3⟩) hci f listed l w (free_of_mask hL hi hfr) h00 hS hrdy hy (next v hk)
    | false =>
      exact take_first (C := fun w' => w' = w) hi' hst' hsel _ (fun ls j oj hin hj hji hjr => by
        obtain ⟨h1, h2, h3⟩ := hInv ls j oj hin hj hji hjr
        exact ⟨.inl (h1.resolve_left (by decide)), h2, h3⟩) hci f listed l w (free_of_mask hL hi hfr) h00 rfl hrdy hy (next v hk)
  | .eff i nx, S, f, L, listed, l, w, hT, hL, hS, hr => by
    simp only [runT] at hr
    have one : ∀ f', okS P lo T f' nx (L ||| 2 ^ i) none = true → opR P lo.toArray (cut S i) i l w (fun l' w' => anyR P lo.toArray (cut S i) K f' (listed.setIfInBounds i true) l' w') := fun f' hnx =>
      opR_mono (fun l' w' ⟨hs', hr'⟩ => (schedT_sound hsel nx (cut S i) f' (L ||| 2 ^ i) _ l' w' (hT.cut i) hL.set hs' hr').1 hnx) hr
    refine ⟨fun hok => ?_, fun rest f' hf hok => ?_⟩
    · cases f with
      | zero => simp [okS] at hok
      | succ f =>
      simp only [okS, Option.getD_none, Bool.and_eq_true, beq_iff_eq] at hok
      have hmem := fun j => readyL_mem hL j
      rw [hok.1] at hmem
      refine ⟨fun h0 => ?_, fun j hj => ?_⟩
      · have := (hmem i).1 (by simp); rw [h0] at this; cases this
      · have : j = i := by simpa using (hmem j).2 hj
        subst this
        exact one f hok.2
    · subst hf
      simp only [okS, Option.getD_some, Bool.and_eq_true, beq_iff_eq] at hok
      rw [hok.1]
      intro j hj
      have : j = i := by simpa using hj
      subst this
      exact one f' hok.2
  | .alt i nx more, S, f, L, listed, l, w, hT, hL, hS, hr => by
    simp only [runT] at hr
    obtain ⟨hr, hmore⟩ := hr
    have one : ∀ f', okS P lo T f' nx (L ||| 2 ^ i) none = true → opR P lo.toArray (cut S i) i l w (fun l' w' => anyR P lo.toArray (cut S i) K f' (listed.setIfInBounds i true) l' w') := fun f' hnx =>
      opR_mono (fun l' w' ⟨hs', hr'⟩ => (schedT_sound hsel nx (cut S i) f' (L ||| 2 ^ i) _ l' w' (hT.cut i) hL.set hs' hr').1 hnx) hr
    refine ⟨fun hok => ?_, fun rest f' hf hok => ?_⟩
    · cases f with
      | zero => simp [okS] at hok
      | succ f =>
      simp only [okS, Option.getD_none] at hok
      cases hrl : readyL lo L with
      | nil => simp [hrl] at hok
      | cons j rest =>
      simp only [hrl, Bool.and_eq_true, beq_iff_eq] at hok
      obtain ⟨⟨hji, hnx⟩, hm⟩ := hok
      have hmem := fun j => readyL_mem hL j
      rw [hrl] at hmem
      refine ⟨fun h0 => ?_, fun k hk => ?_⟩
      · have := (hmem j).1 (by simp); rw [h0] at this; cases this
      · have hk2 := (hmem k).2 hk
        rcases List.mem_cons.1 hk2 with e | hk3
        · rw [e, hji]; exact one f hnx
        · exact (schedT_sound hsel more S (f + 1) L listed l w hT hL hS hmore).2 rest f rfl hm k hk3
    · subst hf
      simp only [okS, Option.getD_some] at hok
      cases rest with
      | nil => simp at hok
      | cons j rest =>
      simp only [Bool.and_eq_true, beq_iff_eq] at hok
      obtain ⟨⟨hji, hnx⟩, hm⟩ := hok
      intro k hk
      rcases List.mem_cons.1 hk with e | hk3
      · rw [e, hji]; exact one f' hnx
      · exact (schedT_sound hsel more S (f' + 1) L listed l w hT hL hS hmore).2 rest f' rfl hm k hk3
end

/-! ### Guards -/
section
variable {P : Program} {E : XE P} {ρ : RM} {h h' : XH} {l : FX} {l' : Fr} {w0 w w' : World} {xF : FuncId → List Value → XH → Option (Value × XH)}
theorem want_eq {lo : List Oper} (o : Oper) (hl : FR ρ l l') : Region.wanted o (yielded lo.toArray (act l').tmps) = wantX lo o l := by
  unfold Region.wanted wantX
  cases hg : o.guard with
  | none => rfl
  | some p =>
    obtain ⟨j, want⟩ := p
    simp only
    cases hd : (lo[j]?).bind (·.dst) with
    | none =>
      have : (lo.toArray[j]?).bind (·.dst) = none := by simpa using hd
      unfold yielded
      rw [this]
      rfl
    | some d =>
      have hd' : (lo.toArray[j]?).bind (·.dst) = some d := by simpa using hd
      unfold yielded
      rw [hd']
      have hv := hl.at_ d
      dsimp only
      generalize FX.at_ l d = x at hv ⊢
      have hx : ∀ y, (act l').tmps[d]? = some y → l'.getD d undef = y := fun y hy => by
        simp only [act, List.getElem?_toArray] at hy; simp [List.getD, hy]
      have hx0 : (act l').tmps[d]? = none → l'.getD d undef = undef := fun hy => by
        simp only [act, List.getElem?_toArray] at hy; simp [List.getD, hy]
      cases hy : (act l').tmps[d]? with
      | none =>
        rw [hx0 hy] at hv
        simp only [Option.bind_some, hy]
        cases x with
        | bool b => have := hv.of_plain rfl; simp [undef] at this
        | _ => rfl
      | some y =>
        rw [hx y hy] at hv
        simp only [Option.bind_some, hy]
        cases x with
        | bool b =>
          have := hv.of_plain rfl
          subst this
          cases b <;> cases want <;> rfl
        | _ =>
          cases y with
          | bool b => exfalso; cases hv
          | _ => rfl
theorem step_soundX (hE : E.Ok) (hF : CallR P w0 xF) (H : Rel ρ h w0 w) (hl : FR ρ l l') {o : Oper} {v : Value} (hv : stepX P E xF o l h = some (v, h')) :
    (stillO P o = true ∧ ∃ v', (execOp (ev l') o).run P w = .ok (.value v') w ∧ Aft ρ h' w0 v v' w) ∨ (stillO P o = false ∧ doneOp P o l' w (Aft ρ h' w0 v)) := by
  unfold stepX at hv
  split at hv
  · rename_i hs
    split at hv
    · rename_i u hu
      cases hv
      obtain ⟨v', h1, h2⟩ := still_soundX (W := fun w' => w' = w) hE H hl H.cell H.isMap hu
      exact .inl ⟨hs, v', h2 w rfl, ρ, RM.le_refl _, H, h1⟩
    · cases hv
  · rename_i hs
    exact .inr ⟨hs, eff_soundX hE hF H hl hv⟩
theorem step_doneX (hE : E.Ok) (hF : CallR P w0 xF) (H : Rel ρ h w0 w) (hl : FR ρ l l') {o : Oper} {v : Value} (hv : stepX P E xF o l h = some (v, h')) : doneOp P o l' w (Aft ρ h' w0 v) := by
  rcases step_soundX hE hF H hl hv with ⟨_, v', hr, hk⟩ | ⟨_, h⟩
  · unfold doneOp; rw [hr]; exact hk
  · exact h
/-- A frame and a memory, as the machine has them. -/
def AftF (ρ : RM) (n : Nat) (l1 : FX) (h1 : XH) (w0 : World) (l1' : Fr) (w1 : World) : Prop := ∃ ρ1, RM.le ρ ρ1 ∧ Rel ρ1 h1 w0 w1 ∧ FR ρ1 l1 l1' ∧ l1'.length = n
theorem put_len (l : Fr) (d : Option Tmp) (v : Value) : (put l d v).length = l.length := by cases d <;> simp [put]
theorem xSeq_sound (hE : E.Ok) (hF : CallR P w0 xF) {lo : List Oper} {Q : Exit → Act → World → Prop} : ∀ {r : List Oper} {ρ : RM} {l l1 : FX} {h h1 : XH} {l' : Fr} {w : World}, xSeq P E xF lo r l h = some (l1, h1) → Rel ρ h w0 w → FR ρ l l' → (∀ o ∈ r, ∀ d, o.dst = some d → d < l'.length) →
    (∀ l1' w1, AftF ρ l'.length l1 h1 w0 l1' w1 → Q .normal (act l1') w1) → wpList P lo.toArray Q r (act l') w
  | [], ρ, l, l1, h, h1, l', w, hx, H, hl, hd, hQ => by
    simp only [xSeq, Option.some.injEq, Prod.mk.injEq] at hx
    obtain ⟨rfl, rfl⟩ := hx
    exact hQ _ _ ⟨ρ, RM.le_refl _, H, hl, rfl⟩
  | o :: r, ρ, l, l1, h, h1, l', w, hx, H, hl, hd, hQ => by
    simp only [xSeq] at hx
    unfold wpList
    rw [want_eq o hl]
    have hdo : ∀ d, o.dst = some d → d < l'.length := hd o (by simp)
    split at hx
    · rename_i hw
      rw [if_pos hw]
      split at hx
      · rename_i v h2 hs
        refine .inl (wp_of_done (step_doneX hE hF H hl hs) fun v' w' ⟨ρ', g1, g2, g3⟩ => ?_)
        refine xSeq_sound hE hF hx g2 ((hl.mono g1).put g3 hdo) (fun o ho d he => by rw [put_len]; exact hd o (by simp [ho]) d he) fun l1' w1 ⟨ρ1, i1, i2, i3, i4⟩ => hQ _ _ ⟨ρ1, RM.le_trans g1 i1, i2, i3, by rw [i4, put_len]⟩
      · cases hx
    · rename_i hw
      rw [if_neg (by simp [hw]), put_eq]
      refine xSeq_sound hE hF hx H (hl.put .undef hdo) (fun o ho d he => by rw [put_len]; exact hd o (by simp [ho]) d he) fun l1' w1 ⟨ρ1, i1, i2, i3, i4⟩ => hQ _ _ ⟨ρ1, i1, i2, i3, by rw [i4, put_len]⟩
end
end Go.Vc

namespace Go.Vc
set_option linter.unusedSimpArgs false
set_option linter.unusedVariables false
def SW (ρ0 : RM) (wS : World) (sl : List (Nat × Nat)) (w : World) : Prop := ∀ p ∈ sl, ∀ b c, ρ0 p.1 = some (b, c) → w.cell? ⟨b, p.2, none⟩ = wS.cell? ⟨b, p.2, none⟩
def spX (ρ0 : RM) (wS : World) (T : Nat) : Option (List (Nat × Nat)) → Sp
  | some sl => some (T, SW ρ0 wS sl)
  | none => none
theorem cut_spX {ρ0 : RM} {wS : World} {T i : Nat} {SL : Option (List (Nat × Nat))} : cut (spX ρ0 wS T SL) i = spX ρ0 wS T (cutX T i SL) := by
  cases SL with
  | none => rfl
  | some sl => unfold cut cutX spX; cases hb : T.testBit i <;> simp [hb]
section
variable {P : Program} {E : XE P} {ρ0 ρ : RM} {h0 h h' : XH} {l : FX} {l' : Fr} {w0 w w' wS : World} {xF : FuncId → List Value → XH → Option (Value × XH)}
theorem agree_sound {sl : List (Nat × Nat)} (H0 : Rel ρ0 h0 w0 wS) (H : Rel ρ h w0 w) (hle : RM.le ρ0 ρ) (ha : agreeX sl h0 h = true) : SW ρ0 wS sl w := by
  intro p hp b c hb
  have h1 := List.all_eq_true.1 ha p hp
  unfold same1 at h1
  split at h1
  · rename_i x y hx hy
    obtain ⟨b1, c1, x', e1, g1, g2⟩ := H0.cell _ _ _ hx
    obtain ⟨b2, c2, y', e2, g3, g4⟩ := H.cell _ _ _ hy
    rw [hb] at e1; cases e1
    rw [hle _ _ hb] at e2; cases e2
    rw [g4 w rfl, g2 wS rfl, eqV_det hle 4 h1 g1 g3]
  · cases h1
theorem rdIn_mem {sl : List (Nat × Nat)} (H0 : Rel ρ0 h0 w0 wS) (hle : RM.le ρ0 ρ) : MemR (rdIn sl h0) ρ (SW ρ0 wS sl) := by
  intro k o v hv
  unfold rdIn at hv
  split at hv
  · rename_i hany
    obtain ⟨p, hp, he⟩ := List.any_eq_true.1 hany
    simp only [Bool.and_eq_true, Nat.beq_eq] at he
    obtain ⟨b, c, v', e1, g1, g2⟩ := H0.cell _ _ _ hv
    refine ⟨b, c, v', hle _ _ e1, g1.mono hle, fun w hw => ?_⟩
    have := hw p hp b c (by rw [he.1]; exact e1)
    rw [he.2] at this
    rw [this]; exact g2 wS rfl
  · cases hv
theorem Rel.stride (H : Rel ρ h w0 w) (st : Option Nat) (i : Nat) : Rel ρ (strideX st i h) w0 w := by
  cases st with
  | none => exact H
  | some n => exact H.nxOf fun k => rfl
theorem Rel.ends (H : Rel ρ h w0 w) (st : Option Nat) (i : Nat) : Rel ρ (endX st i h) w0 w := by
  cases st with
  | none => exact H
  | some n => exact H.nxOf fun k => rfl
theorem okA_sound {T i : Nat} {SL : Option (List (Nat × Nat))} (H0 : Rel ρ0 h0 w0 wS) (H : Rel ρ h w0 w) (hle : RM.le ρ0 ρ) (ha : okA h0 h SL = true) : sP (spX ρ0 wS T SL) w := by
  cases SL with
  | none => trivial
  | some sl => exact agree_sound H0 H hle ha
/-- One operation that may come now. -/
theorem eff_opR (hE : E.Ok) (hF : CallR P w0 xF) {lo : List Oper} {st : Option Nat} {T i : Nat} {SL : Option (List (Nat × Nat))} {o : Oper} {l1 : FX} {h1 : XH} (nx : Option (List (Nat × Nat)) → FX → XH → Option (FX × XH)) (H0 : Rel ρ0 h0 w0 wS) (H : Rel ρ h w0 w) (hl : FR ρ l l') (hle : RM.le ρ0 ρ) (hS : sP (spX ρ0 wS T SL) w) (hd : ∀ o ∈ lo, ∀ d, o.dst = some d → d < l'.length)
    (hi : lo[i]? = some o)
    (hx : (match wantX lo o l with
        | true =>
          match stepX P E xF o l (strideX st i h) with
          | some (v, h') => match okA h0 h' (cutX T i SL) with | true => nx (cutX T i SL) (putX l o.dst v) h' | false => none
          | none => none
        | false => nx (cutX T i SL) (putX l o.dst undef) h) = some (l1, h1))
    {Kn : Fr → World → Prop} (hK : ∀ (ρ' : RM) (l2 : FX) (h2 : XH) (l2' : Fr) (w2 : World), nx (cutX T i SL) l2 h2 = some (l1, h1) → Rel ρ' h2 w0 w2 → FR ρ' l2 l2' → RM.le ρ ρ' → sP (spX ρ0 wS T (cutX T i SL)) w2 → l2'.length = l'.length → Kn l2' w2) :
    opR P lo.toArray (cut (spX ρ0 wS T SL) i) i l' w Kn := by
  have hi' : lo.toArray[i]? = some o := by simpa using hi
  have hdo : ∀ d, o.dst = some d → d < l'.length := hd o (List.mem_of_getElem? hi)
  unfold opR
  simp only [hi']
  rw [want_eq o hl]
  split at hx
  · rename_i hw
    simp only [hw, if_true]
    split at hx
    · rename_i v h2 hs
      split at hx
      · rename_i hok
        have key : ∀ v' w', Aft ρ h2 w0 v v' w' → sP (cut (spX ρ0 wS T SL) i) w' ∧ Kn (put l' o.dst v') w' := fun v' w' ⟨ρ', g1, g2, g3⟩ => by
          have hs2 := okA_sound (T := T) (i := i) H0 g2 (RM.le_trans hle g1) hok
          rw [cut_spX]
          exact ⟨hs2, hK ρ' _ h2 _ w' hx g2 ((hl.mono g1).put g3 hdo) g1 hs2 (put_len _ _ _)⟩
        rcases step_soundX hE hF (H.stride st i) hl hs with ⟨hst, v', hr, hk⟩ | ⟨hst, hdn⟩
        · simp only [hst, if_true]
          exact ⟨v', hr, (key v' w hk).2⟩
        · simp only [hst, Bool.false_eq_true, if_false]
          exact Done.mono (fun v' w' hk => key v' w' hk) hdn
      · cases hx
    · cases hx
  · rename_i hw
    simp only [hw, Bool.false_eq_true, if_false]
    refine hK ρ _ h _ w hx H (hl.put .undef hdo) (RM.le_refl _) ?_ (put_len _ _ _)
    rw [← cut_spX]; exact sP_cut hS
theorem runX_sound (hE : E.Ok) (hF : CallR P w0 xF) {lo : List Oper} {st : Option Nat} {T : Nat} (H0 : Rel ρ0 h0 w0 wS) : ∀ (s : Sched) {SL : Option (List (Nat × Nat))} {ρ : RM} {l l1 : FX} {h h1 : XH} {l' : Fr} {w : World} {K : Fr → World → Prop},
    runX P E xF lo st T h0 s SL l h = some (l1, h1) → Rel ρ h w0 w → FR ρ l l' → RM.le ρ0 ρ → sP (spX ρ0 wS T SL) w → (∀ o ∈ lo, ∀ d, o.dst = some d → d < l'.length) →
    (∀ l1' w1, AftF ρ l'.length l1 h1 w0 l1' w1 → K l1' w1) → runT P lo (spX ρ0 wS T SL) s l' w K
  | .done, SL, ρ, l, l1, h, h1, l', w, K, hx, H, hl, hle, hS, hd, hK => by
    simp only [runX, Option.some.injEq, Prod.mk.injEq] at hx
    obtain ⟨rfl, rfl⟩ := hx
    exact hK _ _ ⟨ρ, RM.le_refl _, H.ends _ _, hl, rfl⟩
  | .still i fl u nx, SL, ρ, l, l1, h, h1, l', w, K, hx, H, hl, hle, hS, hd, hK => by
    simp only [runX] at hx
    simp only [runT]
    split at hx
    case h_2 => cases hx
    rename_i o hi
    simp only [hi]
    have hdo : ∀ d, o.dst = some d → d < l'.length := hd o (List.mem_of_getElem? hi)
    have hwant := want_eq (lo := lo) o hl
    split at hx
    · rename_i hw
      split at hx
      case h_2 => cases hx
      rename_i v hv
      have hy : ∃ v', VR ρ v v' ∧ Comes P o l' (atP (spX ρ0 wS T SL) fl w) v' := by
        cases fl with
        | false => exact still_soundX (W := fun w' => w' = w) hE H hl H.cell H.isMap hv
        | true =>
          cases SL with
          | some sl => exact still_soundX (W := SW ρ0 wS sl) hE H hl (rdIn_mem H0 hle) (fun k hk => by cases hk) hv
          | none => exact still_soundX (W := fun w' => sP none w') hE H hl (fun k o v hk => by cases hk) (fun k hk => by cases hk) hv
      obtain ⟨v', g1, g2⟩ := hy
      refine ⟨v', .inl ⟨by rw [hwant]; exact hw, g2⟩, ?_⟩
      exact runX_sound hE hF H0 nx hx H (hl.put g1 hdo) hle hS (fun o ho d he => by rw [put_len]; exact hd o ho d he) fun l1' w1 ⟨ρ1, i1, i2, i3, i4⟩ => hK _ _ ⟨ρ1, i1, i2, i3, by rw [i4, put_len]⟩
    · rename_i hw
      refine ⟨undef, .inr ⟨by rw [hwant]; exact hw, rfl⟩, ?_⟩
      exact runX_sound hE hF H0 nx hx H (hl.put .undef hdo) hle hS (fun o ho d he => by rw [put_len]; exact hd o ho d he) fun l1' w1 ⟨ρ1, i1, i2, i3, i4⟩ => hK _ _ ⟨ρ1, i1, i2, i3, by rw [i4, put_len]⟩
  | .eff i nx, SL, ρ, l, l1, h, h1, l', w, K, hx, H, hl, hle, hS, hd, hK => by
    simp only [runX] at hx
    simp only [runT]
    split at hx
    case h_2 => cases hx
    rename_i o hi
    refine eff_opR hE hF (fun SL l h => runX P E xF lo st T h0 nx SL l h) H0 H hl hle hS hd hi hx fun ρ' l2 h2 l2' w2 hr G hl2 hle2 hS2 hlen => ?_
    rw [cut_spX]
    exact ⟨hS2, runX_sound hE hF H0 nx hr G hl2 (RM.le_trans hle hle2) hS2 (fun o ho d he => by rw [hlen]; exact hd o ho d he) fun l1' w1 ⟨ρ1, i1, i2, i3, i4⟩ => hK _ _ ⟨ρ1, RM.le_trans hle2 i1, i2, i3, by rw [i4, hlen]⟩⟩
  | .alt i nx more, SL, ρ, l, l1, h, h1, l', w, K, hx, H, hl, hle, hS, hd, hK => by
    simp only [runX] at hx
    simp only [runT]
    split at hx
    case h_2 => cases hx
    rename_i o hi
    split at hx
    case h_2 => cases hx
    rename_i a b ha hb
    split at hx
    case h_2 => cases hx
    rename_i heq
    have e := eqSt_sound heq
    subst e
    cases hx
    refine ⟨?_, runX_sound hE hF H0 more hb H hl hle hS hd hK⟩
    refine eff_opR hE hF (fun SL l h => runX P E xF lo st T h0 nx SL l h) H0 H hl hle hS hd hi ha fun ρ' l2 h2 l2' w2 hr G hl2 hle2 hS2 hlen => ?_
    rw [cut_spX]
    exact ⟨hS2, runX_sound hE hF H0 nx hr G hl2 (RM.le_trans hle hle2) hS2 (fun o ho d he => by rw [hlen]; exact hd o ho d he) fun l1' w1 ⟨ρ1, i1, i2, i3, i4⟩ => hK _ _ ⟨ρ1, RM.le_trans hle2 i1, i2, i3, by rw [i4, hlen]⟩⟩
theorem regX_sound (hm : P.follows .mixedOrders = true) (hE : E.Ok) (hF : CallR P w0 xF) {f : FuncId} {id : Nat} {ops : Array Oper} {l1 : FX} {h1 : XH} {Q : Exit → Act → World → Prop} (hx : regX P E xF f id ops l h = some (l1, h1)) (H : Rel ρ h w0 w) (hl : FR ρ l l') (hd : ∀ o ∈ ops.toList, ∀ d, o.dst = some d → d < l'.length)
    (hQ : ∀ l1' w1, AftF ρ l'.length l1 h1 w0 l1' w1 → Q .normal (act l1') w1) : (Code.region id ops true).wp P Q (act l') w := by
  unfold regX at hx
  split at hx
  case h_2 => cases hx
  rename_i hasS s hs
  split at hx
  case h_2 => cases hx
  rename_i hok
  simp only [Bool.and_eq_true] at hok
  obtain ⟨hn, hok⟩ := hok
  have Hd := H.heapEq (Ch.drew w)
  have go : ∀ (T : Nat) (st : Option Nat) (SL : Option (List (Nat × Nat))), T = hasS.getD 0 → runX P E xF ops.toList st T h s SL l h = some (l1, h1) → (Code.region id ops true).wp P Q (act l') w := by
    intro T st SL hT hr
    subst hT
    have hS : sP (spX ρ w.drew (hasS.getD 0) SL) w.drew := by
      cases SL with
      | none => trivial
      | some sl => exact fun p _ b c _ => rfl
    have hlate : Late (hasS.getD 0) (spX ρ w.drew (hasS.getD 0) SL) := by
      cases SL with
      | none => exact Late.none _
      | some sl => exact Late.some _ _
    have hrt := runX_sound hE hF Hd s (K := fun l1' w1 => Q .normal (act l1') w1) hr Hd hl (RM.le_refl _) hS hd hQ
    refine wp_region_any hm ?_
    have h2 := (schedT_sound (lo := ops.toList) (fun j o cs b hj => Region.noSelect_spec hn j o cs b (by simpa using hj)) s (spX ρ w.drew (hasS.getD 0) SL) ops.size 0 _ l' w.drew hlate Lst_zero hS hrt).1 hok
    have h3 := wpAny_of_anyR (Q := Q) (fun l w h => h) _ _ _ l' w.drew h2
    simpa using h3
  split at hx
  · exact go _ _ _ rfl hx
  · exact go _ _ _ rfl hx
  · exact go _ _ _ rfl hx
  · exact go _ _ _ rfl hx
end
end Go.Vc

namespace Go.Vc
set_option linter.unusedSimpArgs false
set_option linter.unusedVariables false
noncomputable def callX {P : Program} (E : XE P) (n : Nat) : FuncId → List Value → XH → Option (Value × XH) := fun g args h => match xrun P E n (.call g args h) with | .call v h' => some (v, h') | _ => none
/-- The functions that the machine takes whole. -/
def XE.Exts {P : Program} (E : XE P) (w0 : World) : Prop := ∀ f g, E.ext f = some g → ∀ args h v h', g args h = some (v, h') → ∀ (ρ : RM) (w : World) (args' : List Value), Rel ρ h w0 w → VRs ρ args args' → Calls P f args'.toArray w (Ret (Aft ρ h' w0 v))
def PostX (ρ : RM) (n : Nat) (e : Ex) (l1 : FX) (h1 : XH) (w0 : World) (x : Exit) (a : Act) (w' : World) : Prop := ∃ l1', x = toExit e ∧ a = act l1' ∧ AftF ρ n l1 h1 w0 l1' w'
def CodeR (P : Program) (E : XE P) (w0 : World) (n : Nat) : Prop := ∀ f c l h e l1 h1, xrun P E n (.code f c l h) = .code e l1 h1 → ∀ (ρ : RM) (l' : Fr) (w : World), Rel ρ h w0 w → FR ρ l l' → (∀ d ∈ assigned c, d < l'.length) → c.wp P (PostX ρ l'.length e l1 h1 w0) (act l') w
section
variable {P : Program} {E : XE P} {ρ : RM} {h h' h1 : XH} {l l1 : FX} {l' : Fr} {w0 w w' : World}
theorem argsX_get : ∀ (vs : List Value) (i : Nat) (t : FX) (k : Nat), i + vs.length ≤ 512 → T8.get 3 k (argsX vs i t) = if i ≤ k ∧ k < i + vs.length then vs[k - i]? else T8.get 3 k t
  | [], i, t, k, h => by simp only [argsX, List.length_nil, Nat.add_zero]; rw [if_neg (by omega)]
  | v :: r, i, t, k, h => by
    simp only [List.length_cons] at h
    simp only [argsX]
    rw [argsX_get r (i + 1) _ k (by omega), get_set]
    by_cases h1 : i + 1 ≤ k ∧ k < i + 1 + r.length
    · rw [if_pos h1, if_pos ⟨by omega, by simp only [List.length_cons]; omega⟩]
      rw [show k - i = (k - (i + 1)) + 1 by omega, List.getElem?_cons_succ]
    · rw [if_neg h1]
      by_cases h2 : k = i
      · subst h2
        rw [if_pos ⟨rfl, by show k < 512; omega⟩, if_pos ⟨Nat.le_refl _, by simp only [List.length_cons]; omega⟩]
        simp [leafX]
        rfl
      · rw [if_neg (fun e => h2 e.1), if_neg (by simp only [List.length_cons]; omega)]
theorem get_e {α : Type} : ∀ (d k : Nat), T8.get d k (.e : T8 α) = none
  | 0, k => by rw [T8.get_zero]; split <;> rfl
  | d + 1, k => by rw [T8.get_succ]; exact get_e d (k / 8)
theorem argsX_fr {args args' : List Value} {n : Nat} (hv : VRs ρ args args') (hn : args.length ≤ n) (h5 : n ≤ 512) : FR ρ (argsX args 0 .e) (args' ++ List.replicate (n - args'.length) undef) := by
  have hl := hv.length
  refine ⟨fun t => ?_, by simp; omega⟩
  unfold FX.at_
  rw [argsX_get _ _ _ _ (by omega), get_e]
  by_cases ht : t < args.length
  · rw [if_pos ⟨Nat.zero_le _, by omega⟩, Nat.sub_zero]
    obtain ⟨x, hx⟩ : ∃ x, args[t]? = some x := ⟨args[t], List.getElem?_eq_getElem ht⟩
    obtain ⟨y, hy, hxy⟩ := hv.get hx
    rw [hx]
    have : (args' ++ List.replicate (n - args'.length) undef).getD t undef = y := by
      simp only [List.getD]
      rw [List.getElem?_append_left (by omega), hy]; rfl
    rw [this]; exact hxy
  · rw [if_neg (by omega)]
    have : (args' ++ List.replicate (n - args'.length) undef).getD t undef = undef := by
      simp only [List.getD]
      rw [List.getElem?_append_right (by omega)]
      by_cases h2 : t - args'.length < n - args'.length
      · rw [List.getElem?_replicate, if_pos h2]; rfl
      · rw [List.getElem?_eq_none (by simp; omega)]; rfl
    rw [this]; exact .undef
theorem resX_sound (H : Rel ρ h w0 w) (hl : FR ρ l l') : ∀ {rs : List ResultVar} {vs : List Value}, resX P h l rs = some vs → ∃ vs', (rs.mapM (resOne (act l').tmps)).run P w = Result.ok vs' w ∧ VRs ρ vs vs'
  | [], vs, hr => by simp only [resX, Option.some.injEq] at hr; subst hr; exact ⟨[], by simp, .nil⟩
  | .tmp t :: r, vs, hr => by
    simp only [resX] at hr
    split at hr
    · rename_i us hu
      cases hr
      obtain ⟨us', h1, h2⟩ := resX_sound H hl hu
      refine ⟨l'.getD t undef :: us', ?_, .cons (hl.at_ t) h2⟩
      rw [List.mapM_cons]
      simp only [resOne, Sem.run_bind, Sem.run_pure, Result.andThen, h1]
      simp [act]
    · cases hr
  | .cell a t :: r, vs, hr => by
    simp only [resX] at hr
    split at hr
    · rename_i v us hv hu
      cases hr
      obtain ⟨us', h1, h2⟩ := resX_sound H hl hu
      obtain ⟨v', g1, g2⟩ := load_sound H.cell (hl.at_ a) hv
      refine ⟨v' :: us', ?_, .cons g1 h2⟩
      have hp := hl.at_ a
      have hptr : ∃ ad, l'.getD a undef = .pointer (some ad) := by
        unfold loadX at hv
        split at hv
        · rename_i heq
          rw [heq] at hp
          generalize l'.getD a undef = z at hp
          cases hp with
          | plain hp => simp [plain1] at hp
          | ptr _ => exact ⟨_, rfl⟩
        · cases hv
      obtain ⟨ad, had⟩ := hptr
      have hv := g2 w rfl
      rw [had] at hv
      simp only [Instr.loadAt, Instr.sureAddr, Sem.run_bind, Sem.run_pure, Result.andThen] at hv
      have ha : (act l').tmps.getD a undef = .pointer (some ad) := by rw [← had]; simp [act]
      rw [List.mapM_cons]
      simp only [resOne, ha, asAddr, Sem.run_bind, Sem.run_pure, Result.andThen, hv, h1]
    · cases hr
theorem VR.oneV {vs vs' : List Value} (hv : VRs ρ vs vs') : VR ρ (oneV vs) (oneV vs') := by
  cases hv with
  | nil => exact .tuple .nil
  | cons a b =>
    cases b with
    | nil => exact a
    | cons b c => exact .tuple (.cons a (.cons b c))
theorem resultsX_run (H : Rel ρ h w0 w) (hl : FR ρ l l') {f : Func} {vs : List Value} (hr : resX P h l f.results.toList = some vs) : ∃ v', (results f (act l').tmps).run P w = .ok v' w ∧ VR ρ (oneV vs) v' := by
  obtain ⟨vs', hr, hk⟩ := resX_sound H hl hr
  refine ⟨oneV vs', ?_, VR.oneV hk⟩
  rw [results_eq]
  have e : f.results = f.results.toList.toArray := by simp
  rw [e, List.mapM_toArray]
  simp only [Sem.run_bind, Sem.run_map]
  rw [hr]
  simp only [Result.andThen, Sem.run_pure]
  match vs' with
  | [] => rfl
  | [v] => rfl
  | v :: u :: r => rw [dif_neg (by simp)]; rfl
theorem AftF.le {ρ' : RM} {n : Nat} (hl : RM.le ρ ρ') {l1' : Fr} (hx : AftF ρ' n l1 h1 w0 l1' w') : AftF ρ n l1 h1 w0 l1' w' := by
  obtain ⟨ρ1, i1, i2⟩ := hx; exact ⟨ρ1, RM.le_trans hl i1, i2⟩
theorem xrun_sound (hm : P.follows .mixedOrders = true) (hE : E.Ok) (hX : E.Exts w0) (n : Nat) : CallR P w0 (callX E n) ∧ CodeR P E w0 n := by
  induction n using Nat.strongRecOn with
  | _ n0 ih =>
  cases n0 with
  | zero => exact ⟨fun f args h v h' hc => by simp [callX, xrun] at hc, fun f c l h e l1 h1 hc => by simp [xrun] at hc⟩
  | succ n =>
    obtain ⟨IC, IB⟩ := ih n (Nat.lt_succ_self n)
    constructor
    · intro f args h v h' hc ρ w args' H hv
      unfold callX at hc
      simp only [xrun] at hc
      split at hc
      case h_2 => cases hc
      rename_i v1 h2 hc1
      cases hc
      unfold xstep at hc1
      simp only at hc1
      split at hc1
      · rename_i g hg
        split at hc1
        · rename_i v2 h3 hgg
          cases hc1
          exact hX f g hg args h _ _ hgg ρ w args' H hv
        · cases hc1
      · split at hc1
        case h_2 => cases hc1
        rename_i fn hf
        split at hc1
        case h_2 => cases hc1
        rename_i c hb hok
        simp only [Bool.and_eq_true, Nat.ble_eq] at hok
        obtain ⟨hok, hlen⟩ := hok
        unfold okF at hok
        rw [hb] at hok
        have hn5 : fn.ntmps < 512 ∧ ∀ d ∈ assigned c, d < fn.ntmps := by
          split at hok
          · rename_i c' hnn hcc
            cases hcc
            simp only [Bool.and_eq_true, Nat.blt, Nat.ble_eq, List.all_eq_true] at hok
            exact ⟨hok.1, fun d hd => hok.2 d hd⟩
          · cases hok
        have hfr := argsX_fr (n := fn.ntmps) hv hlen (by omega)
        have hvl := hv.length
        have hll : (args' ++ List.replicate (fn.ntmps - args'.length) undef).length = fn.ntmps := by simp; omega
        split at hc1
        · cases hc1
        · rename_i ex l2 h3 hne hcode
          split at hc1
          case h_2 => cases hc1
          rename_i vs hr
          cases hc1
          refine calls_of_wp hf hb ?_
          have hact : ({ tmps := args'.toArray ++ Array.replicate (fn.ntmps - args'.toArray.size) undef, defers := [] } : Act) = act (args' ++ List.replicate (fn.ntmps - args'.length) undef) := by
            simp [act]
          rw [hact]
          refine wp_mono (IB f c _ h _ _ _ hcode ρ _ w H hfr (fun d hd => by rw [hll]; exact hn5.2 d hd)) ?_
          rintro e a w1 ⟨l1', rfl, rfl, ρ1, i1, i2, i3, i4⟩
          obtain ⟨v', j1, j2⟩ := resultsX_run i2 i3 hr
          cases ex with
          | normal => exact ⟨rfl, v', j1, v', rfl, ρ1, i1, i2, j2⟩
          | ret => exact ⟨rfl, v', j1, v', rfl, ρ1, i1, i2, j2⟩
          | exit j => exact (hne j rfl).elim
        · cases hc1
        · cases hc1
    · intro f c l h e l1 h1 hc ρ l' w H hl hd
      simp only [xrun] at hc
      cases c with
      | skip => cases hc; exact wp_skip ⟨l', rfl, rfl, ρ, RM.le_refl _, H, hl, rfl⟩
      | label i => cases hc; exact wp_label ⟨l', rfl, rfl, ρ, RM.le_refl _, H, hl, rfl⟩
      | ret => cases hc; exact wp_ret ⟨l', rfl, rfl, ρ, RM.le_refl _, H, hl, rfl⟩
      | exit id => cases hc; exact wp_exit ⟨l', rfl, rfl, ρ, RM.le_refl _, H, hl, rfl⟩
      | seq a b =>
        simp only [xstep] at hc
        have hda : ∀ d ∈ assigned a, d < l'.length := fun d h => hd d (by simp [assigned, h])
        have hdb : ∀ d ∈ assigned b, d < l'.length := fun d h => hd d (by simp [assigned, h])
        split at hc
        · rename_i l2 h2 ha
          refine wp_seq (wp_mono (IB f a l h _ _ _ ha ρ l' w H hl hda) ?_)
          rintro e' a' w1 ⟨l1', rfl, rfl, ρ1, i1, i2, i3, i4⟩
          refine wp_mono (IB f b l2 h2 _ _ _ hc ρ1 l1' w1 i2 i3 (fun d h => by rw [i4]; exact hdb d h)) ?_
          rintro e' a' w2 ⟨l2', rfl, rfl, j⟩
          rw [i4] at j
          exact ⟨l2', rfl, rfl, j.le i1⟩
        · rename_i r hne
          refine wp_seq (wp_mono (IB f a l h e l1 h1 hc ρ l' w H hl hda) ?_)
          rintro e' a' w1 ⟨l1', rfl, rfl, j⟩
          cases e with
          | normal => exact (hne _ _ hc).elim
          | ret => exact ⟨l1', rfl, rfl, j⟩
          | exit i => exact ⟨l1', rfl, rfl, j⟩
      | cond c a b =>
        simp only [xstep] at hc
        split at hc
        · rename_i hcv
          have e1 := (evX_sound H hl hcv).1.of_plain rfl
          refine wp_cond (t := true) (by rw [ev_eq]; exact e1) ?_
          exact IB f a l h e l1 h1 hc ρ l' w H hl (fun d h => hd d (by simp [assigned, h]))
        · rename_i hcv
          have e1 := (evX_sound H hl hcv).1.of_plain rfl
          refine wp_cond (t := false) (by rw [ev_eq]; exact e1) ?_
          exact IB f b l h e l1 h1 hc ρ l' w H hl (fun d h => hd d (by simp [assigned, h]))
        · cases hc
      | block id b =>
        simp only [xstep] at hc
        split at hc
        · rename_i j l2 h2 hb
          refine wp_block (wp_mono (IB f b l h _ _ _ hb ρ l' w H hl hd) ?_)
          rintro e' a' w1 ⟨l1', rfl, rfl, j1⟩
          split at hc
          · rename_i hj
            rw [Nat.beq_eq] at hj
            subst hj
            cases hc
            simp only [toExit, Exit.inBlock, if_true]
            exact ⟨l1', rfl, rfl, j1⟩
          · rename_i hj
            cases hc
            have : j ≠ id := fun e => by subst e; simp at hj
            simp only [toExit, Exit.inBlock]
            rw [if_neg this]; exact ⟨l1', rfl, rfl, j1⟩
        · rename_i r hne
          refine wp_block (wp_mono (IB f b l h e l1 h1 hc ρ l' w H hl hd) ?_)
          rintro e' a' w1 ⟨l1', rfl, rfl, j1⟩
          cases e with
          | normal => exact ⟨l1', rfl, rfl, j1⟩
          | ret => exact ⟨l1', rfl, rfl, j1⟩
          | exit i => exact (hne _ _ _ hc).elim
      | loop b =>
        have hdb : ∀ d ∈ assigned b, d < l'.length := hd
        have key : ∀ (m : Nat) (l : FX) (h : XH) (ρ2 : RM) (l2' : Fr) (w2 : World), m ≤ n + 1 → xrun P E m (.code f (.loop b) l h) = .code e l1 h1 → Rel ρ2 h w0 w2 → FR ρ2 l l2' → RM.le ρ ρ2 → l2'.length = l'.length →
            Code.rounds P b (PostX ρ l'.length e l1 h1 w0) m (act l2') w2 := by
          intro m
          induction m with
          | zero =>
            intro l h ρ2 l2' w2 hm hr
            simp only [xrun] at hr
            cases hr
          | succ m ihm =>
            intro l h ρ2 l2' w2 hmn hr H2 hl2 hle hlen
            rw [rounds_succ]
            simp only [xrun, xstep] at hr
            have IBm := (ih m (by omega)).2
            split at hr
            · rename_i l3 h3 hb
              refine wp_mono (IBm f b l h _ _ _ hb ρ2 l2' w2 H2 hl2 (fun d h => by rw [hlen]; exact hdb d h)) ?_
              rintro e' a' w3 ⟨l3', rfl, rfl, ρ3, i1, i2, i3, i4⟩
              exact ihm l3 h3 ρ3 l3' w3 (by omega) hr i2 i3 (RM.le_trans hle i1) (i4.trans hlen)
            · rename_i r hne
              refine wp_mono (IBm f b l h e l1 h1 hr ρ2 l2' w2 H2 hl2 (fun d h => by rw [hlen]; exact hdb d h)) ?_
              rintro e' a' w3 ⟨l3', rfl, rfl, j⟩
              rw [hlen] at j
              cases e with
              | normal => exact (hne _ _ hr).elim
              | ret => exact ⟨l3', rfl, rfl, j.le hle⟩
              | exit i => exact ⟨l3', rfl, rfl, j.le hle⟩
        exact wp_loop_rounds (n + 1) (key (n + 1) l h ρ l' w (Nat.le_refl _) (by simp only [xrun]; exact hc) H hl (RM.le_refl _) rfl)
      | region id ops d =>
        simp only [xstep] at hc
        have hd' : ∀ o ∈ ops.toList, ∀ d, o.dst = some d → d < l'.length := fun o ho x hx => hd x (dst_mem ho x hx)
        split at hc
        case h_2 => cases hc
        rename_i l2 h2 hr
        cases hc
        cases d with
        | true => exact regX_sound hm hE IC hr H hl hd' fun l1' w1 j => ⟨l1', rfl, rfl, j⟩
        | false =>
          refine wp_region_list ?_
          have := xSeq_sound (Q := PostX ρ l'.length .normal l1 h1 w0) hE IC hr H hl hd' fun l1' w1 j => ⟨l1', rfl, rfl, j⟩
          simpa using this
      | _ => simp only [xstep] at hc; cases hc
end
end Go.Vc
