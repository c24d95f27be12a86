/- The engine over code: branches, loops with an invariant, calls' ends. Conditions: none. -/
import Derived.Test.YtllpiaedljoejaaGreatDoorVcSched
namespace Go.Vc
set_option linter.unusedSimpArgs false
set_option linter.unusedVariables false

inductive Ex where
  | normal | ret | exit (id : Nat)

/-! ### A loop's invariant over numbers, bools, slices .. -/
def Ty1 : Sh → Type → Type
  | .bool, T => Bool → T
  | .int _, T => Int → T
  | .str, T => ByteArray → T
  | .ptr, T => Option Addr → T
  | .slice, T => Option Addr → Nat → Nat → T
  | .map, T => Option Nat → T
  | .any, T => Value → T
def TyL : List Sh → Type → Type
  | [], T => T
  | s :: r, T => Ty1 s (TyL r T)
def TyT : TSh → Type → Type
  | .one s, T => Ty1 s T
  | .agg l, T => TyL l T
def InvT : List (Nat × Option TSh) → Type
  | [] => World → Prop
  | (_, none) :: r => InvT r
  | (_, some s) :: r => TyT s (InvT r)

def ap1 {T : Type} : (s : Sh) → Ty1 s T → Value → (T → Prop) → Prop
  | .bool, f, v, k => match v with | .bool b => k (f b) | _ => False
  | .int j, f, v, k => match v with | .int i n => gd (decide (i = j)) (k (f n)) | _ => False
  | .str, f, v, k => match v with | .string s => k (f s) | _ => False
  | .ptr, f, v, k => match v with | .pointer p => k (f p) | _ => False
  | .slice, f, v, k => match v with | .slice a n c => k (f a n c) | _ => False
  | .map, f, v, k => match v with | .map r => k (f r) | _ => False
  | .any, f, v, k => k (f v)
def apL {T : Type} : (l : List Sh) → TyL l T → List Value → (T → Prop) → Prop
  | [], f, [], k => k f
  | s :: r, f, v :: vs, k => ap1 s f v (fun g => apL r g vs k)
  | _, _, _, _ => False
def apT {T : Type} : (s : TSh) → TyT s T → Value → (T → Prop) → Prop
  | .one s, f, v, k => ap1 s f v k
  | .agg l, f, v, k => match v with | .agg cs => apL l f cs.toList k | _ => False
def atHead : (ms : List (Nat × Option TSh)) → InvT ms → Fr → World → Prop
  | [], I, _, w => I w
  | (_, none) :: r, I, l, w => atHead r I l w
  | (d, some s) :: r, I, l, w => apT s I (l.getD d undef) (fun J => atHead r J l w)

def all1 {T : Type} : (s : Sh) → Ty1 s T → (Value → T → Prop) → Prop
  | .bool, f, k => ∀ b : Bool, k (.bool b) (f b)
  | .int j, f, k => ∀ n : Int, k (.int j n) (f n)
  | .str, f, k => ∀ s : ByteArray, k (.string s) (f s)
  | .ptr, f, k => ∀ p : Option Addr, k (.pointer p) (f p)
  | .slice, f, k => ∀ (a : Option Addr) (n c : Nat), k (.slice a n c) (f a n c)
  | .map, f, k => ∀ r : Option Nat, k (.map r) (f r)
  | .any, f, k => ∀ v : Value, k v (f v)
def allL {T : Type} : (l : List Sh) → TyL l T → (List Value → T → Prop) → Prop
  | [], f, k => k [] f
  | s :: r, f, k => all1 s f (fun v g => allL r g (fun vs h => k (v :: vs) h))
def allT {T : Type} : (s : TSh) → TyT s T → (Value → T → Prop) → Prop
  | .one s, f, k => all1 s f k
  | .agg l, f, k => allL l f (fun vs h => k (.agg vs.toArray) h)
def allAt (dead : Nat → Value) : (ms : List (Nat × Option TSh)) → InvT ms → Fr → (Fr → (World → Prop) → Prop) → Prop
  | [], I, l, k => k l I
  | (d, none) :: r, I, l, k => allAt dead r I (l.set d (dead d)) k
  | (d, some s) :: r, I, l, k => allT s I (fun v J => allAt dead r J (l.set d v) k)

theorem all_ap1 {T : Type} {s : Sh} {f : Ty1 s T} {v : Value} {k : T → Prop} {k' : Value → T → Prop} (h : ap1 s f v k) (ha : all1 s f k') : ∃ g, k g ∧ k' v g := by
  cases s <;> simp only [ap1, all1] at h ha
  case any => exact ⟨_, h, ha v⟩
  case int j =>
    split at h
    · obtain ⟨e, h⟩ := gd_iff.1 h
      have := of_decide_eq_true e
      subst this
      exact ⟨_, h, ha _⟩
    · exact h.elim
  all_goals
    split at h
    · exact ⟨_, h, ha ..⟩
    · exact h.elim
theorem all_apL {T : Type} : ∀ {l : List Sh} {f : TyL l T} {vs : List Value} {k : T → Prop} {k' : List Value → T → Prop}, apL l f vs k → allL l f k' → ∃ g, k g ∧ k' vs g
  | [], f, [], k, k', h, ha => ⟨f, h, ha⟩
  | [], f, _ :: _, k, k', h, ha => h.elim
  | s :: r, f, [], k, k', h, ha => h.elim
  | s :: r, f, v :: vs, k, k', h, ha => by
    obtain ⟨g, h1, h2⟩ := all_ap1 h ha
    exact all_apL (k' := fun vs h => k' (v :: vs) h) h1 h2
theorem all_apT {T : Type} {s : TSh} {f : TyT s T} {v : Value} {k : T → Prop} {k' : Value → T → Prop} (h : apT s f v k) (ha : allT s f k') : ∃ g, k g ∧ k' v g := by
  cases s with
  | one s => exact all_ap1 h ha
  | agg l =>
    simp only [apT] at h
    split at h
    · rename_i cs
      obtain ⟨g, h1, h2⟩ := all_apL h ha
      exact ⟨g, h1, by simpa using h2⟩
    · exact h.elim

/-- Two frames that are alike but for some slots. -/
def agree (D : List Nat) (l l' : Fr) : Prop := l'.length = l.length ∧ ∀ s, s ∉ D → l'[s]? = l[s]?
theorem agree_refl (D : List Nat) (l : Fr) : agree D l l := ⟨rfl, fun _ _ => rfl⟩
theorem agree_trans {D : List Nat} {a b c : Fr} (h : agree D a b) (h' : agree D b c) : agree D a c := ⟨h'.1.trans h.1, fun s hs => (h'.2 s hs).trans (h.2 s hs)⟩
theorem agree_mono {D D' : List Nat} {a b : Fr} (h : agree D a b) (hd : ∀ x ∈ D, x ∈ D') : agree D' a b := ⟨h.1, fun s hs => h.2 s fun hm => hs (hd s hm)⟩
theorem agree_put {D : List Nat} {l : Fr} {d : Option Tmp} {v : Value} (h : ∀ x, d = some x → x ∈ D) : agree D l (put l d v) := by
  cases d with
  | none => exact agree_refl _ _
  | some x =>
    refine ⟨by simp [put], fun s hs => ?_⟩
    have : x ≠ s := fun e => hs (e ▸ h x rfl)
    simp [put, List.getElem?_set, this]

theorem allAt_at {w : World} {l' : Fr} : ∀ {ms : List (Nat × Option TSh)} {J : InvT ms} {l : Fr} {k : Fr → (World → Prop) → Prop},
    allAt (fun d => l'.getD d undef) ms J l k → agree (ms.map (·.1)) l l' → atHead ms J l' w → ∃ φ, k l' φ ∧ φ w
  | [], J, l, k, h, ha, hh => by
    have : l' = l := List.ext_getElem? fun i => ha.2 i (by simp)
    subst this
    exact ⟨J, h, hh⟩
  | (d, none) :: r, J, l, k, h, ha, hh => by
    refine allAt_at (ms := r) (J := J) h ?_ hh
    refine ⟨by simpa using ha.1, fun s hs => ?_⟩
    by_cases e : d = s
    · subst e
      by_cases hd : d < l.length
      · have : d < l'.length := by rw [ha.1]; exact hd
        simp [List.getElem?_set, hd, this]
      · have h1 : l'[d]? = none := List.getElem?_eq_none (by rw [ha.1]; omega)
        have h2 : (l.set d (l'.getD d undef))[d]? = none := List.getElem?_eq_none (by simp; omega)
        rw [h1, h2]
    · rw [List.getElem?_set]; simp only [e, if_false]
      exact ha.2 s (by simp only [List.map_cons, List.mem_cons, not_or]; exact ⟨fun h => e h.symm, hs⟩)
  | (d, some s) :: r, J, l, k, h, ha, hh => by
    obtain ⟨g, h1, h2⟩ := all_apT hh h
    refine allAt_at (ms := r) (J := g) h2 ?_ h1
    refine ⟨by simpa using ha.1, fun s hs => ?_⟩
    by_cases e : d = s
    · subst e
      by_cases hd : d < l.length
      · have : d < l'.length := by rw [ha.1]; exact hd
        simp [List.getElem?_set, hd, this]
      · have h1 : l'[d]? = none := List.getElem?_eq_none (by rw [ha.1]; omega)
        have h2 : (l.set d (l'.getD d undef))[d]? = none := List.getElem?_eq_none (by simp; omega)
        rw [h1, h2]
    · rw [List.getElem?_set]; simp only [e, if_false]
      exact ha.2 s (by simp only [List.map_cons, List.mem_cons, not_or]; exact ⟨fun h => e h.symm, hs⟩)

/-! ### Code -/
structure Ann where
  sched : Nat → Option (Option Nat × Sched)
  loop : Nat → Option (List (Nat × Option TSh))
  join : Nat → Option (List (Nat × Option TSh)) := fun _ => none

def firstR : Code → Option Nat
  | .region id _ _ => some id
  | .seq a b => match firstR a with | some i => some i | none => firstR b
  | .cond _ a b => match firstR a with | some i => some i | none => firstR b
  | .block _ b => firstR b
  | .loop b => firstR b
  | _ => none
def assigned : Code → List Nat
  | .region _ ops _ => ops.toList.filterMap (·.dst)
  | .seq a b => assigned a ++ assigned b
  | .cond _ a b => assigned a ++ assigned b
  | .block _ b => assigned b
  | .loop b => assigned b
  | _ => []
def subB (a b : List Nat) : Bool := a.all fun x => b.contains x

def vcC (P : Program) (A : Ann) : Code → Fr → World → (Ex → Fr → World → Prop) → Prop
  | .skip, l, w, K => K .normal l w
  | .label _, l, w, K => K .normal l w
  | .ret, l, w, K => K .ret l w
  | .exit id, l, w, K => K (.exit id) l w
  | .seq a b, l, w, K =>
    match (firstR b).bind A.join with
    | none => vcC P A a l w (fun e l' w' => match e with | .normal => vcC P A b l' w' K | .ret => K .ret l' w' | .exit j => K (.exit j) l' w')
    | some ms => gd (subB (assigned a) (ms.map (·.1)))
        (∃ J : InvT ms, vcC P A a l w (fun e l' w' => match e with | .normal => atHead ms J l' w' | .ret => K .ret l' w' | .exit j => K (.exit j) l' w') ∧
          ∀ (dead : Nat → Value) (w' : World), allAt dead ms J l (fun l' φ => φ w' → vcC P A b l' w' K))
  | .cond c a b, l, w, K => match ev l c with | .bool t => br t (vcC P A a l w K) (vcC P A b l w K) | _ => False
  | .block id c, l, w, K => vcC P A c l w (fun e l' w' => match e with | .normal => K .normal l' w' | .ret => K .ret l' w' | .exit j => cond (j == id) (K .normal l' w') (K (.exit j) l' w'))
  | .region id ops d, l, w, K =>
    match d with
    | true =>
      match A.sched id with
      | some (hasS, s) => gd (Region.noSelect ops && okS P ops.toList (hasS.getD 0) ops.size s 0 none)
          (match hasS with
           | some T => ∃ S : World → Prop, S w.drew ∧ runS P ops.toList (some (T, S)) s l w.drew (fun l' w' => K .normal l' w')
           | none => runS P ops.toList none s l w.drew (fun l' w' => K .normal l' w'))
      | none => False
    | false => runSeq P ops.toList ops.toList l w (fun l' w' => K .normal l' w')
  | .loop c, l, w, K =>
    match (firstR c).bind A.loop with
    | some ms => gd (subB (assigned c) (ms.map (·.1)) && subB (ms.map (·.1)) (assigned c))
        (∃ I : Nat → InvT ms, (∃ n, atHead ms (I n) l w) ∧ ∀ (n : Nat) (dead : Nat → Value) (w' : World), allAt dead ms (I n) l (fun l' φ => φ w' →
          vcC P A c l' w' (fun e l'' w'' => match e with | .normal => ∃ m, m < n ∧ atHead ms (I m) l'' w'' | .ret => K .ret l'' w'' | .exit j => K (.exit j) l'' w'')))
    | none => False
  | _, _, _, _ => False

def toExit : Ex → Exit
  | .normal => .normal
  | .ret => .ret
  | .exit i => .exit i

/-- What a formula's continuation says of an end. -/
def Post (D : List Nat) (l0 : Fr) (K : Ex → Fr → World → Prop) (e : Exit) (a : Act) (w : World) : Prop :=
  ∃ x l, e = toExit x ∧ a = act l ∧ agree D l0 l ∧ K x l w

section
variable {P : Program} {A : Ann}

theorem dst_mem {ops : List Oper} {o : Oper} (h : o ∈ ops) : ∀ x, o.dst = some x → x ∈ ops.filterMap (·.dst) :=
  fun x hx => List.mem_filterMap.2 ⟨o, h, hx⟩

theorem runSeq_post {lo : List Oper} {Q : Exit → Act → World → Prop} {K : Fr → World → Prop} {l0 : Fr} (hK : ∀ l w, agree (lo.filterMap (·.dst)) l0 l → K l w → Q .normal (act l) w) :
    ∀ (r : List Oper) (l : Fr) (w : World), (∀ o ∈ r, o ∈ lo) → agree (lo.filterMap (·.dst)) l0 l → runSeq P lo r l w K → wpList P lo.toArray Q r (act l) w
  | [], l, w, _, ha, h => hK _ _ ha h
  | o :: r, l, w, hr, ha, h => by
    simp only [runSeq] at h
    unfold wpList
    have ha' : ∀ v, agree (lo.filterMap (·.dst)) l0 (put l o.dst v) := fun v => agree_trans ha (agree_put (dst_mem (hr o (by simp))))
    rcases guard_sound h with ⟨hw, h⟩ | ⟨hw, h⟩
    · rw [if_pos hw]
      exact .inl (wp_of_done (step_done h) fun v w' hk => runSeq_post hK r _ _ (fun o ho => hr o (by simp [ho])) (ha' v) hk)
    · rw [if_neg (by simp [hw]), put_eq]
      exact runSeq_post hK r _ _ (fun o ho => hr o (by simp [ho])) (ha' undef) h

theorem anyR_post {lo : List Oper} {Q : Exit → Act → World → Prop} {K : Fr → World → Prop} {l0 : Fr} (hK : ∀ l w, agree (lo.filterMap (·.dst)) l0 l → K l w → Q .normal (act l) w) :
    ∀ (n : Nat) (S : Sp) (listed : Array Bool) (l : Fr) (w : World), agree (lo.filterMap (·.dst)) l0 l → anyR P lo.toArray S K n listed l w → wpAny P .any lo.toArray Q n listed (act l) w
  | 0, _, _, _, _, ha, h => ⟨h.1, hK _ _ ha h.2⟩
  | n + 1, S, listed, l, w, ha, h => by
    refine ⟨fun h0 => hK _ _ ha (h.1 h0), fun i hi => ?_⟩
    have hh := h.2 i hi
    unfold opR at hh
    unfold wpOp
    cases ho : lo.toArray[i]? with
    | none => simp only [ho] at hh ⊢; exact anyR_post hK n _ _ _ _ ha hh
    | some o =>
      simp only [ho] at hh ⊢
      have hmem : o ∈ lo := List.mem_of_getElem? (by simpa using ho)
      have ha' : ∀ v, agree (lo.filterMap (·.dst)) l0 (put l o.dst v) := fun v => agree_trans ha (agree_put (dst_mem hmem))
      by_cases hw : Region.wanted o (yielded lo.toArray (act l).tmps) = true
      · simp only [hw, if_true] at hh ⊢
        refine .inl ?_
        split at hh
        · obtain ⟨v, hr, hk⟩ := hh
          exact wp_of_done (K := fun u w' => u = v ∧ w' = w) (by unfold doneOp; rw [hr]; exact ⟨rfl, rfl⟩) (fun u w' ⟨e1, e2⟩ => by subst e1; subst e2; exact anyR_post hK n _ _ _ _ (ha' _) hk)
        · exact wp_of_done hh (fun v w' ⟨_, hk⟩ => anyR_post hK n _ _ _ _ (ha' _) hk)
      · simp only [hw] at hh ⊢
        rw [put_eq]
        exact anyR_post hK n _ _ _ _ (ha' _) hh

theorem least (p : Nat → Prop) (h : ∃ n, p n) : ∃ n, p n ∧ ∀ m, p m → n ≤ m := by
  obtain ⟨n, hn⟩ := h
  induction n using Nat.strongRecOn with
  | _ n ih =>
    by_cases hm : ∃ m, m < n ∧ p m
    · obtain ⟨m, h1, h2⟩ := hm; exact ih m h1 h2
    · exact ⟨n, hn, fun m hp => Nat.le_of_not_lt fun hl => hm ⟨m, hl, hp⟩⟩

open Classical in
noncomputable def leastN (p : Nat → Prop) : Nat := if h : ∃ n, p n then Classical.choose (least p h) else 0
theorem leastN_le {p : Nat → Prop} {n : Nat} (h : p n) : leastN p ≤ n := by
  have he : ∃ n, p n := ⟨n, h⟩
  unfold leastN; rw [dif_pos he]; exact (Classical.choose_spec (least p he)).2 n h
theorem leastN_spec {p : Nat → Prop} (h : ∃ n, p n) : p (leastN p) := by
  unfold leastN; rw [dif_pos h]; exact (Classical.choose_spec (least p h)).1

theorem subB_mem {a b : List Nat} (h : subB a b = true) : ∀ x ∈ a, x ∈ b := by
  intro x hx
  have := List.all_eq_true.1 h x hx
  simpa using this

theorem vcC_sound (hm : P.follows .mixedOrders = true) : ∀ (c : Code) (l : Fr) (w : World) (K : Ex → Fr → World → Prop), vcC P A c l w K → c.wp P (Post (assigned c) l K) (act l) w
  | .skip, l, w, K, h => wp_skip ⟨.normal, l, rfl, rfl, agree_refl _ _, h⟩
  | .label _, l, w, K, h => wp_label ⟨.normal, l, rfl, rfl, agree_refl _ _, h⟩
  | .ret, l, w, K, h => wp_ret ⟨.ret, l, rfl, rfl, agree_refl _ _, h⟩
  | .exit id, l, w, K, h => wp_exit ⟨.exit id, l, rfl, rfl, agree_refl _ _, h⟩
  | .seq a b, l, w, K, h => by
    simp only [vcC] at h
    split at h
    · refine wp_seq (wp_mono (vcC_sound hm a l w _ h) ?_)
      rintro e a' w' ⟨x, l', rfl, rfl, hag, hk⟩
      cases x with
      | normal =>
        refine wp_mono (vcC_sound hm b l' w' K hk) ?_
        rintro e a'' w'' ⟨x, l'', rfl, rfl, hag', hk'⟩
        exact ⟨x, l'', rfl, rfl, agree_trans (agree_mono hag (by simp [assigned]; intro x hx; exact .inl hx)) (agree_mono hag' (by simp [assigned]; intro x hx; exact .inr hx)), hk'⟩
      | ret => exact ⟨.ret, l', rfl, rfl, agree_mono hag (by simp [assigned]; intro x hx; exact .inl hx), hk⟩
      | exit j => exact ⟨.exit j, l', rfl, rfl, agree_mono hag (by simp [assigned]; intro x hx; exact .inl hx), hk⟩
    · rename_i ms _
      obtain ⟨hsub, J, h1, h2⟩ := gd_iff.1 h
      have hs1 := subB_mem hsub
      refine wp_seq (wp_mono (vcC_sound hm a l w _ h1) ?_)
      rintro e a' w' ⟨x, l', rfl, rfl, hag, hk⟩
      cases x with
      | normal =>
        obtain ⟨φ, hk2, hφ⟩ := allAt_at (h2 (fun d => l'.getD d undef) w') (agree_mono hag hs1) hk
        refine wp_mono (vcC_sound hm b l' w' K (hk2 hφ)) ?_
        rintro e a'' w'' ⟨x, l'', rfl, rfl, hag', hk'⟩
        exact ⟨x, l'', rfl, rfl, agree_trans (agree_mono hag (by simp [assigned]; intro x hx; exact .inl hx)) (agree_mono hag' (by simp [assigned]; intro x hx; exact .inr hx)), hk'⟩
      | ret => exact ⟨.ret, l', rfl, rfl, agree_mono hag (by simp [assigned]; intro x hx; exact .inl hx), hk⟩
      | exit j => exact ⟨.exit j, l', rfl, rfl, agree_mono hag (by simp [assigned]; intro x hx; exact .inl hx), hk⟩
  | .cond c a b, l, w, K, h => by
    simp only [vcC] at h
    split at h
    · rename_i t hc
      refine wp_cond (t := t) (by rw [ev_eq]; exact hc) ?_
      cases t with
      | true => exact wp_mono (vcC_sound hm a l w K h) fun e a' w' ⟨x, l', h1, h2, h3, h4⟩ => ⟨x, l', h1, h2, agree_mono h3 (by simp [assigned]; intro x hx; exact .inl hx), h4⟩
      | false => exact wp_mono (vcC_sound hm b l w K h) fun e a' w' ⟨x, l', h1, h2, h3, h4⟩ => ⟨x, l', h1, h2, agree_mono h3 (by simp [assigned]; intro x hx; exact .inr hx), h4⟩
    · exact h.elim
  | .block id c, l, w, K, h => by
    simp only [vcC] at h
    refine wp_block (wp_mono (vcC_sound hm c l w _ h) ?_)
    rintro e a' w' ⟨x, l', rfl, rfl, hag, hk⟩
    cases x with
    | normal => exact ⟨.normal, l', rfl, rfl, hag, hk⟩
    | ret => exact ⟨.ret, l', rfl, rfl, hag, hk⟩
    | exit j =>
      simp only [toExit, Exit.inBlock]
      by_cases hj : j = id
      · subst hj; simp only [beq_self_eq_true, cond_true] at hk; rw [if_pos rfl]; exact ⟨.normal, l', rfl, rfl, hag, hk⟩
      · have : (j == id) = false := by simpa using hj
        simp only [this, cond_false] at hk
        rw [if_neg hj]; exact ⟨.exit j, l', rfl, rfl, hag, hk⟩
  | .region id ops d, l, w, K, h => by
    simp only [vcC] at h
    have hQ : ∀ l' w', agree (ops.toList.filterMap (·.dst)) l l' → K .normal l' w' → Post (assigned (.region id ops d)) l K .normal (act l') w' :=
      fun l' w' ha hk => ⟨.normal, l', rfl, rfl, ha, hk⟩
    cases d with
    | false =>
      simp only at h
      refine wp_region_list ?_
      have := runSeq_post (lo := ops.toList) (Q := Post (assigned (.region id ops false)) l K) hQ ops.toList l w (fun _ h => h) (agree_refl _ _) h
      simpa using this
    | true =>
      simp only at h
      split at h
      · rename_i hasS s hs
        obtain ⟨hok, h⟩ := gd_iff.1 h
        simp only [Bool.and_eq_true] at hok
        obtain ⟨hn, hok⟩ := hok
        have go : ∀ S : Sp, Late (hasS.getD 0) S → sP S w.drew → runS P ops.toList S s l w.drew (fun l' w' => K .normal l' w') → (Code.region id ops true).wp P (Post (assigned (.region id ops true)) l K) (act l) w := by
          intro S hT hS hr
          refine wp_region_any hm ?_
          have h1 := (sched_sound (lo := ops.toList) (fun j o cs b hj => Region.noSelect_spec hn j o cs b (by simpa using hj)) s S ops.size 0 _ l w.drew hT Lst_zero hS hr).1 hok
          have h2 := anyR_post (lo := ops.toList) (Q := Post (assigned (.region id ops true)) l K) hQ _ _ _ l w.drew (agree_refl _ _) h1
          simpa using h2
        cases hasS with
        | some T => obtain ⟨S, hS, hr⟩ := h; exact go (some (T, S)) (Late.some T S) hS hr
        | none => exact go none (Late.none _) trivial h
      · exact h.elim
  | .loop c, l, w, K, h => by
    simp only [vcC] at h
    split at h
    · rename_i ms hms
      obtain ⟨hsub, I, ⟨n0, h0⟩, hr⟩ := gd_iff.1 h
      simp only [Bool.and_eq_true] at hsub
      have hs1 := subB_mem hsub.1
      have hs2 := subB_mem hsub.2
      let Inv : Nat → Act → World → Prop := fun n a w => ∃ l', a = act l' ∧ agree (assigned c) l l' ∧ atHead ms (I n) l' w
      refine wp_loop (fun a w => ∃ n, Inv n a w) (fun a w => leastN fun n => Inv n a w) ⟨n0, l, rfl, agree_refl _ _, h0⟩ ?_
      intro a w' hex
      have hspec := leastN_spec hex
      generalize leastN (fun n => Inv n a w') = n at hspec ⊢
      obtain ⟨l', rfl, hag, hh⟩ := hspec
      obtain ⟨φ, hk, hφ⟩ := allAt_at (hr n (fun d => l'.getD d undef) w') (agree_mono hag hs1) hh
      refine wp_mono (vcC_sound hm c l' w' _ (hk hφ)) ?_
      rintro e a'' w'' ⟨x, l'', rfl, rfl, hag', hx⟩
      cases x with
      | normal =>
        obtain ⟨m, hlt, hm'⟩ := hx
        have hI : Inv m (act l'') w'' := ⟨l'', rfl, agree_trans hag hag', hm'⟩
        exact ⟨⟨m, hI⟩, Nat.lt_of_le_of_lt (leastN_le hI) hlt⟩
      | ret => exact ⟨.ret, l'', rfl, rfl, agree_trans hag hag', hx⟩
      | exit j => exact ⟨.exit j, l'', rfl, rfl, agree_trans hag hag', hx⟩
    · exact h.elim
  | .rangeFunc .., _, _, _, h => h.elim
  | .scope _, _, _, _, h => h.elim
  | .goto _, _, _, _, h => h.elim
  | .refuse _, _, _, _, h => h.elim

/-! ### A function -/
/-- The results, read at the end. -/
def resVC (P : Program) (w : World) : List ResultVar → Fr → (List Value → Prop) → Prop
  | [], _, K => K []
  | .tmp t :: r, l, K => resVC P w r l (fun vs => K (l.getD t undef :: vs))
  | .cell a t :: r, l, K => loadVC P (fun a u => w.cell? a = some u) t (l.getD a undef) (fun v => resVC P w r l (fun vs => K (v :: vs)))
def oneV : List Value → Value
  | [v] => v
  | vs => .tuple vs.toArray

/-- A call's end: it hands this back. -/
def Ret (R : Value → World → Prop) (e : Ending) (w : World) : Prop := ∃ v, e = .returned v ∧ R v w

def fnVC (P : Program) (A : Ann) (f : Func) (args : List Value) (w : World) (R : Value → World → Prop) : Prop :=
  match f.body with
  | some c => vcC P A c (args ++ List.replicate (f.ntmps - args.length) undef) w (fun e l w' => match e with
      | .exit _ => False
      | .normal => resVC P w' f.results.toList l (fun vs => R (oneV vs) w')
      | .ret => resVC P w' f.results.toList l (fun vs => R (oneV vs) w'))
  | none => False

def resOne (tmps : Array Value) : ResultVar → Sem Value
  | .tmp t => pure (tmps.getD t undef)
  | .cell a t => do loadVar t (← asAddr (tmps.getD a undef))
theorem results_eq (f : Func) (tmps : Array Value) : results f tmps = (do let vs ← f.results.mapM (resOne tmps); pure (if h : vs.size = 1 then vs[0] else .tuple vs)) := by
  unfold results
  congr 1

theorem resVC_run {w : World} {l : Fr} : ∀ {rs : List ResultVar} {K : List Value → Prop}, resVC P w rs l K →
    ∃ vs, (rs.mapM (resOne (act l).tmps)).run P w = Result.ok vs w ∧ K vs
  | [], K, h => ⟨[], by simp, h⟩
  | .tmp t :: r, K, h => by
    obtain ⟨vs, hr, hk⟩ := resVC_run (rs := r) h
    refine ⟨_, ?_, hk⟩
    rw [List.mapM_cons]
    simp only [resOne, Sem.run_bind, Sem.run_pure, Result.andThen, hr]
    simp [act]
  | .cell a t :: r, K, h => by
    obtain ⟨ad, had⟩ := loadVC_ptr h
    obtain ⟨v, hv, h⟩ := loadVC_sound (rn := fun s u => s.run P w = .ok u w) h
    have hv := hv w ⟨fun _ _ h => h, fun _ _ h => h⟩
    obtain ⟨vs, hr, hk⟩ := resVC_run (rs := r) h
    refine ⟨_, ?_, hk⟩
    rw [had] at hv
    simp only [Instr.loadAt, Instr.sureAddr, Sem.run_bind, Sem.run_pure, Result.andThen] at hv
    have ha : (act l).tmps.getD a undef = .pointer (some ad) := by rw [← had]; simp [act]
    rw [List.mapM_cons]
    simp only [resOne, ha, asAddr, Sem.run_bind, Sem.run_pure, Result.andThen, hv, hr]

theorem results_run {f : Func} {l : Fr} {w : World} {K : List Value → Prop} (h : resVC P w f.results.toList l K) : ∃ vs, (results f (act l).tmps).run P w = .ok (oneV vs) w ∧ K vs := by
  obtain ⟨vs, hr, hk⟩ := resVC_run h
  refine ⟨vs, ?_, hk⟩
  rw [results_eq]
  have e : f.results = f.results.toList.toArray := by simp
  rw [e, List.mapM_toArray]
  simp only [Sem.run_bind, Sem.run_map]
  rw [hr]
  simp only [Result.andThen, Sem.run_pure]
  match vs with
  | [] => rfl
  | [v] => rfl
  | v :: u :: r => rw [dif_neg (by simp)]; rfl

theorem calls_of_vc {k : FuncId} {f : Func} {args : List Value} {w : World} {R : Value → World → Prop} (hm : P.follows .mixedOrders = true) (hf : P.funcs[k]? = some f) (h : fnVC P A f args w R) :
    Calls P k args.toArray w (Ret R) := by
  unfold fnVC at h
  split at h
  · rename_i c hb
    refine calls_of_wp hf hb ?_
    have hact : ({ tmps := args.toArray ++ Array.replicate (f.ntmps - args.toArray.size) undef, defers := [] } : Act) = act (args ++ List.replicate (f.ntmps - args.length) undef) := by
      simp [act]
    rw [hact]
    refine wp_mono (vcC_sound hm c _ w _ h) ?_
    rintro e a w' ⟨x, l, rfl, rfl, _, hx⟩
    cases x with
    | normal => obtain ⟨vs, hr, hk⟩ := results_run hx; exact ⟨rfl, _, hr, _, rfl, hk⟩
    | ret => obtain ⟨vs, hr, hk⟩ := results_run hx; exact ⟨rfl, _, hr, _, rfl, hk⟩
    | exit j => exact hx.elim
  · exact h.elim
end
end Go.Vc
