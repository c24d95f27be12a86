/- Closed runs by computation: operations that leave the world alone. Conditions: none. -/
import Derived.Test.YtllpiaedljoejaaGreatDoorVcY
import Derived.WideLaws
import Derived.Great.BuildSlice
import Derived.Test.YtllpiaedljoejaaGreatDoorVcMap
import Derived.Laws.RangeString
import Derived.Laws.IdiomRangeMap
import Derived.Maps.RangeRun
import Derived.Lib.AppendStr
namespace Go.Vc
set_option linter.unusedSimpArgs false
set_option linter.unusedVariables false

/-! ### Memory -/
def XObj (ρ : RM) (w : World) (b c : Nat) : XO → Prop
  | .cells t ow cs => ∃ cs' tl, w.heap[b]? = some (.cells (cs' ++ tl).toArray t (0, 0)) ∧ VRs ρ cs cs' ∧ (ow = 0 → tl = []) ∧ (ow ≠ 0 → (cs' ++ tl).length = c * ow ∧ c ≤ maxLen)
  | .ro cs => ∃ cs', VRs ρ cs cs' ∧ ∀ o v, cs'[o]? = some v → w.cell? ⟨b, o, none⟩ = some v
  | .map => ∃ n, w.heap[b]? = some (.map #[] n)
  | .siter s p => w.heap[b]? = some (.stringIter s p)
  | .miter m => ∃ bm cm s, ρ m = some (bm, cm) ∧ w.heap[b]? = some (.mapIter (some bm) s #[] s)
  | .dead => True
structure Rel (ρ : RM) (h : XH) (w0 w : World) : Prop where
  ch : Ch [] w0 w
  obj : ∀ k x, h.get k = some x → ∃ b c, ρ k = some (b, c) ∧ XObj ρ w b c x
  inj : ∀ k k' x x' b c c', h.get k = some x → h.get k' = some x' → x ≠ .dead → x' ≠ .dead → ρ k = some (b, c) → ρ k' = some (b, c') → k = k'
  dom : ∀ k, h.get k = none → ρ k = none
  own : ∀ k b c, ρ k = some (b, c) → x0 ≤ k → w0.heap.size ≤ b
  lt : ∀ k b c, ρ k = some (b, c) → b < w.heap.size
  glob : ∀ k b c, ρ k = some (b, c) → k < x0 → b = k
/-- The machine's frame and the model's. -/
structure FR (ρ : RM) (l : FX) (l' : Fr) : Prop where
  at_ : ∀ t, VR ρ (FX.at_ l t) (l'.getD t undef)
  len : l'.length ≤ 512
theorem VR.undef {ρ : RM} : VR ρ undef undef := .tuple .nil
theorem FR.mono {ρ ρ' : RM} (h : RM.le ρ ρ') {l : FX} {l' : Fr} (hl : FR ρ l l') : FR ρ' l l' := ⟨fun t => (hl.at_ t).mono h, hl.len⟩
theorem FR.put {ρ : RM} {l : FX} {l' : Fr} {d : Option Tmp} {v v' : Value} (hl : FR ρ l l') (hv : VR ρ v v') (hd : ∀ x, d = some x → x < l'.length) : FR ρ (putX l d v) (put l' d v') := by
  cases d with
  | none => exact hl
  | some d =>
    have hd := hd d rfl
    have h5 := hl.len
    refine ⟨fun t => ?_, by simpa [Go.Vc.put] using hl.len⟩
    simp only [putX, Go.Vc.put, FX.at_, get_set]
    by_cases ht : t = d
    · subst ht
      rw [if_pos ⟨rfl, Nat.lt_of_lt_of_le hd h5⟩]
      simp only [leafX]
      have : (l'.set t v').getD t undef = v' := by simp [List.getD, hd]
      rw [this]; exact hv
    · rw [if_neg (fun e => ht e.1)]
      have : (l'.set d v').getD t undef = l'.getD t undef := by simp only [List.getD]; rw [List.getElem?_set_ne (fun e => ht e.symm)]
      rw [this]; exact hl.at_ t
def MemR (rd : Rd) (ρ : RM) (W : World → Prop) : Prop := ∀ k o v, rd k o = some v → ∃ b c v', ρ k = some (b, c) ∧ VR ρ v v' ∧ ∀ w, W w → w.cell? ⟨b, o, none⟩ = some v'
def MapR (mp : Nat → Bool) (ρ : RM) (W : World → Prop) : Prop := ∀ k, mp k = true → ∃ b c, ρ k = some (b, c) ∧ ∀ w, W w → ∃ n, w.heap[b]? = some (.map #[] n)
structure XE.Ok {P : Program} (E : XE P) : Prop where
  reg : ∀ f fn c, E.okf f = true → P.funcs[f]? = some fn → fn.body = some c → regOkB P E f c = true
  nm : ∀ t m, E.nm t m = true → ∀ (b : Nat) (w : World), (nilMethS m #[.iface t (.pointer (some ⟨b, 0, none⟩))] #[]).run P w = .ok (.func (.method m) #[.iface t (.pointer (some ⟨b, 0, none⟩))] #[]) w
  im : ∀ t m f, E.im t m = some f → ∀ (b : Nat) (args : Array Value) (w : World), (callMethod (.iface t (.pointer (some ⟨b, 0, none⟩))) m args).run P w = .ok (.enter f (#[.pointer (some ⟨b, 0, none⟩)] ++ args)) w

section
variable {P : Program} {E : XE P} {ρ : RM} {h : XH} {l : FX} {l' : Fr} {w0 w : World} {W : World → Prop} {rd : Rd} {mp : Nat → Bool}

theorem Rel.cell (H : Rel ρ h w0 w) : MemR h.cell ρ (fun w' => w' = w) := by
  intro k o v hv
  unfold XH.cell at hv
  split at hv
  · rename_i t ow cs hk
    obtain ⟨b, c, hb, cs', tl, hw, hc, _⟩ := H.obj _ _ hk
    obtain ⟨v', h1, h2⟩ := hc.get hv
    refine ⟨b, c, v', hb, h2, fun w' e => ?_⟩
    subst e
    have hlt : o < cs'.length := (List.getElem?_eq_some_iff.1 h1).1
    simp only [World.cell?, hw]
    simp [List.getElem?_append_left hlt, h1]
  · rename_i cs hk
    obtain ⟨b, c, hb, cs', hc, hw⟩ := H.obj _ _ hk
    obtain ⟨v', h1, h2⟩ := hc.get hv
    exact ⟨b, c, v', hb, h2, fun w' e => by subst e; exact hw _ _ h1⟩
  · cases hv
theorem Rel.isMap (H : Rel ρ h w0 w) : MapR h.isMap ρ (fun w' => w' = w) := by
  intro k hk
  unfold XH.isMap at hk
  split at hk
  · rename_i hg
    obtain ⟨b, c, hb, n, hw⟩ := H.obj _ _ hg
    exact ⟨b, c, hb, fun w' e => ⟨n, by subst e; exact hw⟩⟩
  · cases hk
theorem evX_sound (H : Rel ρ h w0 w) (hl : FR ρ l l') {x : Operand} {v : Value} (hx : evX h l x = some v) : VR ρ v (ev l' x) ∧ evF l x = v := by
  cases x with
  | tmp t => simp only [evX, Option.some.injEq] at hx; subst hx; exact ⟨hl.at_ t, rfl⟩
  | const u =>
    simp only [evX] at hx
    split at hx
    · rename_i hp; cases hx; exact ⟨.plainV hp, rfl⟩
    · cases hx
  | global g =>
    simp only [evX] at hx
    split at hx
    · rename_i x hg hk
      simp only [Option.some.injEq] at hx
      subst hx
      obtain ⟨b, c, hb, _⟩ := H.obj _ _ hk
      have : b = g := H.glob _ _ _ hb (Nat.le_of_ble_eq_true hg)
      subst this
      exact ⟨.ptr hb, rfl⟩
    · cases hx
  | func f => simp only [evX, Option.some.injEq] at hx; subst hx; exact ⟨.func .nil .nil, rfl⟩
theorem evsX_sound (H : Rel ρ h w0 w) (hl : FR ρ l l') : ∀ {xs : List Operand} {vs : List Value}, evsX h l xs = some vs → VRs ρ vs (xs.map (ev l')) ∧ xs.map (evF l) = vs
  | [], vs, hx => by simp only [evsX, Option.some.injEq] at hx; subst hx; exact ⟨.nil, rfl⟩
  | x :: r, vs, hx => by
    simp only [evsX] at hx
    split at hx
    · rename_i v us h1 h2
      simp only [Option.some.injEq] at hx
      subst hx
      obtain ⟨a1, a2⟩ := evX_sound H hl h1
      obtain ⟨b1, b2⟩ := evsX_sound H hl h2
      exact ⟨.cons a1 b1, by simp [a2, b2]⟩
    · cases hx

/-- What comes of an operation in all worlds of W. -/
def Comes (P : Program) (o : Oper) (l' : Fr) (W : World → Prop) (v' : Value) : Prop := ∀ w, W w → (execOp (ev l') o).run P w = .ok (.value v') w
theorem pur_sound {o : Oper} {v : Value} (hv : purX P o l = some v) (he : execOp (evF l) o = execOp (ev l') o) : ∃ v', VR ρ v v' ∧ Comes P o l' W v' := by
  unfold purX at hv
  split at hv
  · rename_i u hu
    split at hv
    · rename_i hp
      cases hv
      refine ⟨_, .plainV hp, fun w _ => ?_⟩
      rw [← he]; exact pureVal_run hu w
    · cases hv
  · cases hv

theorem agg_run {t : TypeId} {b : Bool} (ha : aggX P t = some b) (w : World) : (isAgg t).run P w = .ok b w := by
  unfold aggX at ha
  unfold isAgg
  split at ha
  · rename_i hu; cases ha; simp [underlying, hu]
  · rename_i hu; cases ha; simp [underlying, hu]
  · rename_i d h1 h2 hu
    cases ha
    cases d <;> simp_all [underlying]
  · cases ha
theorem size_run {t : TypeId} {n : Nat} (hs : sizeX P t = some n) (w : World) : (sizeOf t).run P w = .ok n w := by
  unfold sizeX at hs
  cases hi : P.info? t with
  | none => rw [hi] at hs; cases hs
  | some i => rw [hi] at hs; simp only [Option.map_some, Option.some.injEq] at hs; simp [sizeOf, typeInfo, hi, hs]
theorem size_cells {t : TypeId} {n : Nat} (hs : sizeX P t = some n) : (P.info? t).isSome = true ∧ P.cellsOf t = n := by
  unfold sizeX at hs
  cases hi : P.info? t with
  | none => rw [hi] at hs; cases hs
  | some i => rw [hi] at hs; simp only [Option.map_some, Option.some.injEq] at hs; exact ⟨rfl, by simp [Program.cellsOf, hi, hs]⟩
theorem rdN_sound (hM : MemR rd ρ W) {k b c : Nat} (hk : ρ k = some (b, c)) : ∀ (n o : Nat) {vs : List Value}, rdN rd k n o = some vs → vs.length = n ∧ ∃ vs', VRs ρ vs vs' ∧ ∀ w, W w → ∀ j v, vs'[j]? = some v → w.cell? ⟨b, o + j, none⟩ = some v
  | 0, o, vs, h => by simp only [rdN, Option.some.injEq] at h; subst h; exact ⟨rfl, [], .nil, fun _ _ j v hj => by simp at hj⟩
  | n + 1, o, vs, h => by
    simp only [rdN] at h
    split at h
    · rename_i v hv
      split at h
      · rename_i us hu
        simp only [Option.some.injEq] at h
        subst h
        obtain ⟨h1, us', h2, h3⟩ := rdN_sound hM hk n (o + 1) hu
        obtain ⟨b', c', v', e, g1, g2⟩ := hM _ _ _ hv
        rw [hk] at e; cases e
        refine ⟨by simp [h1], v' :: us', .cons g1 h2, fun w hw j u hj => ?_⟩
        cases j with
        | zero => simp only [List.getElem?_cons_zero, Option.some.injEq] at hj; subst hj; exact g2 w hw
        | succ j => have := h3 w hw j u (by simpa using hj); rw [show o + (j + 1) = o + 1 + j by omega]; exact this
      · cases h
    · cases h
theorem rdN_dom (hM : MemR rd ρ W) {k n o : Nat} {vs : List Value} (h : rdN rd k (n + 1) o = some vs) : ∃ p, ρ k = some p := by
  simp only [rdN] at h
  split at h
  · rename_i v hv; obtain ⟨b, c, _, e, _⟩ := hM _ _ _ hv; exact ⟨_, e⟩
  · cases h
theorem load_sound (hM : MemR rd ρ W) {t : TypeId} {p p' v : Value} (hp : VR ρ p p') (hv : loadX P rd t p = some v) : ∃ v', VR ρ v v' ∧ ∀ w, W w → (Instr.loadAt t p').run P w = .ok v' w := by
  unfold loadX at hv
  split at hv
  · rename_i k o
    cases hp with
    | plain hp => simp [plain1] at hp
    | @ptr _ _ b c hb =>
      split at hv
      · rename_i n ha hs
        split at hv
        · rename_i vs hr
          cases hv
          obtain ⟨h1, vs', h2, h3⟩ := rdN_sound hM hb _ _ hr
          refine ⟨.agg vs'.toArray, .agg (by simpa using h2), fun w hw => ?_⟩
          have hcells : (loadCells ⟨b, o, none⟩ vs'.length).run P w = .ok vs'.toArray w := run_loadCells_list (P := P) (w := w) ⟨b, o, none⟩ vs' fun j v hj => by
            rw [addr_add]; exact h3 w hw j v hj
          have hn : vs'.length = n := by rw [h2.length, h1]
          rw [hn] at hcells
          simp [Instr.loadAt, Instr.sureAddr, loadVar, agg_run ha, size_run hs, hcells]
        · cases hv
      · rename_i ha
        obtain ⟨b', c', v', e, g1, g2⟩ := hM _ _ _ hv
        rw [hb] at e; cases e
        refine ⟨v', g1, fun w hw => ?_⟩
        simp [Instr.loadAt, Instr.sureAddr, loadVar, agg_run ha, g2 w hw]
      · cases hv
  · cases hv
theorem part_sound {t : TypeId} {cs cs' : List Value} {off : Nat} {v : Value} (hc : VRs ρ cs cs') (hv : partX P t cs off = some v) : ∃ v', VR ρ v v' ∧ ∀ w, (part t cs'.toArray off).run P w = .ok v' w := by
  unfold partX at hv
  split at hv
  · rename_i n ha hs
    cases hv
    refine ⟨.agg ((cs'.drop off).take n).toArray, .agg (by simpa using (hc.drop off).take n), fun w => ?_⟩
    have : cs'.toArray.extract off (off + n) = ((cs'.drop off).take n).toArray := by
      apply Array.toList_inj.1
      simp
    simp [part, agg_run ha, size_run hs, this]
  · rename_i ha
    obtain ⟨v', h1, h2⟩ := hc.get hv
    exact ⟨v', h2, fun w => by simp [part, agg_run ha, h1]⟩
  · cases hv
theorem inB_iff {i : Int} {n : Nat} (h : inB i n = true) : 0 ≤ i ∧ i < (n : Int) := by
  cases i with
  | ofNat m => simp only [inB, Nat.blt, Nat.ble_eq] at h; exact ⟨Int.natCast_nonneg _, by simp only [Int.ofNat_eq_natCast]; omega⟩
  | negSucc m => cases h
theorem checkKey_run {k : TypeId} {i : Value} {d : TypeDesc} (n : Nat) (hk : P.underlying k = some d) (hi : (d = .string ∧ ∃ s, i = .string s) ∨ ((∃ q, d = .int q) ∧ ∃ q n, i = .int q n)) : (Instr.checkKey true (n + 1) k i).run P w = .ok () w := by
  rcases hi with ⟨rfl, s, rfl⟩ | ⟨⟨q, rfl⟩, q', n', rfl⟩ <;> simp [Instr.checkKey, underlying, hk]
theorem lookFin {t k e : TypeId} {b : Nat} {ok : Bool} {i v : Value} {n : Nat} {d : TypeDesc} (hu : P.underlying t = some (.map k e)) (hk : P.underlying k = some d) (hi : (d = .string ∧ ∃ s, i = .string s) ∨ ((∃ q, d = .int q) ∧ ∃ q n, i = .int q n)) (hf : lookX.fin P ok e = some v)
    (hb : w.heap[b]? = some (.map #[] n)) : plainV v = true ∧ (Instr.lookup t (.map (some b)) i ok).run P w = .ok v w := by
  unfold lookX.fin at hf
  have hkey : (Instr.checkKey true 10000 k i).run P w = .ok () w := checkKey_run 9999 hk hi
  have hfind : (Instr.findKey k i []).run P w = .ok none w := by
    simp [Instr.findKey, underlying, hk, Instr.findNow]
  split at hf
  · rename_i z hz
    have hzero : (zeroValue e).run P w = .ok z w := by
      cases hinf : P.info? e with
      | none => rw [hinf] at hz; cases hz
      | some inf => rw [hinf] at hz; simp only [Option.bind_some] at hz; simp [zeroValue, typeInfo, hinf, hz]
    split at hf
    · rename_i hp hok
      split at hf
      · rename_i hp1
        cases hf
        refine ⟨by show ([z, Value.bool false].all plain1) = true; simp only [List.all_cons, hp1, List.all_nil]; rfl, ?_⟩
        simp [Instr.lookup, underlying, hu, getObj, Sem.run, hb, hkey, hfind, hzero]
      · cases hf
    · rename_i hp
      cases hf
      refine ⟨hp, ?_⟩
      simp [Instr.lookup, underlying, hu, getObj, Sem.run, hb, hkey, hfind, hzero]
    · cases hf
  · cases hf
end
end Go.Vc

namespace Go.Vc
set_option linter.unusedSimpArgs false
set_option linter.unusedVariables false
section
variable {P : Program} {E : XE P} {ρ : RM} {h : XH} {l : FX} {l' : Fr} {w0 w : World} {W : World → Prop} {rd : Rd} {mp : Nat → Bool}

theorem comes_of {o : Oper} {s : Sem Value} {v' : Value} (he : execOp (ev l') o = (do pure (.value (← s)))) (hr : ∀ w, W w → s.run P w = .ok v' w) : Comes P o l' W v' := fun w hw => by
  rw [he]; simp only [Sem.run_bind, hr w hw, Result.andThen, Sem.run_pure]
theorem same_ev (H : Rel ρ h w0 w) (hl : FR ρ l l') {x : Operand} {v : Value} (hx : evX h l x = some v) (hp : plainV v = true) : evF l x = ev l' x := by
  obtain ⟨h1, h2⟩ := evX_sound H hl hx
  rw [h2, h1.of_plainV hp]
theorem same_evs (H : Rel ρ h w0 w) (hl : FR ρ l l') {xs : List Operand} {vs : List Value} (hx : evsX h l xs = some vs) (hp : vs.all plain1 = true) : xs.map (evF l) = xs.map (ev l') := by
  obtain ⟨h1, h2⟩ := evsX_sound H hl hx
  rw [h2, h1.of_plain hp]
theorem plain1V {v : Value} (h : plain1 v = true) : plainV v = true := by
  cases v <;> first | exact h | (simp [plain1] at h)
theorem map_arr {f g : Operand → Value} {xs : Array Operand} (h : xs.toList.map f = xs.toList.map g) : xs.map f = xs.map g := by
  apply Array.toList_inj.1; simpa using h

theorem bin_soundX (H : Rel ρ h w0 w) (hl : FR ρ l l') {o : Oper} {op : BinOp} {t u : TypeId} {x y : Operand} {a b v : Value} (ho : o.op = .binOp op t x y u) (hx : evX h l x = some a) (hy : evX h l y = some b)
    (hv : binX P o l op t y a b = some v) : ∃ v', VR ρ v v' ∧ Comes P o l' W v' := by
  obtain ⟨hx1, hx2⟩ := evX_sound H hl hx
  obtain ⟨hy1, hy2⟩ := evX_sound H hl hy
  have he : execOp (ev l') o = (do pure (.value (← (do eqGuard op t x y (ev l' x) (ev l' y); binOp op t (ev l' x) (ev l' y))))) := by unfold execOp; simp only [ho]
  have hpn : b = .pointer none → ev l' y = .pointer none := fun e => by subst e; exact hy1.of_plain rfl
  have hin : b = .nilIface → ev l' y = .nilIface := fun e => by subst e; exact hy1.of_plain rfl
  have hpp : ∀ p, a = .pointer p → ∃ p', ev l' x = .pointer p' ∧ p'.isNone = p.isNone := fun p e => by
    subst e
    generalize ev l' x = z at hx1
    cases hx1 with
    | plain _ => exact ⟨p, rfl, rfl⟩
    | ptr _ => exact ⟨_, rfl, rfl⟩
  have hii : ∀ t1 z, a = .iface t1 z → ∃ z', ev l' x = .iface t1 z' := fun t1 z e => by
    subst e
    generalize ev l' x = z at hx1
    cases hx1 with
    | plain hp => simp [plain1] at hp
    | iface _ => exact ⟨_, rfl⟩
  have hifc : isIfc P t = true → P.underlying t = some (.interface (P.methodsAt t)) := fun e => by
    unfold isIfc at e
    split at e
    · rename_i ms hu; simp [Program.methodsAt, hu]
    · cases e
  have hptr : isPtrT P t = true → P.underlying t = some (.pointer (P.pointee t)) := fun e => by
    unfold isPtrT at e
    split at e
    · rename_i ms hu; simp [Program.pointee, hu]
    · cases e
  have ifc : ∀ d, P.underlying t = some d → (∃ ms, d = .interface ms) → True := fun _ _ _ => trivial
  unfold binX at hv
  split at hv
  · rename_i p
    split at hv
    · rename_i ht
      cases hv
      obtain ⟨p', e1, e2⟩ := hpp _ rfl
      refine ⟨_, .plain rfl, comes_of he fun w _ => ?_⟩
      rw [e1, hpn rfl]
      have := run_eql_pointer_nil (w := w) t p' (hptr ht)
      simp only [eqGuard, Sem.run_bind]
      rw [← e2]; simpa [Result.andThen] using this
    · cases hv
  · rename_i p
    split at hv
    · rename_i ht
      cases hv
      obtain ⟨p', e1, e2⟩ := hpp _ rfl
      refine ⟨_, .plain rfl, comes_of he fun w _ => ?_⟩
      rw [e1, hpn rfl]
      have := run_neq_pointer_nil (w := w) t p' (hptr ht)
      simp only [eqGuard, Sem.run_bind]
      rw [← e2]; simpa [Result.andThen] using this
    · cases hv
  · split at hv
    · rename_i ht
      simp only [Bool.and_eq_true] at ht
      cases hv
      refine ⟨_, .plain rfl, comes_of he fun w _ => ?_⟩
      rw [hin rfl, hx1.of_plain rfl]
      have hu := hifc ht.1
      cases y with
      | const u => simp only [eqGuard, Sem.run_bind]; simpa [Result.andThen] using run_eql_nil_nil (w := w) t hu
      | _ => simp [isC] at ht
    · cases hv
  · split at hv
    · rename_i ht
      simp only [Bool.and_eq_true] at ht
      cases hv
      refine ⟨_, .plain rfl, comes_of he fun w _ => ?_⟩
      rw [hin rfl, hx1.of_plain rfl]
      have hu := hifc ht.1
      cases y with
      | const u => simp only [eqGuard, Sem.run_bind]; simpa [Result.andThen] using run_neq_nil_nil (w := w) t hu
      | _ => simp [isC] at ht
    · cases hv
  · split at hv
    · rename_i ht
      cases hv
      obtain ⟨z', e1⟩ := hii _ _ rfl
      refine ⟨_, .plain rfl, comes_of he fun w _ => ?_⟩
      rw [hin rfl, e1]
      have hu := hifc ht
      simp only [eqGuard, Sem.run_bind]; simpa [Result.andThen] using run_eql_held_nil (w := w) t _ z' hu
    · cases hv
  · split at hv
    · rename_i ht
      cases hv
      obtain ⟨z', e1⟩ := hii _ _ rfl
      refine ⟨_, .plain rfl, comes_of he fun w _ => ?_⟩
      rw [hin rfl, e1]
      have hu := hifc ht
      simp only [eqGuard, Sem.run_bind]; simpa [Result.andThen] using run_neq_held_nil (w := w) t _ z' hu
    · cases hv
  · split at hv
    · rename_i hp
      simp only [Bool.and_eq_true] at hp
      refine pur_sound hv ?_
      have e1 := same_ev H hl hx hp.1
      have e2 := same_ev H hl hy hp.2
      unfold execOp
      simp only [ho, e1, e2]
    · cases hv
end
end Go.Vc

namespace Go.Vc
set_option linter.unusedSimpArgs false
set_option linter.unusedVariables false
theorem splice_cons {cs : List Value} {o : Nat} {v : Value} {r : List Value} (ho : o + (v :: r).length ≤ cs.length) : splice (cs.set o v) (o + 1) r = splice cs o (v :: r) := by
  unfold splice
  have hlt : o < cs.length := by simp at ho; omega
  have e1 : (cs.set o v).take (o + 1) = cs.take o ++ [v] := by
    rw [List.set_eq_take_append_cons_drop]; simp [hlt]
    rw [List.take_append]; simp [Nat.min_eq_left (Nat.le_of_lt hlt)]
    rw [List.take_take, Nat.min_eq_right (by omega)]
  have e2 : (cs.set o v).drop (o + 1 + r.length) = cs.drop (o + (v :: r).length) := by
    rw [List.drop_set_of_lt (by omega)]; congr 1; simp; omega
  rw [e1, e2]; simp
theorem splice_len {cs vs : List Value} {o : Nat} (h : o + vs.length ≤ cs.length) : (splice cs o vs).length = cs.length := by
  unfold splice; simp; omega
theorem fold_splice (off : Nat) : ∀ (vs : List Value) (i : Nat) (cs : Array Value), off + i + vs.length ≤ cs.size →
    ((vs.zipIdx i).foldl (fun (cs : Array Value) (p : Value × Nat) => cs.setIfInBounds (off + p.2) p.1) cs).toList = splice cs.toList (off + i) vs
  | [], i, cs, h => by simp [splice]
  | v :: r, i, cs, h => by
    simp only [List.zipIdx_cons, List.foldl_cons]
    rw [fold_splice off r (i + 1) _ (by simp at h ⊢; omega)]
    rw [Array.toList_setIfInBounds, show off + (i + 1) = off + i + 1 by omega]
    exact splice_cons (by simpa using h)
def PsR (ρ : RM) (ps ps' : List (Nat × Value)) : Prop := ps.map (·.1) = ps'.map (·.1) ∧ VRs ρ (ps.map (·.2)) (ps'.map (·.2))
section
variable {P : Program} {E : XE P} {ρ : RM} {h : XH} {l : FX} {l' : Fr} {w0 w : World} {W : World → Prop} {rd : Rd} {mp : Nat → Bool}
theorem fill_sound {place : Nat → Option (Nat × Nat)} : ∀ {ps ps' : List (Nat × Value)} {cs cs' r : List Value}, PsR ρ ps ps' → VRs ρ cs cs' → fillX place cs ps = some r →
    ∃ r', VRs ρ r r' ∧ Instr.fill place cs'.toArray ps' = some r'.toArray
  | [], ps', cs, cs', r, hp, hc, hf => by
    have : ps' = [] := by have := hp.1; simpa using this.symm
    subst this
    simp only [fillX, Option.some.injEq] at hf
    subst hf
    exact ⟨cs', hc, rfl⟩
  | (i, v) :: ps, [], cs, cs', r, hp, hc, hf => by have := hp.1; simp at this
  | (i, v) :: ps, (i', v') :: ps', cs, cs', r, hp, hc, hf => by
    obtain ⟨h1, h2⟩ := hp
    simp only [List.map_cons, List.cons.injEq] at h1
    obtain ⟨e, h1⟩ := h1
    subst e
    simp only [List.map_cons] at h2
    cases h2 with
    | cons hv h2 =>
    simp only [fillX] at hf
    unfold Instr.fill
    split at hf
    · cases hf
    · rename_i off size hpl
      simp only [hpl]
      split at hf
      · rename_i hok
        simp only [Bool.and_eq_true, Nat.beq_eq, Nat.ble_eq] at hok
        have hvc := hv.cells
        have hlen : v'.cells.toList.length = v.cells.toList.length := hvc.length
        have hcl := hc.length
        have hs : v'.cells.size = size := by rw [← Array.length_toList, hlen]; exact hok.1
        have hb : off + v'.cells.size ≤ cs'.length := by rw [← Array.length_toList, hlen, hcl]; exact hok.2
        have hcond : (decide (v'.cells.size ≠ size) || decide (off + v'.cells.size > cs'.toArray.size)) = false := by
          simp [hs]; rw [← hs]; exact hb
        have e1 : (Array.foldl (fun (cs : Array Value) (x : Value × Nat) => cs.setIfInBounds (off + x.2) x.1) cs'.toArray v'.cells.zipIdx) = (splice cs' off v'.cells.toList).toArray := by
          apply Array.toList_inj.1
          rw [← Array.foldl_toList, Array.toList_zipIdx]
          have := fold_splice off v'.cells.toList 0 cs'.toArray (by simpa using hb)
          simpa using this
        obtain ⟨r', g1, g2⟩ := fill_sound (place := place) ⟨h1, h2⟩ (hc.splice off hvc) hf
        refine ⟨r', g1, ?_⟩
        rw [if_neg (by simpa using hcond)]
        rw [← g2, ← e1]
      · cases hf
theorem zero_sound {t : TypeId} {z : List Value} (hz : zeroX P t = some z) : ∃ u, (∀ w, (zeroValue t).run P w = .ok u w) ∧ u.cells.toList = z ∧ z.all plain1 = true := by
  unfold zeroX at hz
  split at hz
  · rename_i v hv
    split at hz
    · rename_i hp
      cases hz
      refine ⟨v, fun w => ?_, rfl, hp⟩
      cases hinf : P.info? t with
      | none => rw [hinf] at hv; cases hv
      | some inf => rw [hinf] at hv; simp only [Option.bind_some] at hv; simp [zeroValue, typeInfo, hinf, hv]
    · cases hz
  · cases hz
theorem places_run : ∀ {fs : List Field} {pl : List (Nat × Nat)}, placesX P fs = some pl → (fs.mapM (fun (f : Field) => (do pure (f.offset, ← sizeOf f.type) : Sem (Nat × Nat)))).run P w = Result.ok pl w
  | [], pl, hp => by simp only [placesX, Option.some.injEq] at hp; subst hp; simp
  | f :: r, pl, hp => by
    simp only [placesX] at hp
    split at hp
    · rename_i s ps h1 h2
      cases hp
      rw [List.mapM_cons]
      simp only [Sem.run_bind, size_run h1 w, Result.andThen, Sem.run_pure, places_run h2]
    · cases hp
theorem partsX_sound (H : Rel ρ h w0 w) (hl : FR ρ l l') : ∀ {xs : List (Nat × Operand)} {vs : List (Nat × Value)}, partsX h l xs = some vs → PsR ρ vs (xs.map fun p => (p.1, ev l' p.2))
  | [], vs, hx => by simp only [partsX, Option.some.injEq] at hx; subst hx; exact ⟨rfl, .nil⟩
  | (i, x) :: r, vs, hx => by
    simp only [partsX] at hx
    split at hx
    · rename_i v us h1 h2
      cases hx
      obtain ⟨a1, _⟩ := evX_sound H hl h1
      obtain ⟨b1, b2⟩ := partsX_sound H hl h2
      exact ⟨by simp [b1], .cons a1 b2⟩
    · cases hx
theorem build_sound {t : TypeId} {ps : List (Nat × Value)} {ps' : Array (Nat × Value)} {v : Value} (hp : PsR ρ ps ps'.toList) (hb : buildX P t ps = some v) : ∃ v', VR ρ v v' ∧ ∀ w, (Instr.build t ps').run P w = .ok v' w := by
  unfold buildX at hb
  split at hb
  · rename_i z fs hz hu
    obtain ⟨u, h1, h2, h3⟩ := zero_sound hz
    split at hb
    · rename_i pl hpl
      split at hb
      · rename_i cs hf
        cases hb
        obtain ⟨r', g1, g2⟩ := fill_sound hp (VRs.plain h3) hf
        refine ⟨.agg r'.toArray, .agg (by simpa using g1), fun w => ?_⟩
        have hm : (fs.mapM (fun (f : Field) => (do pure (f.offset, ← sizeOf f.type) : Sem (Nat × Nat)))).run P w = Result.ok pl.toArray w := by
          rw [show fs = fs.toList.toArray by simp, List.mapM_toArray, Sem.run_map, places_run hpl]; rfl
        have hz' : u.cells = z.toArray := by rw [← h2]
        simp only [Instr.build, Sem.run_bind, h1 w, Result.andThen, underlying_run hu w, hm, hz']
        have e : (fun (x : Nat) => pl.toArray[x]?) = (fun (i : Nat) => pl[i]?) := by funext x; simp
        rw [e, g2]
        rfl
      · cases hb
    · cases hb
  · rename_i z n e hz hu
    obtain ⟨u, h1, h2, h3⟩ := zero_sound hz
    split at hb
    · rename_i s hs
      split at hb
      · rename_i cs hf
        cases hb
        obtain ⟨r', g1, g2⟩ := fill_sound hp (VRs.plain h3) hf
        refine ⟨.agg r'.toArray, .agg (by simpa using g1), fun w => ?_⟩
        have hz' : u.cells = z.toArray := by rw [← h2]
        simp only [Instr.build, Sem.run_bind, h1 w, Result.andThen, underlying_run hu w, size_run hs w, hz']
        rw [g2]
        rfl
      · cases hb
    · cases hb
  · cases hb
end
end Go.Vc

namespace Go.Vc
set_option linter.unusedSimpArgs false
set_option linter.unusedVariables false
section
variable {P : Program} {E : XE P} {ρ : RM} {h : XH} {l : FX} {l' : Fr} {w0 w : World} {W : World → Prop} {rd : Rd} {mp : Nat → Bool}
theorem natX_sound {d n : Nat} {o : Option Value} (h : natX d o = some n) : (o = none ∧ n = d) ∨ ∃ k, o = some (.int k n) := by
  unfold natX at h
  split at h
  · cases h; exact .inl ⟨rfl, rfl⟩
  · rename_i k m; cases h; exact .inr ⟨k, rfl⟩
  · cases h
theorem slice_sound {t : TypeId} {lo hi : Option Operand} {a b : List Value} {x x' v : Value} (hx : VR ρ x x') (ha : VRs ρ a (lo.toList.map (ev l'))) (hb : VRs ρ b (hi.toList.map (ev l'))) (hv : sliceX P t a.head? b.head? x = some v) :
    ∃ v', VR ρ v v' ∧ ∀ w, (Instr.sliceAt t x' (lo.map (ev l')) (hi.map (ev l')) none).run P w = .ok v' w := by
  have opt : ∀ {o : Option Operand} {a : List Value} {d n : Nat}, VRs ρ a (o.toList.map (ev l')) → natX d a.head? = some n → (o.map (ev l') = none ∧ n = d) ∨ ∃ k, o.map (ev l') = some (.int k n) := by
    intro o a d n hr hn
    cases o with
    | none => cases hr; rcases natX_sound hn with ⟨_, e⟩ | ⟨k, e⟩; exact .inl ⟨rfl, e⟩; cases e
    | some y =>
      simp only [Option.toList_some, List.map_cons, List.map_nil] at hr
      generalize hzz : ev l' y = z at hr
      cases hr with
      | cons h1 h2 =>
        rcases natX_sound hn with ⟨e, _⟩ | ⟨k, e⟩
        · cases e
        · simp only [List.head?_cons, Option.some.injEq] at e
          subst e
          exact .inr ⟨k, by have e := h1.of_plain rfl; simp only [Option.map_some]; rw [hzz, e]⟩
  unfold sliceX at hv
  split at hv
  · rename_i k o n c
    cases hx with
    | plain hp => simp [plain1] at hp
    | @slice _ _ _ _ bb cc hk hle =>
    split at hv
    · rename_i e hu
      split at hv
      · rename_i s aa b' hs hna hnb
        have hA := opt ha hna
        have hB := opt hb hnb
        obtain ⟨hi1, hi2⟩ := size_cells hs
        have hgo : ∀ v', aa ≤ b' → b' ≤ n → v' = .slice (cutBase (some ⟨bb, o, none⟩) aa (cc - c) s) (b' - aa) (cc - c - aa) → ∀ w, (Instr.sliceAt t (.slice (some ⟨bb, o, none⟩) n (cc - c)) (lo.map (ev l')) (hi.map (ev l')) none).run P w = .ok v' w := by
          intro v' h1 h2 hv' w
          subst hv'
          have hc0 : cutBase (some ⟨bb, o, none⟩) 0 (cc - c) s = some ⟨bb, o, none⟩ := by
            unfold cutBase; split
            · rfl
            · simp [addr_add]
          by_cases hboth : lo.map (ev l') = none ∧ hi.map (ev l') = none
          · obtain ⟨e1, e2⟩ := hboth
            rcases hA with ⟨_, rfl⟩ | ⟨k1, e⟩
            · rcases hB with ⟨_, rfl⟩ | ⟨k2, e⟩
              · rw [e1, e2, hc0]
                have hle' : b' ≤ cc - c := by omega
                simp [Instr.sliceAt, Instr.slice, Instr.sliceBounds, Instr.sliceBound, asIntOf, underlying, hu, size_run hs, hle', addr_add]
              · rw [e2] at e; cases e
            · rw [e1] at e; cases e
          · have hvc : sliceVC P t (.slice (some ⟨bb, o, none⟩) n (cc - c)) (lo.map (ev l')) (hi.map (ev l')) none (fun u => u = .slice (cutBase (some ⟨bb, o, none⟩) aa (cc - c) s) (b' - aa) (cc - c - aa)) := by
              unfold sliceVC
              simp only [hu]
              refine gd_iff.2 ⟨hi1, ?_⟩
              rw [hi2]
              rcases hA with ⟨e1, rfl⟩ | ⟨k1, e1⟩
              · rcases hB with ⟨e2, rfl⟩ | ⟨k2, e2⟩
                · exact (hboth ⟨e1, e2⟩).elim
                · rw [e1, e2]
                  refine ⟨by omega, by omega, by simp⟩
              · rcases hB with ⟨e2, rfl⟩ | ⟨k2, e2⟩
                · rw [e1, e2]
                  refine ⟨by omega, by omega, by simp⟩
                · rw [e1, e2]
                  refine ⟨by omega, by omega, by omega, by simp; omega, by simp⟩
            obtain ⟨u, hu1, hu2⟩ := sliceVC_sound hvc
            subst hu2
            exact hu1 w
        split at hv
        · rename_i hok
          cases hv
          simp only [Bool.and_eq_true, Nat.blt, Nat.ble_eq] at hok
          refine ⟨_, .slice (o := o + aa * s) hk (by omega), hgo _ (by omega) (by omega) ?_⟩
          congr 1
          · unfold cutBase; rw [if_neg (by omega)]; simp [addr_add]
          · omega
        · rename_i hok
          cases hv
          simp only [Bool.and_eq_true, Nat.beq_eq, Nat.ble_eq] at hok
          refine ⟨_, ?_, hgo _ (by omega) (by omega) rfl⟩
          rw [show b' - aa = 0 by omega]
          exact .empty
        · cases hv
      · cases hv
    · cases hv
  · cases hv

theorem still_soundX (hE : E.Ok) (H : Rel ρ h w0 w) (hl : FR ρ l l') (hM : MemR rd ρ W) (hMp : MapR mp ρ W) {o : Oper} {v : Value} (hv : stillX P E rd mp o l h = some v) : ∃ v', VR ρ v v' ∧ Comes P o l' W v' := by
  unfold stillX at hv
  split at hv
  · -- move
    rename_i x ho
    exact ⟨_, (evX_sound H hl hv).1, fun w _ => by unfold execOp; simp only [ho]; rfl⟩
  · rename_i x ho
    exact ⟨_, (evX_sound H hl hv).1, fun w _ => by unfold execOp; simp only [ho]; rfl⟩
  · -- pick
    rename_i c a b ho
    split at hv
    · rename_i hc
      have e := (evX_sound H hl hc).1.of_plain rfl
      exact ⟨_, (evX_sound H hl hv).1, fun w _ => by unfold execOp; simp only [ho, e]; simp [asBool]⟩
    · rename_i hc
      have e := (evX_sound H hl hc).1.of_plain rfl
      exact ⟨_, (evX_sound H hl hv).1, fun w _ => by unfold execOp; simp only [ho, e]; simp [asBool]⟩
    · cases hv
  · -- load
    rename_i t a ho
    split at hv
    · rename_i p hp
      obtain ⟨v', h1, h2⟩ := load_sound hM (evX_sound H hl hp).1 hv
      exact ⟨v', h1, comes_of (by unfold execOp; simp only [ho]) h2⟩
    · cases hv
  · -- nilCheck
    rename_i x ho
    split at hv
    · rename_i u hu
      have gu := (evX_sound H hl hu).1
      unfold nilX at hv
      split at hv
      · rename_i a
        cases hv
        generalize hz : ev l' x = z at gu
        cases gu with
        | plain hp => simp [plain1] at hp
        | ptr hk => exact ⟨_, .ptr hk, fun w _ => by unfold execOp; simp only [ho, hz]; rfl⟩
      · rename_i t y
        cases hv
        generalize hz : ev l' x = z at gu
        cases gu with
        | plain hp => simp [plain1] at hp
        | iface hk => exact ⟨_, .iface hk, fun w _ => by unfold execOp; simp only [ho, hz]; rfl⟩
      · rename_i f a b
        cases hv
        generalize hz : ev l' x = z at gu
        cases gu with
        | plain hp => simp [plain1] at hp
        | func h1 h2 => exact ⟨_, .func h1 h2, fun w _ => by unfold execOp; simp only [ho, hz]; rfl⟩
      · rename_i m a b
        split at hv
        · rename_i t k ha hb
          split at hv
          · rename_i hnm
            cases hv
            generalize hz : ev l' x = z at gu
            cases gu with
            | plain hp => simp [plain1] at hp
            | @func _ _ a' _ b' h1 h2 =>
              rw [ha] at h1; rw [hb] at h2
              have hvr : VR ρ (.func (.method m) a b) (.func (.method m) a' b') := .func (by rw [ha]; exact h1) (by rw [hb]; exact h2)
              generalize haa : a'.toList = al at h1
              generalize hbb : b'.toList = bl at h2
              cases h1 with
              | cons i1 i2 =>
                cases i2
                cases h2
                cases i1 with
                | plain hp => simp [plain1] at hp
                | iface j =>
                  cases j with
                  | plain hp => simp [plain1] at hp
                  | @ptr _ _ bk c hk =>
                    have ea : a' = #[.iface t (.pointer (some ⟨bk, 0, none⟩))] := Array.toList_inj.1 haa
                    have eb : b' = #[] := Array.toList_inj.1 hbb
                    subst ea; subst eb
                    refine ⟨_, hvr, fun w _ => ?_⟩
                    have := hE.nm t m hnm bk w
                    unfold execOp
                    simp only [ho, hz]
                    unfold nilMethS at this
                    simp only [List.getElem?_toArray, List.getElem?_cons_zero] at this ⊢
                    revert this
                    simp only [Sem.run_bind]
                    cases hna : (program.run P w : Result Program) with
                    | ok p w1 =>
                      simp only [Result.andThen]
                      cases hnb : (nilAhead (p.types.size + Made.depth) t (.pointer (some ⟨bk, 0, none⟩)) m).run P w1 with
                      | ok c2 w2 =>
                        simp only [Result.andThen]
                        by_cases hc2 : (c2 != some false) = true
                        · rw [if_pos hc2]
                          intro hh
                          simp [stuck, Sem.run] at hh
                        · rw [if_neg hc2, if_neg hc2]
                          intro hh
                          simp only [Sem.run_pure, Result.andThen] at hh ⊢
                          injection hh with e1 e2
                          rw [e2]
                      | halt a b => intro hh; simp [Result.andThen] at hh
                    | halt a b => intro hh; simp [Result.andThen] at hh
          · cases hv
        · cases hv
      · cases hv
    · cases hv
  · -- indexAddr
    rename_i t x i ho
    split at hv
    · rename_i u y hu hy
      have gu := (evX_sound H hl hu).1
      have gy := (evX_sound H hl hy).1
      unfold indexAddrX at hv
      split at hv
      · rename_i q i
        have hi := gy.of_plain rfl
        split at hv
        · rename_i yv n e k o' hund
          split at hv
          · rename_i s hb hs
            cases hv
            obtain ⟨hi1, hi2⟩ := size_cells hs
            obtain ⟨b1, b2⟩ := inB_iff hb
            generalize hz : ev l' x = z at gu
            cases gu with
            | plain hp => simp [plain1] at hp
            | @ptr _ _ bb c hk =>
              have hvc : indexVC P t (.pointer (some ⟨bb, o', none⟩)) (.int q i) (fun u => u = .pointer (some ⟨bb, o' + i.toNat * s, none⟩)) := by
                unfold indexVC
                simp only [hund]
                exact gd_iff.2 ⟨hi1, b1, b2, by simp [hi2]⟩
              obtain ⟨u, h1, rfl⟩ := indexVC_sound hvc
              exact ⟨_, .ptr hk, comes_of (by unfold execOp; simp only [ho, hz, hi]) fun w _ => h1 w⟩
          · cases hv
        · rename_i yv e k o' n cq hund
          split at hv
          · rename_i s hb hs
            cases hv
            obtain ⟨hi1, hi2⟩ := size_cells hs
            obtain ⟨b1, b2⟩ := inB_iff hb
            generalize hz : ev l' x = z at gu
            cases gu with
            | plain hp => simp [plain1] at hp
            | @slice _ _ _ _ bb c hk hle =>
              have hvc : indexVC P t (.slice (some ⟨bb, o', none⟩) n (c - cq)) (.int q i) (fun u => u = .pointer (some ⟨bb, o' + i.toNat * s, none⟩)) := by
                unfold indexVC
                simp only [hund]
                exact gd_iff.2 ⟨hi1, b1, b2, by simp [hi2]⟩
              obtain ⟨u, h1, rfl⟩ := indexVC_sound hvc
              exact ⟨_, .ptr hk, comes_of (by unfold execOp; simp only [ho, hz, hi]) fun w _ => h1 w⟩
          · cases hv
        · cases hv
      · cases hv
    · cases hv
  · -- index
    rename_i t x i ho
    split at hv
    · rename_i cs0 y hu hy
      have gu := (evX_sound H hl hu).1
      have gy := (evX_sound H hl hy).1
      unfold indexX at hv
      split at hv
      · rename_i cs q i he
        have hi := gy.of_plain rfl
        split at hv
        · rename_i n e hund
          split at hv
          · rename_i s hb hs
            obtain ⟨b1, b2⟩ := inB_iff hb
            generalize hz : ev l' x = z at gu
            cases gu with
            | plain hp => simp [plain1] at hp
            | @agg _ cs' hc =>
              first | (injection he with he; subst he) | skip
              obtain ⟨v', h1, h2⟩ := part_sound hc hv
              refine ⟨v', h1, comes_of (s := Instr.index t (.agg cs') (.int q i)) (by unfold execOp; simp only [ho, hz, hi]) fun w _ => ?_⟩
              have := h2 w
              simp only [Array.toArray_toList] at this
              simp only [Instr.index, asIntOf, Sem.run_bind, Sem.run_pure, Result.andThen, underlying_run hund w, if_pos (And.intro b1 b2), size_run hs w]
              exact this
          · cases hv
        · cases hv
      · cases hv
    · rename_i s k n hx hi
      refine pur_sound hv ?_
      have e1 := same_ev H hl hx rfl
      have e2 := same_ev H hl hi rfl
      unfold execOp
      simp only [ho, e1, e2]
    · cases hv
  · -- slice
    rename_i t x lo hi ho
    split at hv
    · rename_i s a b hx ha hb
      split at hv
      · rename_i hp
        simp only [Bool.and_eq_true] at hp
        refine pur_sound hv ?_
        have e1 := same_ev H hl hx rfl
        have e2 := same_evs H hl ha hp.1
        have e3 := same_evs H hl hb hp.2
        have o2 : lo.map (evF l) = lo.map (ev l') := by cases lo <;> simp at e2 ⊢; exact e2
        have o3 : hi.map (evF l) = hi.map (ev l') := by cases hi <;> simp at e3 ⊢; exact e3
        unfold execOp
        simp only [ho, e1, o2, o3, Option.map_none]
      · cases hv
    · rename_i u a b hns hx ha hb
      obtain ⟨v', h1, h2⟩ := slice_sound (evX_sound H hl hx).1 (evsX_sound H hl ha).1 (evsX_sound H hl hb).1 hv
      exact ⟨v', h1, comes_of (by unfold execOp; simp only [ho, Option.map_none]) fun w _ => h2 w⟩
    · cases hv
  · -- fieldAddr
    rename_i t x f ho
    split at hv
    · rename_i u hu
      have gu := (evX_sound H hl hu).1
      unfold fieldAddrX at hv
      split at hv
      · rename_i k o'
        split at hv
        · rename_i fs hund
          split at hv
          · rename_i fd hfd
            split at hv
            · rename_i sz hs
              cases hv
              generalize hz : ev l' x = z at gu
              cases gu with
              | plain hp => simp [plain1] at hp
              | @ptr _ _ bb c hk =>
                refine ⟨_, .ptr hk, comes_of (s := Instr.fieldAt t (.pointer (some ⟨bb, o', none⟩)) f) (by unfold execOp; simp only [ho, hz]) fun w _ => ?_⟩
                simp [Instr.fieldAt, underlying, hund, hfd, Instr.sureAddr, fieldPlace, size_run hs, addr_add]
            · cases hv
          · cases hv
        · cases hv
      · cases hv
    · cases hv
  · -- field
    rename_i t x f ho
    split at hv
    · rename_i u hu
      have gu := (evX_sound H hl hu).1
      unfold fieldX at hv
      split at hv
      · rename_i cs
        split at hv
        · rename_i fs hund
          split at hv
          · rename_i fd hfd
            generalize hz : ev l' x = z at gu
            cases gu with
            | plain hp => simp [plain1] at hp
            | @agg _ cs' hc =>
              obtain ⟨v', h1, h2⟩ := part_sound hc hv
              refine ⟨v', h1, comes_of (s := Instr.field t (.agg cs') f) (by unfold execOp; simp only [ho, hz]) fun w _ => ?_⟩
              have := h2 w
              simp only [Array.toArray_toList] at this
              simp only [Instr.field, Sem.run_bind, underlying_run hund w, Result.andThen, hfd, asAgg, Sem.run_pure]
              exact this
          · cases hv
        · cases hv
      · cases hv
    · cases hv
  · -- binOp
    rename_i op t x y u ho
    split at hv
    · rename_i a b ha hb
      exact bin_soundX H hl ho ha hb hv
    · cases hv
  · -- unOp
    rename_i q t x ho
    split at hv
    · rename_i a ha
      split at hv
      · rename_i hp
        refine pur_sound hv ?_
        have e1 := same_ev H hl ha (plain1V hp)
        unfold execOp
        simp only [ho, e1]
      · cases hv
    · cases hv
  · -- convert
    rename_i s d x ho
    split at hv
    · rename_i a ha
      split at hv
      · rename_i hp
        refine pur_sound hv ?_
        have e1 := same_ev H hl ha (plain1V hp)
        unfold execOp
        simp only [ho, e1]
      · cases hv
    · cases hv
  · -- makeInterface
    rename_i t x ho
    split at hv
    · cases hv
    · rename_i d u hnd hund hu
      cases hv
      have gu := (evX_sound H hl hu).1
      refine ⟨_, .iface gu, comes_of (s := Instr.makeInterface t (ev l' x)) (by unfold execOp; simp only [ho]) fun w _ => ?_⟩
      unfold Instr.makeInterface
      simp only [Sem.run_bind, underlying_run hund w, Result.andThen]
      rfl
    · cases hv
  · -- makeFunc
    rename_i f a b ho
    split at hv
    · rename_i xs ys ha hb
      cases hv
      have ga := (evsX_sound H hl ha).1
      have gb := (evsX_sound H hl hb).1
      exact ⟨.func f (a.map (ev l')) (b.map (ev l')), .func (by simpa using ga) (by simpa using gb), comes_of (s := Instr.makeFunc f (a.map (ev l')) (b.map (ev l'))) (by unfold execOp; simp only [ho]) fun w _ => rfl⟩
    · cases hv
  · -- extract
    rename_i x i ho
    split at hv
    · rename_i u hu
      have gu := (evX_sound H hl hu).1
      unfold extractX at hv
      split at hv
      · rename_i vs
        generalize hz : ev l' x = z at gu
        cases gu with
        | plain hp => simp [plain1] at hp
        | @tuple _ vs' hc =>
          obtain ⟨v', h1, h2⟩ := hc.get (i := i) (x := v) (by simpa using hv)
          refine ⟨v', h2, comes_of (s := Instr.extract (.tuple vs') i) (by unfold execOp; simp only [ho, hz]) fun w _ => ?_⟩
          have : vs'[i]? = some v' := by simpa using h1
          simp [Instr.extract, this]
      · cases hv
    · cases hv
  · -- build
    rename_i t ps ho
    split at hv
    · rename_i vs hp
      have hp := partsX_sound H hl hp
      obtain ⟨v', h1, h2⟩ := build_sound (ps' := ps.map fun p => (p.1, ev l' p.2)) (by simpa using hp) hv
      exact ⟨v', h1, comes_of (by unfold execOp; simp only [ho]) fun w _ => h2 w⟩
    · cases hv
  · -- lookup
    rename_i t x i ok ho
    split at hv
    · rename_i m k hm hk
      have gm := (evX_sound H hl hm).1
      have gk := (evX_sound H hl hk).1
      unfold lookX at hv
      split at hv
      · rename_i kt e r hund
        have go : ∀ d, P.underlying kt = some d → ((d = .string ∧ ∃ s, ev l' i = .string s) ∨ ((∃ q, d = .int q) ∧ ∃ q n, ev l' i = .int q n)) → mp r = true → lookX.fin P ok e = some v → ∃ v', VR ρ v v' ∧ Comes P o l' W v' := by
          intro d hd hi hmr hf
          obtain ⟨b, c, e1, e2⟩ := hMp _ hmr
          generalize hz : ev l' x = z at gm
          cases gm with
          | plain hp => simp [plain1] at hp
          | map e3 =>
            rw [e1] at e3
            cases e3
            have hpl : plainV v = true := by
              unfold lookX.fin at hf
              split at hf
              · split at hf
                · split at hf
                  · rename_i hp1
                    cases hf
                    show ([_, Value.bool false].all plain1) = true
                    simp only [List.all_cons, hp1, List.all_nil]; rfl
                  · cases hf
                · rename_i hp; cases hf; exact hp
                · cases hf
              · cases hf
            refine ⟨v, .plainV hpl, comes_of (s := Instr.lookup t (.map (some b)) (ev l' i) ok) (by unfold execOp; simp only [ho, hz]) fun w hw => ?_⟩
            obtain ⟨n, hb⟩ := e2 w hw
            exact (lookFin hund hd hi hf hb).2
        split at hv
        · rename_i s hmr hd
          exact go _ hd (.inl ⟨rfl, s, gk.of_plain rfl⟩) hmr hv
        · rename_i q q' n hmr hd
          exact go _ hd (.inr ⟨⟨q, rfl⟩, q', n, gk.of_plain rfl⟩) hmr hv
        · cases hv
      · cases hv
    · cases hv
  · -- len
    rename_i args ts ho
    split at hv
    · rename_i u hu
      have hus := evsX_sound H hl hu
      unfold lenX at hv
      split at hv
      · rename_i a n c
        split at hv
        · rename_i t r hts
          split at hv
          · rename_i e hund
            cases hv
            have h1 := hus.1
            generalize hzz : args.toList.map (ev l') = zs at h1
            cases h1 with
            | cons h1 h2 =>
              cases h2
              have hargs : args.map (ev l') = #[_] := Array.toList_inj.1 (by simpa using hzz)
              have ht0 : ts[0]? = some t := by rw [← Array.getElem?_toList, hts]; rfl
              have hlen : ∃ a' c', args.map (ev l') = #[.slice a' n c'] := by
                cases h1 with
                | plain _ => exact ⟨_, _, hargs⟩
                | slice _ _ => exact ⟨_, _, hargs⟩
                | empty => exact ⟨_, _, hargs⟩
              obtain ⟨a', c', hargs⟩ := hlen
              refine ⟨_, .plain rfl, fun w _ => ?_⟩
              unfold execOp
              simp only [ho, resolve, invoke, builtin, hargs]
              simp [Builtin.len_, ht0, underlying, hund, goInt]
          · cases hv
        · cases hv
      · rename_i s
        refine pur_sound hv ?_
        have e1 := map_arr (same_evs H hl hu rfl)
        unfold execOp
        simp only [ho, resolve, e1]
      · cases hv
    · cases hv
  · rename_i args ts ho
    split at hv
    · rename_i vs hu
      split at hv
      · rename_i hp
        refine pur_sound hv ?_
        have e1 := map_arr (same_evs H hl hu hp)
        unfold execOp
        simp only [ho, resolve, e1]
      · cases hv
    · cases hv
  · rename_i args ts ho
    split at hv
    · rename_i vs hu
      split at hv
      · rename_i hp
        refine pur_sound hv ?_
        have e1 := map_arr (same_evs H hl hu hp)
        unfold execOp
        simp only [ho, resolve, e1]
      · cases hv
    · cases hv
  · cases hv
end
end Go.Vc

namespace Go.Vc
set_option linter.unusedSimpArgs false
set_option linter.unusedVariables false
theorem get_lt {α : Type} : ∀ {d k : Nat} {t : T8 α} {x : α}, T8.get d k t = some x → k < 8 ^ d
  | 0, k, t, x, h => by
    rw [T8.get_zero] at h
    by_cases hk : k = 0
    · subst hk; decide
    · rw [if_neg hk] at h; cases h
  | d + 1, k, t, x, h => by
    rw [T8.get_succ] at h
    have := get_lt h
    rw [Nat.pow_succ, ← Nat.div_lt_iff_lt_mul (by decide)]; exact this
theorem XH.get_put {h : XH} {k j : Nat} {x : XO} (hk : k < 262144) : (h.put k x).get j = if j = k then some x else h.get j := by
  unfold XH.get XH.put
  simp only
  rw [get_set]
  by_cases e : j = k
  · subst e; rw [if_pos ⟨rfl, hk⟩, if_pos rfl]; rfl
  · rw [if_neg (fun a => e a.1), if_neg e]
theorem XH.get_small {h : XH} {k : Nat} {x : XO} (hg : h.get k = some x) : k < 262144 := get_lt (d := 6) hg
theorem XH.new_sound {h h' : XH} {x : XO} {k : Nat} (hn : h.new x = some (k, h')) : k < 262144 ∧ x0 ≤ k ∧ h.get k = none ∧ ∀ j, h'.get j = if j = k then some x else h.get j := by
  unfold XH.new at hn
  split at hn
  · rename_i hc
    cases hn
    simp only [Bool.and_eq_true, Nat.blt, Nat.ble_eq, Option.isNone_iff_eq_none] at hc
    refine ⟨hc.1.1, hc.1.2, hc.2, fun j => ?_⟩
    unfold XH.get
    simp only
    rw [get_set]
    by_cases e : j = h.nx
    · subst e; rw [if_pos ⟨rfl, hc.1.1⟩, if_pos rfl]; rfl
    · rw [if_neg (fun a => e a.1), if_neg e]
  · cases hn
def RM.put (ρ : RM) (k : Nat) (p : Nat × Nat) : RM := fun i => if i = k then some p else ρ i
theorem RM.put_le {ρ : RM} {k : Nat} {p : Nat × Nat} (hk : ρ k = none) : RM.le ρ (ρ.put k p) := fun i q hi => by
  unfold RM.put
  by_cases e : i = k
  · subst e; rw [hk] at hi; cases hi
  · rw [if_neg e]; exact hi
theorem RM.put_self {ρ : RM} {k : Nat} {p : Nat × Nat} : ρ.put k p k = some p := by simp [RM.put]
theorem XObj.mono {ρ ρ' : RM} (hl : RM.le ρ ρ') {w w' : World} {b c : Nat} {x : XO} (hb : w'.heap[b]? = w.heap[b]?) (hx : XObj ρ w b c x) : XObj ρ' w' b c x := by
  cases x with
  | cells t ow cs => obtain ⟨cs', tl, h1, h2, h3⟩ := hx; exact ⟨cs', tl, by rw [hb]; exact h1, h2.mono hl, h3⟩
  | ro cs => obtain ⟨cs', h1, h2⟩ := hx; exact ⟨cs', h1.mono hl, fun o v hv => by have := h2 o v hv; unfold World.cell? at this ⊢; simp only [hb]; exact this⟩
  | map => obtain ⟨n, h1⟩ := hx; exact ⟨n, by rw [hb]; exact h1⟩
  | siter s p => simp only [XObj] at hx ⊢; rw [hb]; exact hx
  | miter m => obtain ⟨bm, cm, s, h1, h2⟩ := hx; exact ⟨bm, cm, s, hl _ _ h1, by rw [hb]; exact h2⟩
  | dead => trivial
section
variable {P : Program} {E : XE P} {ρ : RM} {h h' : XH} {l : FX} {l' : Fr} {w0 w w' : World} {W : World → Prop} {rd : Rd} {mp : Nat → Bool}
theorem Rel.heapEq (H : Rel ρ h w0 w) (hc : Ch [] w w') : Rel ρ h w0 w' where
  ch := H.ch.trans0 hc
  obj := fun k x hk => by
    obtain ⟨b, c, h1, h2⟩ := H.obj k x hk
    exact ⟨b, c, h1, h2.mono (RM.le_refl _) (hc.block b (H.lt _ _ _ h1) (by simp))⟩
  inj := H.inj
  dom := H.dom
  own := H.own
  lt := fun k b c h => Nat.lt_of_lt_of_le (H.lt k b c h) hc.size
  glob := H.glob
theorem Rel.nxOf (H : Rel ρ h w0 w) {h2 : XH} (he : ∀ k, h2.get k = h.get k) : Rel ρ h2 w0 w where
  ch := H.ch
  obj := fun k x hk => H.obj k x (by rw [← he]; exact hk)
  inj := fun k k' x x' b c c' h1 h2 => H.inj k k' x x' b c c' (by rw [← he]; exact h1) (by rw [← he]; exact h2)
  dom := fun k hk => H.dom k (by rw [← he]; exact hk)
  own := H.own
  lt := H.lt
  glob := H.glob
/-- A new block. -/
theorem Rel.new (H : Rel ρ h w0 w) {x : XO} {k c : Nat} {o : Obj} (hn : h.new x = some (k, h')) (hx : XObj (ρ.put k (w.heap.size, c)) (w.alloc o) w.heap.size c x) :
    RM.le ρ (ρ.put k (w.heap.size, c)) ∧ Rel (ρ.put k (w.heap.size, c)) h' w0 (w.alloc o) := by
  obtain ⟨h1, h2, h3, h4⟩ := XH.new_sound hn
  have hle : RM.le ρ (ρ.put k (w.heap.size, c)) := RM.put_le (H.dom _ h3)
  refine ⟨hle, ?_⟩
  have hc := Ch.alloc w o
  refine ⟨H.ch.trans0 hc, fun j y hj => ?_, fun j j' y y' b c1 c2 hj hj' hy hy' e1 e2 => ?_, fun j hj => ?_, fun j b c1 e1 hj => ?_, fun j b c1 e1 => ?_, fun j b c1 e1 hj => ?_⟩
  · rw [h4] at hj
    by_cases e : j = k
    · subst e
      rw [if_pos rfl] at hj; cases hj
      exact ⟨_, _, RM.put_self, hx⟩
    · rw [if_neg e] at hj
      obtain ⟨b, c1, g1, g2⟩ := H.obj j y hj
      exact ⟨b, c1, hle _ _ g1, g2.mono hle (hc.block b (H.lt _ _ _ g1) (by simp))⟩
  · rw [h4] at hj hj'
    by_cases e : j = k
    · by_cases e' : j' = k
      · rw [e, e']
      · rw [if_neg e'] at hj'
        obtain ⟨b3, c3, g1, _⟩ := H.obj j' y' hj'
        have e3 := hle _ _ g1
        rw [e2] at e3; cases e3
        subst e
        rw [RM.put_self] at e1; cases e1
        exact absurd (H.lt _ _ _ g1) (Nat.lt_irrefl _)
    · rw [if_neg e] at hj
      obtain ⟨b3, c3, g1, _⟩ := H.obj j y hj
      have e3 := hle _ _ g1
      rw [e1] at e3; cases e3
      by_cases e' : j' = k
      · subst e'
        rw [RM.put_self] at e2; cases e2
        exact absurd (H.lt _ _ _ g1) (Nat.lt_irrefl _)
      · rw [if_neg e'] at hj'
        obtain ⟨b4, c4, g2, _⟩ := H.obj j' y' hj'
        have e4 := hle _ _ g2
        rw [e2] at e4; cases e4
        exact H.inj _ _ _ _ _ _ _ hj hj' hy hy' g1 g2
  · rw [h4] at hj
    by_cases e : j = k
    · rw [if_pos e] at hj; cases hj
    · rw [if_neg e] at hj
      unfold RM.put; rw [if_neg e]; exact H.dom _ hj
  · unfold RM.put at e1
    by_cases e : j = k
    · rw [if_pos e] at e1; cases e1; exact H.ch.size
    · rw [if_neg e] at e1; exact H.own _ _ _ e1 hj
  · rw [size_alloc]
    unfold RM.put at e1
    by_cases e : j = k
    · rw [if_pos e] at e1; cases e1; omega
    · rw [if_neg e] at e1; have := H.lt _ _ _ e1; omega
  · unfold RM.put at e1
    by_cases e : j = k
    · omega
    · rw [if_neg e] at e1; exact H.glob _ _ _ e1 hj
/-- A block of its own turns. -/
theorem Rel.turn (H : Rel ρ h w0 w) {k b c : Nat} {x x' : XO} (hk : h.get k = some x) (hx0 : x0 ≤ k) (hnd : x ≠ .dead) (hb : ρ k = some (b, c)) (hc : Ch [b] w w') (hx : XObj ρ w' b c x') : Rel ρ (h.put k x') w0 w' := by
  have hs := XH.get_small hk
  have hown := H.own _ _ _ hb hx0
  refine ⟨H.ch.trans hc fun y hy => by simp at hy; subst hy; exact .inr hown, fun j y hj => ?_, fun j j' y y' b1 c1 c2 hj hj' hy hy' e1 e2 => ?_, fun j hj => ?_, H.own, fun j b1 c1 e1 => Nat.lt_of_lt_of_le (H.lt _ _ _ e1) hc.size, H.glob⟩
  · rw [XH.get_put hs] at hj
    by_cases e : j = k
    · subst e; rw [if_pos rfl] at hj; cases hj; exact ⟨_, _, hb, hx⟩
    · rw [if_neg e] at hj
      obtain ⟨b1, c1, g1, g2⟩ := H.obj j y hj
      refine ⟨b1, c1, g1, ?_⟩
      by_cases hd : y = .dead
      · subst hd; trivial
      · exact g2.mono (RM.le_refl _) (hc.block b1 (H.lt _ _ _ g1) (by simp; intro e3; subst e3; exact e (H.inj _ _ _ _ _ _ _ hj hk hd hnd g1 hb)))
  · rw [XH.get_put hs] at hj hj'
    have f : ∀ i z, (if i = k then some x' else h.get i) = some z → z ≠ .dead → ∃ z', h.get i = some z' ∧ z' ≠ .dead := fun i z hi hz => by
      by_cases e : i = k
      · subst e; exact ⟨x, hk, hnd⟩
      · rw [if_neg e] at hi; exact ⟨z, hi, hz⟩
    obtain ⟨z, i1, i2⟩ := f _ _ hj hy
    obtain ⟨z', i3, i4⟩ := f _ _ hj' hy'
    exact H.inj _ _ _ _ _ _ _ i1 i3 i2 i4 e1 e2
  · rw [XH.get_put hs] at hj
    by_cases e : j = k
    · rw [if_pos e] at hj; cases hj
    · rw [if_neg e] at hj; exact H.dom _ hj
/-- A slice's row grows, in place or anew; it has a new number. -/
theorem Rel.grow (H : Rel ρ h w0 w) {k b c k2 b2 c2 : Nat} {x x' : XO} (hk : h.get k = some x) (hx0 : x0 ≤ k) (hnd : x ≠ .dead) (hb : ρ k = some (b, c)) (hn : (h.put k .dead).new x' = some (k2, h')) (hc : Ch [b] w w')
    (hb2 : b2 = b ∨ w.heap.size ≤ b2) (hlt : b2 < w'.heap.size) (hx : XObj (ρ.put k2 (b2, c2)) w' b2 c2 x') : RM.le ρ (ρ.put k2 (b2, c2)) ∧ Rel (ρ.put k2 (b2, c2)) h' w0 w' := by
  have hs := XH.get_small hk
  have hown := H.own _ _ _ hb hx0
  obtain ⟨h1, h2, h3, h4⟩ := XH.new_sound hn
  have hkk : k2 ≠ k := fun e => by rw [e, XH.get_put hs, if_pos rfl] at h3; cases h3
  have h3' : h.get k2 = none := by rw [XH.get_put hs, if_neg hkk] at h3; exact h3
  have hle : RM.le ρ (ρ.put k2 (b2, c2)) := RM.put_le (H.dom _ h3')
  refine ⟨hle, ?_⟩
  have get' : ∀ j y, h'.get j = some y → y ≠ .dead → (j = k2 ∧ y = x') ∨ (j ≠ k2 ∧ j ≠ k ∧ h.get j = some y) := fun j y hj hy => by
    rw [h4] at hj
    by_cases e : j = k2
    · rw [if_pos e] at hj; cases hj; exact .inl ⟨e, rfl⟩
    · rw [if_neg e, XH.get_put hs] at hj
      by_cases e' : j = k
      · rw [if_pos e'] at hj; cases hj; exact (hy rfl).elim
      · rw [if_neg e'] at hj; exact .inr ⟨e, e', hj⟩
  have other : ∀ j y b1 c1, h.get j = some y → y ≠ .dead → j ≠ k → ρ j = some (b1, c1) → b1 ≠ b ∧ b1 ≠ b2 := fun j y b1 c1 hj hy hjk e1 => by
    have n1 : b1 ≠ b := fun e3 => by subst e3; exact hjk (H.inj _ _ _ _ _ _ _ hj hk hy hnd e1 hb)
    refine ⟨n1, fun e3 => ?_⟩
    rcases hb2 with e4 | e4
    · exact n1 (e3.trans e4)
    · have := H.lt _ _ _ e1; omega
  refine ⟨H.ch.trans hc fun y hy => by simp at hy; subst hy; exact .inr hown, fun j y hj => ?_, fun j j' y y' b1 c1 c3 hj hj' hy hy' e1 e2 => ?_, fun j hj => ?_, fun j b1 c1 e1 hj => ?_, fun j b1 c1 e1 => ?_, fun j b1 c1 e1 hj => ?_⟩
  · by_cases hd : y = .dead
    · subst hd
      rw [h4] at hj
      by_cases e : j = k2
      · rw [if_pos e] at hj
        injection hj with hj
        rw [hj] at hx
        exact ⟨b2, c2, by rw [e]; exact RM.put_self, hx⟩
      · rw [if_neg e, XH.get_put hs] at hj
        by_cases e' : j = k
        · subst e'; exact ⟨b, c, hle _ _ hb, trivial⟩
        · rw [if_neg e'] at hj
          obtain ⟨b1, c1, g1, _⟩ := H.obj j _ hj
          exact ⟨b1, c1, hle _ _ g1, trivial⟩
    · rcases get' j y hj hd with ⟨rfl, rfl⟩ | ⟨e, e', hj'⟩
      · exact ⟨b2, c2, RM.put_self, hx⟩
      · obtain ⟨b1, c1, g1, g2⟩ := H.obj j y hj'
        exact ⟨b1, c1, hle _ _ g1, g2.mono hle (hc.block b1 (H.lt _ _ _ g1) (by simp; exact (other _ _ _ _ hj' hd e' g1).1))⟩
  · have val : ∀ i z b3 c4, h'.get i = some z → z ≠ .dead → ρ.put k2 (b2, c2) i = some (b3, c4) → (i = k2 ∧ b3 = b2) ∨ (i ≠ k2 ∧ i ≠ k ∧ h.get i = some z ∧ ρ i = some (b3, c4)) := fun i z b3 c4 hi hz ei => by
      rcases get' i z hi hz with ⟨rfl, _⟩ | ⟨e, e', hi'⟩
      · rw [RM.put_self] at ei; cases ei; exact .inl ⟨rfl, rfl⟩
      · unfold RM.put at ei; rw [if_neg e] at ei; exact .inr ⟨e, e', hi', ei⟩
    rcases val _ _ _ _ hj hy e1 with ⟨i1, i2⟩ | ⟨i1, i2, i3, i4⟩
    · rcases val _ _ _ _ hj' hy' e2 with ⟨j1, j2⟩ | ⟨j1, j2, j3, j4⟩
      · rw [i1, j1]
      · exact ((other _ _ _ _ j3 hy' j2 j4).2 i2).elim
    · rcases val _ _ _ _ hj' hy' e2 with ⟨j1, j2⟩ | ⟨j1, j2, j3, j4⟩
      · exact ((other _ _ _ _ i3 hy i2 i4).2 j2).elim
      · exact H.inj _ _ _ _ _ _ _ i3 j3 hy hy' i4 j4
  · rw [h4] at hj
    by_cases e : j = k2
    · rw [if_pos e] at hj; cases hj
    · rw [if_neg e, XH.get_put hs] at hj
      by_cases e' : j = k
      · rw [if_pos e'] at hj; cases hj
      · rw [if_neg e'] at hj
        unfold RM.put; rw [if_neg e]; exact H.dom _ hj
  · unfold RM.put at e1
    by_cases e : j = k2
    · rw [if_pos e] at e1; cases e1
      rcases hb2 with e4 | e4
      · rw [e4]; exact hown
      · exact Nat.le_trans H.ch.size e4
    · rw [if_neg e] at e1; exact H.own _ _ _ e1 hj
  · unfold RM.put at e1
    by_cases e : j = k2
    · rw [if_pos e] at e1; cases e1; exact hlt
    · rw [if_neg e] at e1; exact Nat.lt_of_lt_of_le (H.lt _ _ _ e1) hc.size
  · unfold RM.put at e1
    by_cases e : j = k2
    · omega
    · rw [if_neg e] at e1; exact H.glob _ _ _ e1 hj
end
end Go.Vc

namespace Go.Vc
set_option linter.unusedSimpArgs false
set_option linter.unusedVariables false
theorem splice_app {cs tl vs : List Value} {o : Nat} (h : o + vs.length ≤ cs.length) : splice (cs ++ tl) o vs = splice cs o vs ++ tl := by
  unfold splice
  rw [List.take_append_of_le_length (by omega), List.drop_append_of_le_length h]
  simp
theorem putCs_eq {cs vs : List Value} {o : Nat} (h : o + vs.length ≤ cs.length) : putCs cs o vs = splice cs o vs := by
  unfold putCs
  split
  · rename_i v; exact (splice_one (by simp at h; omega)).symm
  · rfl
section
variable {P : Program} {E : XE P} {ρ : RM} {h h' : XH} {l : FX} {l' : Fr} {w0 w w' : World}
theorem VRs.oneAll {v v' : List Value} (hv : VRs ρ v v') (h : v.all one1 = true) : v'.all (fun u => u.oneCell') = true := by
  have := hv.one
  rw [h] at this
  exact this
theorem storeCX_sound (H : Rel ρ h w0 w) {k o b c : Nat} {vs vs' : List Value} (hb : ρ k = some (b, c)) (hv : VRs ρ vs vs') (hs : storeCX h k o vs = some h') :
    room w b o vs'.length ∧ vs'.all (fun u => u.oneCell') = true ∧ Rel ρ h' w0 (w.setCells b o vs') := by
  unfold storeCX at hs
  split at hs
  · rename_i t ow cs hk
    split at hs
    · rename_i hc
      simp only [Bool.and_eq_true, Nat.ble_eq] at hc
      obtain ⟨⟨hx0, hlen⟩, hone⟩ := hc
      have e : putCs cs o vs = splice cs o vs := putCs_eq hlen
      rw [e] at hs
      cases hs
      obtain ⟨b', c', hb', cs', tl, hw, hcs, h0, h1⟩ := H.obj _ _ hk
      rw [hb] at hb'; cases hb'
      have hrow : Row w b t (cs' ++ tl) := hw
      have hl := hv.length
      have hcl := hcs.length
      have hfit : o + vs'.length ≤ cs'.length := by omega
      have hfit2 : o + vs'.length ≤ (cs' ++ tl).length := by simp; omega
      refine ⟨hrow.room hfit2, hv.oneAll hone, ?_⟩
      have hrow' := Row.set vs' o _ w hrow hfit2
      rw [splice_app hfit] at hrow'
      refine H.turn hk hx0 (by simp) hb (Ch.setCells w b o vs') ⟨_, _, hrow', hcs.splice o hv, h0, fun hne => ?_⟩
      have := h1 hne
      rw [← this.1]
      refine ⟨?_, this.2⟩
      simp [splice_len hfit]
    · cases hs
  · cases hs
theorem storeX_sound (H : Rel ρ h w0 w) {t : TypeId} {a a' v v' : Value} (ha : VR ρ a a') (hv : VR ρ v v') (hs : storeX P h t a v = some h') : ∃ w', (Instr.storeAt t a' v').run P w = .ok () w' ∧ Rel ρ h' w0 w' := by
  unfold storeX at hs
  split at hs
  · rename_i k o
    cases ha with
    | plain hp => simp [plain1] at hp
    | @ptr _ _ b c hb =>
    split at hs
    · rename_i n cs hag hsz
      split at hs
      · rename_i hn
        rw [Nat.beq_eq] at hn
        cases hv with
        | plain hp => simp [plain1] at hp
        | @agg _ cs' hc =>
        obtain ⟨h1, h2, h3⟩ := storeCX_sound H hb hc hs
        refine storeVC_sound (K := fun w' => Rel ρ h' w0 w') ?_
        have hl := hc.length
        have hszz : (P.info? t).map (·.size) == some cs'.size := by
          unfold sizeX at hsz; rw [hsz]; simp [← Array.length_toList, hl, hn]
        have key : gd ((P.info? t).map (·.size) == some cs'.size) (gd (cs'.toList.all (·.oneCell')) (room w b o cs'.size ∧ Rel ρ h' w0 (w.setCells b o cs'.toList))) :=
          gd_iff.2 ⟨hszz, gd_iff.2 ⟨h2, by simpa using h1, h3⟩⟩
        unfold aggX at hag
        unfold storeVC
        refine okP_iff.2 ⟨rfl, ?_⟩
        cases hu : P.underlying t with
        | none => rw [hu] at hag; cases hag
        | some d =>
          rw [hu] at hag
          cases d <;> first | exact key | (simp at hag)
      · cases hs
    · rename_i u hag hsz
      obtain ⟨h1, h2, h3⟩ := storeCX_sound H hb (.cons hv .nil) hs
      refine storeVC_sound (K := fun w' => Rel ρ h' w0 w') ?_
      have hszz : (P.info? t).map (·.size) == some 1 := by unfold sizeX at hsz; rw [hsz]; rfl
      have h2' : v'.oneCell' = true := by simpa using h2
      have key : gd ((P.info? t).map (·.size) == some 1) (gd v'.oneCell' (room w b o 1 ∧ Rel ρ h' w0 (w.setCell ⟨b, o, none⟩ v'))) :=
        gd_iff.2 ⟨hszz, gd_iff.2 ⟨h2', by simpa using h1, by simpa [World.setCells] using h3⟩⟩
      unfold aggX at hag
      unfold storeVC
      refine okP_iff.2 ⟨rfl, ?_⟩
      cases hu : P.underlying t with
      | none => rw [hu] at hag; cases hag
      | some d =>
        rw [hu] at hag
        cases d <;> first | exact key | (simp at hag)
    · cases hs
  · cases hs
theorem newX_sound (H : Rel ρ h w0 w) {x : XO} {f : Nat → Value} {v : Value} {o : Obj} {c : Nat} (hn : newX h x f = some (v, h')) (hx : ∀ k, ρ k = none → XObj (ρ.put k (w.heap.size, c)) (w.alloc o) w.heap.size c x) :
    ∃ k, v = f k ∧ RM.le ρ (ρ.put k (w.heap.size, c)) ∧ Rel (ρ.put k (w.heap.size, c)) h' w0 (w.alloc o) := by
  unfold newX at hn
  split at hn
  · rename_i k h2 hnew
    cases hn
    have hk := (XH.new_sound hnew).2.2.1
    obtain ⟨h1, h2⟩ := H.new hnew (hx k (H.dom _ hk))
    exact ⟨k, rfl, h1, h2⟩
  · cases hn
/-- A new row. -/
theorem newCells (H : Rel ρ h w0 w) {t : TypeId} {ow c : Nat} {cs cs' : List Value} {f : Nat → Value} {v : Value} (hn : newX h (.cells t ow cs) f = some (v, h')) (hv : VRs ρ cs cs') (hc : ow ≠ 0 → cs.length = c * ow ∧ c ≤ maxLen) :
    ∃ k, v = f k ∧ RM.le ρ (ρ.put k (w.heap.size, c)) ∧ Rel (ρ.put k (w.heap.size, c)) h' w0 (w.alloc (.cells cs'.toArray t)) :=
  newX_sound H hn fun k hk => ⟨cs', [], by rw [List.append_nil]; exact heap_alloc _ _, hv.mono (RM.put_le hk), fun _ => rfl, fun h => by rw [List.append_nil, hv.length]; exact hc h⟩
theorem repX_length (z : List Value) : ∀ n, (repX z n).length = n * z.length
  | 0 => by simp [repX]
  | n + 1 => by simp [repX, repX_length z n, Nat.add_mul]; omega
theorem repX_get (z : List Value) : ∀ (n j : Nat), j < n * z.length → (repX z n)[j]? = z[j % z.length]?
  | 0, j, h => by simp at h
  | n + 1, j, h => by
    simp only [repX]
    by_cases hj : j < z.length
    · rw [List.getElem?_append_left hj, Nat.mod_eq_of_lt hj]
    · rw [List.getElem?_append_right (by omega), repX_get z n _ (by rw [Nat.add_mul] at h; omega)]
      rw [← Nat.mod_eq_sub_mod (by omega)]
theorem madeCells_eq (z : Array Value) (n : Nat) (hz : 0 < z.size) : madeCells z (n * z.size) = (repX z.toList n).toArray := by
  apply Array.toList_inj.1
  apply List.ext_getElem?
  intro j
  have hl : (repX z.toList n).length = n * z.size := by rw [repX_length]; simp
  by_cases hj : j < n * z.size
  · have hm : j % z.size < z.size := Nat.mod_lt _ hz
    rw [show ((repX z.toList n).toArray.toList)[j]? = (repX z.toList n)[j]? by simp, repX_get _ _ _ (by simpa using hj)]
    simp [madeCells, hj, hm]
  · rw [List.getElem?_eq_none (by simp [madeCells]; omega), List.getElem?_eq_none (by simp; omega)]
theorem repX_plain {z : List Value} (hz : z.all plain1 = true) : ∀ n, (repX z n).all plain1 = true
  | 0 => rfl
  | n + 1 => by simp only [repX, List.all_append, Bool.and_eq_true]; exact ⟨hz, repX_plain hz n⟩
theorem zero_info {t : TypeId} {z : List Value} (hz : zeroX P t = some z) : ∃ i u, P.info? t = some i ∧ i.zero = some u ∧ u.cells.toList = z ∧ z.all plain1 = true := by
  unfold zeroX at hz
  split at hz
  · rename_i v hv
    split at hz
    · rename_i hp
      cases hz
      cases hinf : P.info? t with
      | none => rw [hinf] at hv; cases hv
      | some inf => rw [hinf] at hv; exact ⟨inf, v, rfl, hv, rfl, hp⟩
    · cases hz
  · cases hz
theorem bslX_sound (H : Rel ρ h w0 w) {t : TypeId} {n : Nat} {ps : List (Nat × Value)} {ps' : Array (Nat × Value)} {v : Value} (hp : PsR ρ ps ps'.toList) (hs : bslX P h t n ps = some (v, h')) :
    ∃ v' w' ρ', (Instr.buildSlice t n ps').run P w = .ok v' w' ∧ RM.le ρ ρ' ∧ Rel ρ' h' w0 w' ∧ VR ρ' v v' := by
  unfold bslX at hs
  split at hs
  · rename_i e hu
    split at hs
    · rename_i s z hsz hz
      split at hs
      · rename_i hok
        simp only [Bool.and_eq_true, Nat.beq_eq, Nat.ble_eq] at hok
        split at hs
        · rename_i cs hf
          obtain ⟨i, u, hi, hzu, hcz, hpl⟩ := zero_info hz
          have hisz : i.size = s + 1 := by unfold sizeX at hsz; rw [hi] at hsz; simpa using hsz
          have huz : u.cells.size = s + 1 := by rw [← Array.length_toList, hcz]; exact hok.1
          have hcells : (Array.range (n * i.size)).map (u.cells[· % u.cells.size]!) = (repX z n).toArray := by
            have := madeCells_eq u.cells n (by omega)
            rw [hcz, huz] at this
            rw [hisz]
            exact this
          obtain ⟨r', g1, g2⟩ := fill_sound (place := fun i => some (i * (s + 1), s + 1)) hp (VRs.plain (repX_plain hpl n)) hf
          have hlen : cs.length = n * (s + 1) := by
            have : ∀ (ps : List (Nat × Value)) (cs r : List Value), fillX (fun i => some (i * (s + 1), s + 1)) cs ps = some r → r.length = cs.length := by
              intro ps
              induction ps with
              | nil => intro cs r h; simp only [fillX, Option.some.injEq] at h; rw [h]
              | cons p q ih =>
                intro cs r h
                obtain ⟨i, v⟩ := p
                simp only [fillX] at h
                split at h
                · rename_i hc
                  simp only [Bool.and_eq_true, Nat.beq_eq, Nat.ble_eq] at hc
                  rw [ih _ _ h, splice_len hc.2]
                · cases h
            rw [this _ _ _ hf, repX_length, hok.1]
          obtain ⟨k, rfl, h1, h2⟩ := newCells (ow := s + 1) (c := n) H hs g1 (fun _ => ⟨hlen, by simp only [maxLen]; have := Nat.le_trans (Nat.le_mul_of_pos_right n (Nat.succ_pos s)) hok.2; omega⟩)
          have hr : (Instr.buildSlice t n ps').run P w = .ok (.slice (some ⟨w.heap.size, 0, none⟩) n n) (w.alloc (.cells r'.toArray e)) := by
            have hsmall : ¬ n * i.size > 2 ^ 24 := by rw [hisz]; omega
            by_cases hpos : n * i.size = 0
            · have hn0 : n = 0 := by rw [hisz] at hpos; rcases Nat.mul_eq_zero.1 hpos with h | h; exact h; cases h
              subst hn0
              have e1 : (repX z 0).toArray = #[] := rfl
              rw [e1, ← hisz] at g2
              have e2 : Array.map (fun _ => (default : Value)) (Array.range 0) = #[] := by apply Array.eq_empty_of_size_eq_zero; simp
              simp only [Instr.buildSlice, Sem.run_bind, run_underlying hu, Result.andThen, sizeOf, typeInfo, run_program, hi, Sem.run_pure]
              simp [newRow]
              rw [e2, g2]
              simp
            · refine run_buildSlice w t e n ps' r'.toArray i u hu hi hzu hsmall hpos ?_
              rw [hcells, hisz]; exact g2
          refine ⟨_, _, _, hr, h1, h2, ?_⟩
          have := VR.slice (ρ := ρ.put k (w.heap.size, n)) (k := k) (o := 0) (n := n) (l := 0) (b := w.heap.size) (c := n) RM.put_self (by omega)
          simpa using this
        · cases hs
      · cases hs
    · cases hs
  · cases hs
theorem mslX_sound (H : Rel ρ h w0 w) {t : TypeId} {a a' b b' v : Value} (ha : VR ρ a a') (hb : VR ρ b b') (hs : mslX P h t a b = some (v, h')) :
    ∃ v' w' ρ', (Instr.makeSlice t a' b').run P w = .ok v' w' ∧ RM.le ρ ρ' ∧ Rel ρ' h' w0 w' ∧ VR ρ' v v' := by
  unfold mslX at hs
  split at hs
  · rename_i e x y hu
    have ea := ha.of_plain rfl
    have eb := hb.of_plain rfl
    subst ea; subst eb
    split at hs
    · rename_i s z hsz hz
      split at hs
      · rename_i hok
        simp only [Bool.and_eq_true, Nat.beq_eq, Nat.ble_eq] at hok
        obtain ⟨⟨⟨hxy, hzl⟩, hy⟩, hby⟩ := hok
        subst hxy
        obtain ⟨i, u, hi, hzu, hcz, hpl⟩ := zero_info hz
        have hisz : i.size = s + 1 := by unfold sizeX at hsz; rw [hi] at hsz; simpa using hsz
        have huz : u.cells.size = s + 1 := by rw [← Array.length_toList, hcz]; exact hzl
        rw [hi] at hby
        simp only [Option.map_some, Option.getD_some] at hby
        obtain ⟨k, rfl, h1, h2⟩ := newCells (ow := s + 1) (c := x) H hs (VRs.plain (repX_plain hpl x)) (fun _ => ⟨by rw [repX_length, hzl], by simp only [maxLen]; omega⟩)
        have hr := run_make (P := P) w t e i u hu hi hzu .i64 .i64 (x : Int) (x : Int) (by omega) (by omega) (by
          have h3 : i.bytes * x ≤ 65535 * 65536 := Nat.mul_le_mul hby hy
          have h4 : ((i.bytes * x : Nat) : Int) = (i.bytes : Int) * x := by simp
          omega) (by omega)
        rw [Int.toNat_natCast, hisz, ← huz, madeCells_eq u.cells x (by omega), hcz] at hr
        refine ⟨_, _, _, hr, h1, h2, ?_⟩
        have := VR.slice (ρ := ρ.put k (w.heap.size, x)) (k := k) (o := 0) (n := x) (l := 0) (b := w.heap.size) (c := x) RM.put_self (by omega)
        simpa using this
      · cases hs
    · cases hs
  · cases hs
end
end Go.Vc

namespace Go.Vc
open Go.ChangeMaps (setBlock)
set_option linter.unusedSimpArgs false
set_option linter.unusedVariables false
section
variable {P : Program} {E : XE P} {ρ : RM} {h h' : XH} {l : FX} {l' : Fr} {w0 w w' : World}
theorem numsX_sound : ∀ {vs vs' : List Value} {ns : List Int}, numsX vs = some ns → VRs ρ vs vs' → vs' = ns.map (Value.int .u8)
  | [], _, ns, h, .nil => by simp only [numsX, Option.some.injEq] at h; subst h; rfl
  | v :: r, _, ns, h, .cons a b => by
    unfold numsX at h
    split at h
    · rename_i heq; cases heq
    · rename_i n r' heq
      simp only [List.cons.injEq] at heq
      obtain ⟨e1, e2⟩ := heq
      subst e1; subst e2
      split at h
      · rename_i bs hb
        cases h
        rw [a.of_plain rfl, numsX_sound hb b]
        rfl
      · cases h
    · cases h
theorem strX_sound (H : Rel ρ h w0 w) {s d : TypeId} {v v' u : Value} (hv : VR ρ v v') (hs : strX P h s d v = some (u, h')) : h' = h ∧ VR ρ u u ∧ (convert s d v').run P w = .ok u w := by
  unfold strX at hs
  split at hs
  · rename_i e hu hd
    split at hs
    · rename_i c he
      cases hs
      have := hv.of_plain rfl
      subst this
      exact ⟨rfl, .plain rfl, run_convert_bytes_nil w s e hu he 0 c d hd⟩
    · rename_i k o n c he
      split at hs
      · rename_i cs hr
        split at hs
        · rename_i bs hb
          cases hs
          refine ⟨rfl, .plain rfl, ?_⟩
          cases hv with
          | plain hp => simp [plain1] at hp
          | @slice _ _ _ _ b cc hk hle =>
            obtain ⟨h1, vs', h2, h3⟩ := rdN_sound H.cell hk _ _ hr
            have e2 := numsX_sound hb h2
            have hlen : bs.length = n := by have := h2.length; rw [e2, List.length_map] at this; omega
            refine run_convert_bytes_arg w s e hu he b o n _ bs hlen (fun i hi => ?_) d hd
            refine h3 w rfl i _ ?_
            rw [e2, List.getElem?_map, List.getElem?_eq_getElem (by omega)]
            simp [List.getD, List.getElem?_eq_getElem (show i < bs.length by omega)]
        · cases hs
      · cases hs
    · cases hs
  · cases hs
theorem rngX_sound (H : Rel ρ h w0 w) {t : TypeId} {v v' u : Value} (hv : VR ρ v v') (hs : rngX P h t v = some (u, h')) :
    ∃ u' w' ρ', (Instr.range t v').run P w = .ok u' w' ∧ RM.le ρ ρ' ∧ Rel ρ' h' w0 w' ∧ VR ρ' u u' := by
  unfold rngX at hs
  split at hs
  · rename_i s hu
    have := hv.of_plain rfl
    subst this
    obtain ⟨k, rfl, h1, h2⟩ := newX_sound (c := 0) (o := .stringIter s 0) H hs fun k hk => heap_alloc _ _
    refine ⟨.pointer (some ⟨w.heap.size, 0, none⟩), _, _, ?_, h1, h2, .ptr RM.put_self⟩
    have := run_range_string (P := P) w t s hu
    exact this
  · rename_i kt et m hu
    cases hv with
    | plain hp => simp [plain1] at hp
    | @map _ bm cm hk =>
    split at hs
    · rename_i hg
      obtain ⟨b, c, hb, n, hw⟩ := H.obj _ _ hg
      rw [hk] at hb; cases hb
      have hr := run_range_map (P := P) w t kt et bm #[] n hu hw
      obtain ⟨k, rfl, h1, h2⟩ := newX_sound (c := 0) (o := .mapIter (some bm) n #[] n) H hs fun k hkn => by
        exact ⟨bm, cm, n, RM.put_le hkn _ _ hk, heap_alloc _ _⟩
      exact ⟨_, _, _, hr, h1, h2, .ptr RM.put_self⟩
    · cases hs
  · cases hs
theorem nextX_sound (H : Rel ρ h w0 w) {s : Bool} {ty : TypeId} {v v' u : Value} (hv : VR ρ v v') (hs : nextX h s v = some (u, h')) :
    ∃ w', (Instr.next v' s ty).run P w = .ok u w' ∧ Rel ρ h' w0 w' ∧ VR ρ u u := by
  have pl3 : ∀ (p : Nat) (c : Int), VR ρ (.tuple #[.bool true, .int .i64 p, .int .i32 c]) (.tuple #[.bool true, .int .i64 p, .int .i32 c]) := fun p c => .plainV rfl
  have pl1 : VR ρ (.tuple #[.bool false]) (.tuple #[.bool false]) := .plainV rfl
  unfold nextX at hs
  split at hs
  · rename_i k
    cases hv with
    | plain hp => simp [plain1] at hp
    | @ptr _ _ b c hb =>
    split at hs
    · rename_i str p hg
      obtain ⟨b', c', hb', hw⟩ := H.obj _ _ hg
      rw [hb] at hb'; cases hb'
      simp only [XObj] at hw
      split at hs
      · rename_i hx0 hlt
        cases hs
        have hlt' : p < str.size := Nat.le_of_ble_eq_true hlt
        refine ⟨setBlock w b (.stringIter str (p + (Utf8.decode str p).2)), ?_, ?_, pl3 _ _⟩
        · simp only [Instr.next, Sem.run_bind, getObj, Sem.run, hw, Result.andThen, if_pos hlt', setObj]
          rfl
        · refine H.turn hg (Nat.le_of_ble_eq_true hx0) (by simp) hb (setBlock_ch _ _ _) ?_
          exact setBlock_get (H.lt _ _ _ hb)
      · rename_i hx0 hlt
        cases hs
        have hlt' : ¬ p < str.size := fun h => by have h2 : Nat.blt p str.size = true := Nat.ble_eq_true_of_le h; rw [h2] at hlt; cases hlt
        refine ⟨w, ?_, H, pl1⟩
        simp only [Instr.next, Sem.run_bind, getObj, Sem.run, hw, Result.andThen, if_neg hlt']
        rfl
      · cases hs
    · rename_i m hg
      split at hs
      · rename_i hm
        cases hs
        obtain ⟨b', c', hb', hw⟩ := H.obj _ _ hg
        rw [hb] at hb'; cases hb'
        obtain ⟨bm, cm, si, h1, h2⟩ := hw
        obtain ⟨b2, c2, h3, n, h4⟩ := H.obj _ _ hm
        rw [h1] at h3; cases h3
        refine ⟨w, ?_, H, pl1⟩
        rcases run_next_at (P := P) w ty b bm si si #[] #[] n h2 h4 (by simp) (Nat.le_refl _) with ⟨_, hr⟩ | ⟨e, he, _⟩
        · exact hr
        · simp [leftOf] at he
      · cases hs
    · cases hs
  · cases hs
theorem asn {s s' : Value} {a : Option Addr} {n l : Nat} (hv : VR ρ (.slice a n l) s') (hn : a = none → n = 0) : ∃ a' c, s' = .slice a' n c ∧ n ≤ c := by
  cases hv with
  | plain hp =>
    cases a with
    | none => have := hn rfl; subst this; exact ⟨none, _, rfl, Nat.zero_le _⟩
    | some a => simp [plain1] at hp
  | slice hk hle => exact ⟨_, _, rfl, by omega⟩
  | empty => exact ⟨_, _, rfl, Nat.zero_le _⟩
theorem appX_sound (H : Rel ρ h w0 w) {ts : Array TypeId} {ty : TypeId} {s s' x x' u : Value} (hs' : VR ρ s s') (hx' : VR ρ x x') (hs : appX P h ts s x = some (u, h')) :
    ∃ u' w' ρ', (Builtin.append_ ts ty #[s', x']).run P w = .ok u' w' ∧ RM.le ρ ρ' ∧ Rel ρ' h' w0 w' ∧ VR ρ' u u' := by
  unfold appX at hs
  split at hs
  case h_2 => cases hs
  rename_i t t' hts
  split at hs
  case h_2 => cases hs
  rename_i e htt hu
  rw [Nat.beq_eq] at htt
  subst htt
  have ets : ts = #[t, t] := Array.toList_inj.1 hts
  subst ets
  split at hs
  case h_2 => cases hs
  rename_i wd z sa sn sc xa xn xc hsz hz
  split at hs
  case h_2 => cases hs
  rename_i hok
  simp only [Bool.and_eq_true, Nat.beq_eq, Nat.ble_eq] at hok
  obtain ⟨⟨hzl, hmx⟩, hby⟩ := hok
  obtain ⟨i, zu, hi, hzu, hcz, hpl⟩ := zero_info hz
  have hisz : i.size = wd + 1 := by unfold sizeX at hsz; rw [hi] at hsz; simpa using hsz
  have huz : zu.cells.size = wd + 1 := by rw [← Array.length_toList, hcz]; exact hzl
  rw [hi] at hby
  simp only [Option.map_some, Option.getD_some] at hby
  split at hs
  · -- nothing is appended
    have hh : h' = h ∧ u = .slice sa sn sc ∧ (sa = none → sn = 0) := by
      split at hs
      · cases hs; exact ⟨rfl, rfl, fun _ => rfl⟩
      · cases hs; exact ⟨rfl, rfl, fun h => by cases h⟩
      · cases hs
    obtain ⟨rfl, rfl, hn0⟩ := hh
    obtain ⟨a', c', rfl, hle⟩ := asn (s := .slice sa sn sc) hs' hn0
    have hx2 : ∃ a2 c2, x' = .slice a2 0 c2 := by
      cases hx' with
      | plain _ => exact ⟨_, _, rfl⟩
      | slice _ _ => exact ⟨_, _, rfl⟩
      | empty => exact ⟨_, _, rfl⟩
    obtain ⟨a2, c2, rfl⟩ := hx2
    refine ⟨_, w, ρ, ?_, RM.le_refl _, H, hs'⟩
    cases a2 with
    | none => cases a' <;> simp [Builtin.append_, run_underlying hu, sizeOf, typeInfo, hi, Builtin.lenOf, Builtin.firstCells, hle, storeCells]
    | some ad => cases a' <;> simp [Builtin.append_, run_underlying hu, sizeOf, typeInfo, hi, Builtin.lenOf, Builtin.firstCells, loadCells, loadCellsFrom, hle, storeCells]
  · rename_i hxn
    have hxn : 0 < xn := Nat.pos_of_ne_zero hxn
    split at hs
    case h_2 => cases hs
    rename_i xk xo
    cases hx' with
    | plain hp => simp [plain1] at hp
    | @slice _ _ _ _ xb xcc hxk hxle =>
    split at hs
    case h_2 => cases hs
    rename_i ys hr
    obtain ⟨hyl, ys', hyr, hyc⟩ := rdN_sound H.cell hxk _ _ hr
    have hyl' : ys'.length = xn * i.size := by rw [hyr.length, hyl, hisz]
    have news : ∀ j v, ys'[j]? = some v → w.cell? ((⟨xb, xo, none⟩ : Addr).add j) = some v := fun j v hj => by rw [addr_add]; exact hyc w rfl j v hj
    split at hs
    · -- to nothing
      split at hs
      · rename_i hone
        have es := hs'.of_plain rfl
        subst es
        have hra := run_append_nil (P := P) w t ty e i zu hu hi hzu ⟨xb, xo, none⟩ xn (xcc - xc) ys' hyl' news hxn (by omega) (by
          have : xn * i.bytes ≤ 65536 * 65535 := Nat.mul_le_mul (by omega) hby
          omega)
        have hge := grownCap_ge w xn 0 e
        have hcm : grownCap w xn 0 e ≤ maxLen := grownCap_le_maxLen w xn 0 e (by simp only [maxLen]; omega)
        have Hd := H.heapEq (Ch.drew w)
        obtain ⟨k, rfl, h1, h2⟩ := newX_sound (c := grownCap w xn 0 e) (o := .cells (ys'.toArray ++ Builtin.zeroCells zu.cells (grownCap w xn 0 e - xn)) e) Hd hs fun k hkn => by
          refine ⟨ys', (Builtin.zeroCells zu.cells (grownCap w xn 0 e - xn)).toList, ?_, hyr.mono (RM.put_le hkn), fun h => (by cases h), fun _ => ⟨?_, hcm⟩⟩
          · rw [heap_alloc]; congr 2; apply Array.toList_inj.1; simp
          · simp only [List.length_append, Array.length_toList, size_zeroCells, huz, hyl', hisz, ← Nat.add_mul]
            congr 1; omega
        refine ⟨_, _, _, hra, h1, h2, ?_⟩
        have := VR.slice (ρ := ρ.put k (w.heap.size, grownCap w xn 0 e)) (k := k) (o := 0) (n := xn) (l := 0) (b := w.heap.size) RM.put_self (by omega)
        simpa using this
      · cases hs
    · -- to a row
      rename_i sk
      split at hs
      case h_2 => cases hs
      rename_i e' w2 cs hg hone
      split at hs
      case h_2 => cases hs
      rename_i hck
      simp only [Bool.and_eq_true, Nat.beq_eq, Nat.ble_eq, Bool.not_eq_true'] at hck
      obtain ⟨⟨⟨⟨he, hw2⟩, hcl⟩, hne⟩, hx0⟩ := hck
      subst he; subst hw2
      split at hs
      case h_2 => cases hs
      rename_i k hk2 hnew
      cases hs
      cases hs' with
      | plain hp => simp [plain1] at hp
      | @slice _ _ _ _ sb scc hsk hsle =>
      obtain ⟨b', c', hb', cs', tl, hw, hcs, h0, h1⟩ := H.obj _ _ hg
      rw [hsk] at hb'; cases hb'
      obtain ⟨hcap, hcmx⟩ := h1 (by simp)
      have hcl' : cs'.length = sn * i.size := by rw [hcs.length, hcl, hisz]
      simp only [Nat.sub_zero]
      have hone' := hyr.oneAll hone
      by_cases hroom : sn + xn ≤ scc
      · have hfit : sn * i.size + ys'.length ≤ (cs' ++ tl).toArray.size := by
          rw [hyl', ← Nat.add_mul, List.size_toArray, hcap, hisz]; exact Nat.mul_le_mul_right _ hroom
        have hra := run_append_room (P := P) w t ty e i hu hi sb sn scc _ hw ⟨xb, xo, none⟩ xn (xcc - xc) ys' hyl' news (fun u hu => List.all_eq_true.1 hone' u hu) hroom hfit
        have hset := setRow_heap w sb _ ((cs' ++ tl).toArray.toList.take (sn * i.size) ++ ys' ++ (cs' ++ tl).toArray.toList.drop (sn * i.size + ys'.length)).toArray e _ hw
        have hch : Ch [sb] w (w.setRow sb ((cs' ++ tl).toArray.toList.take (sn * i.size) ++ ys' ++ (cs' ++ tl).toArray.toList.drop (sn * i.size + ys'.length)).toArray) :=
          ⟨rfl, rfl, rfl, by simp, fun j hj hjn => setRow_other w sb j _ (by simpa using hjn)⟩
        have hG := H.grow (c2 := scc) hg hx0 (by simp) hsk hnew hch (.inl rfl) (by simpa using H.lt _ _ _ hsk) ?_
        · refine ⟨_, _, _, hra, hG.1, hG.2, ?_⟩
          have := VR.slice (ρ := ρ.put k (sb, scc)) (k := k) (o := 0) (n := sn + xn) (l := 0) (b := sb) RM.put_self (by omega)
          simpa using this
        · have hle : RM.le ρ (ρ.put k (sb, scc)) := by
            have := (XH.new_sound hnew).2.2.1
            refine RM.put_le (H.dom _ ?_)
            have hs2 := XH.get_small hg
            have e1 : (⟨T8.set (.l .dead) 6 sk h.tr, h.nx⟩ : XH) = h.put sk .dead := rfl
            rw [e1, XH.get_put hs2] at this
            split at this
            · cases this
            · exact this
          refine ⟨cs' ++ ys', (cs' ++ tl).drop (sn * i.size + ys'.length), ?_, (hcs.append hyr).mono hle, fun h => (by cases h), fun _ => ⟨?_, hcmx⟩⟩
          · rw [hset]; congr 2
            have : (cs' ++ tl).toArray.toList.take (sn * i.size) = cs' := by simp [← hcl']
            rw [this]
          · simp only [List.length_append, List.length_drop, List.size_toArray] at hfit hcap ⊢
            rw [hcl']; omega
      · have holds : ∀ j v, cs'[j]? = some v → w.cell? ((⟨sb, 0, none⟩ : Addr).add j) = some v := by
          intro j v hj
          rw [addr_add, Nat.zero_add]
          have hlt := (List.getElem?_eq_some_iff.1 hj).1
          simp only [World.cell?, hw]
          simp [List.getElem?_append_left hlt, hj]
        have hra := run_append_grow (P := P) w t ty e i zu hu hi hzu ⟨sb, 0, none⟩ sn scc cs' hcl' holds ⟨xb, xo, none⟩ xn (xcc - xc) ys' hyl' news (by omega) (by omega) (growslice_fits (by omega) (by
          have : (sn + xn) * i.bytes ≤ 65536 * 65535 := Nat.mul_le_mul hmx hby
          omega))
        have hge := grownCap_ge w (sn + xn) scc e
        have hcm : grownCap w (sn + xn) scc e ≤ maxLen := grownCap_le_maxLen w (sn + xn) scc e (by simp only [maxLen]; omega)
        have hch : Ch [sb] w (w.drew.alloc (.cells (cs'.toArray ++ ys'.toArray ++ Builtin.zeroCells zu.cells (grownCap w (sn + xn) scc e - (sn + xn))) e)) :=
          ((Ch.drew w).trans0 (Ch.alloc _ _)).mono (by simp)
        have hG := H.grow (b2 := w.heap.size) (c2 := grownCap w (sn + xn) scc e) hg hx0 (by simp) hsk hnew hch (.inr (Nat.le_refl _)) (by rw [size_alloc]; exact Nat.lt_succ_self _) ?_
        · refine ⟨_, _, _, hra, hG.1, hG.2, ?_⟩
          have := VR.slice (ρ := ρ.put k (w.heap.size, grownCap w (sn + xn) scc e)) (k := k) (o := 0) (n := sn + xn) (l := 0) (b := w.heap.size) RM.put_self (by omega)
          simpa using this
        · have hle : RM.le ρ (ρ.put k (w.heap.size, grownCap w (sn + xn) scc e)) := by
            have := (XH.new_sound hnew).2.2.1
            refine RM.put_le (H.dom _ ?_)
            have hs2 := XH.get_small hg
            have e1 : (⟨T8.set (.l .dead) 6 sk h.tr, h.nx⟩ : XH) = h.put sk .dead := rfl
            rw [e1, XH.get_put hs2] at this
            split at this
            · cases this
            · exact this
          refine ⟨cs' ++ ys', (Builtin.zeroCells zu.cells (grownCap w (sn + xn) scc e - (sn + xn))).toList, ?_, (hcs.append hyr).mono hle, fun h => (by cases h), fun _ => ⟨?_, hcm⟩⟩
          · have := heap_alloc w.drew (.cells (cs'.toArray ++ ys'.toArray ++ Builtin.zeroCells zu.cells (grownCap w (sn + xn) scc e - (sn + xn))) e)
            refine this.trans ?_
            congr 2; apply Array.toList_inj.1; simp
          · simp only [List.length_append, Array.length_toList, size_zeroCells, huz, hyl', hcl', hisz, ← Nat.add_mul]
            congr 1; omega
    · cases hs
theorem strCells_vrs (x : ByteArray) : VRs ρ (Lib.strCells x) (Lib.strCells x) := by
  refine VRs.plain ?_
  rw [List.all_eq_true]
  intro v hv
  simp only [Lib.strCells, List.mem_map] at hv
  obtain ⟨b, _, rfl⟩ := hv
  rfl
theorem appSX_sound (H : Rel ρ h w0 w) {ts : Array TypeId} {ty : TypeId} {s s' u : Value} {x : ByteArray} (hs' : VR ρ s s') (hs : appSX P h ts s x = some (u, h')) :
    ∃ u' w' ρ', (Builtin.append_ ts ty #[s', .string x]).run P w = .ok u' w' ∧ RM.le ρ ρ' ∧ Rel ρ' h' w0 w' ∧ VR ρ' u u' := by
  unfold appSX at hs
  split at hs
  case h_2 => cases hs
  rename_i t t' hts
  split at hs
  case h_2 => cases hs
  rename_i e hu hu2
  have ets : ts = #[t, t'] := Array.toList_inj.1 hts
  subst ets
  split at hs
  case h_2 => cases hs
  rename_i z sa sn sc hsz hz
  split at hs
  case h_2 => cases hs
  rename_i hok
  simp only [Bool.and_eq_true, Nat.beq_eq, Nat.ble_eq, Nat.blt] at hok
  obtain ⟨⟨⟨hzl, hmx⟩, hby⟩, hxn⟩ := hok
  obtain ⟨i, zu, hi, hzu, hcz, hpl⟩ := zero_info hz
  have hisz : i.size = 1 := by unfold sizeX at hsz; rw [hi] at hsz; simpa using hsz
  have huz : zu.cells.size = 1 := by rw [← Array.length_toList, hcz]; exact hzl
  rw [hi] at hby
  simp only [Option.map_some, Option.getD_some] at hby
  have hyl' := Lib.strCells_length x
  have hyr := strCells_vrs (ρ := ρ) x
  split at hs
  · -- to nothing
    split at hs
    · have es := hs'.of_plain rfl
      subst es
      have hra := run_append_nil_string (P := P) w t t' ty e i zu hu hu2 hi hzu x (by omega) (by omega) (by
        have : x.size * i.bytes ≤ 65536 * 65535 := Nat.mul_le_mul (by omega) hby
        omega)
      have hdm : (x.data.map (fun b => Value.int .u8 b.toNat)) = (Lib.strCells x).toArray := by apply Array.toList_inj.1; simp [Lib.strCells]
      have hge := grownCap_ge w x.size 0 e
      have hcm : grownCap w x.size 0 e ≤ maxLen := grownCap_le_maxLen w x.size 0 e (by simp only [maxLen]; omega)
      have Hd := H.heapEq (Ch.drew w)
      rw [hdm] at hra
      obtain ⟨k, rfl, h1, h2⟩ := newX_sound (c := grownCap w x.size 0 e) (o := .cells ((Lib.strCells x).toArray ++ Builtin.zeroCells zu.cells (grownCap w x.size 0 e - x.size)) e) Hd hs fun k hkn => by
        refine ⟨Lib.strCells x, (Builtin.zeroCells zu.cells (grownCap w x.size 0 e - x.size)).toList, ?_, strCells_vrs x, fun h => (by cases h), fun _ => ⟨?_, hcm⟩⟩
        · rw [heap_alloc]; congr 2; apply Array.toList_inj.1; simp
        · simp only [List.length_append, Array.length_toList, size_zeroCells, huz, hyl']
          omega
      refine ⟨_, _, _, hra, h1, h2, ?_⟩
      have := VR.slice (ρ := ρ.put k (w.heap.size, grownCap w x.size 0 e)) (k := k) (o := 0) (n := x.size) (l := 0) (b := w.heap.size) RM.put_self (by omega)
      simpa using this
    · cases hs
  · -- to a row
    rename_i sk
    split at hs
    case h_2 => cases hs
    rename_i e' w2 cs hg
    split at hs
    case h_2 => cases hs
    rename_i hck
    simp only [Bool.and_eq_true, Nat.beq_eq, Nat.ble_eq] at hck
    obtain ⟨⟨⟨he, hw2⟩, hcl⟩, hx0⟩ := hck
    subst he; subst hw2
    split at hs
    case h_2 => cases hs
    rename_i k hk2 hnew
    cases hs
    cases hs' with
    | plain hp => simp [plain1] at hp
    | @slice _ _ _ _ sb scc hsk hsle =>
    obtain ⟨b', c', hb', cs', tl, hw, hcs, h0, h1⟩ := H.obj _ _ hg
    rw [hsk] at hb'; cases hb'
    obtain ⟨hcap, hcmx⟩ := h1 (by simp)
    have hcl' : cs'.length = sn := by rw [hcs.length, hcl]
    simp only [Nat.sub_zero]
    have hleN : ∀ c2, RM.le ρ (ρ.put k c2) := fun c2 => by
      have := (XH.new_sound hnew).2.2.1
      refine RM.put_le (H.dom _ ?_)
      have hs2 := XH.get_small hg
      have e1 : (⟨T8.set (.l .dead) 6 sk h.tr, h.nx⟩ : XH) = h.put sk .dead := rfl
      rw [e1, XH.get_put hs2] at this
      split at this
      · cases this
      · exact this
    by_cases hroom : sn + x.size ≤ scc
    · have hfit : sn + x.size ≤ (cs' ++ tl).toArray.size := by
        rw [List.size_toArray, hcap]; omega
      have hra := Lib.run_append_room_string (P := P) w t t' ty e i hu hu2 hi hisz sb sn scc _ hw x hroom hfit
      have hset := setRow_heap w sb _ ((cs' ++ tl).toArray.toList.take sn ++ Lib.strCells x ++ (cs' ++ tl).toArray.toList.drop (sn + x.size)).toArray e _ hw
      have hch : Ch [sb] w (w.setRow sb ((cs' ++ tl).toArray.toList.take sn ++ Lib.strCells x ++ (cs' ++ tl).toArray.toList.drop (sn + x.size)).toArray) :=
        ⟨rfl, rfl, rfl, by simp, fun j hj hjn => setRow_other w sb j _ (by simpa using hjn)⟩
      have hG := H.grow (c2 := scc) hg hx0 (by simp) hsk hnew hch (.inl rfl) (by simpa using H.lt _ _ _ hsk) ?_
      · refine ⟨_, _, _, hra, hG.1, hG.2, ?_⟩
        have := VR.slice (ρ := ρ.put k (sb, scc)) (k := k) (o := 0) (n := sn + x.size) (l := 0) (b := sb) RM.put_self (by omega)
        simpa using this
      · refine ⟨cs' ++ Lib.strCells x, (cs' ++ tl).drop (sn + x.size), ?_, (hcs.append hyr).mono (hleN _), fun h => (by cases h), fun _ => ⟨?_, hcmx⟩⟩
        · rw [hset]; congr 2
          have : (cs' ++ tl).toArray.toList.take sn = cs' := by simp [← hcl']
          rw [this]
        · simp only [List.length_append, List.length_drop, List.size_toArray] at hfit hcap ⊢
          rw [hyl']; omega
    · have holds : ∀ j v, cs'[j]? = some v → w.cell? ((⟨sb, 0, none⟩ : Addr).add j) = some v := by
        intro j v hj
        rw [addr_add, Nat.zero_add]
        have hlt := (List.getElem?_eq_some_iff.1 hj).1
        simp only [World.cell?, hw]
        simp [List.getElem?_append_left hlt, hj]
      have hra := Lib.run_append_grow_string (P := P) w t t' ty e i zu hu hu2 hi hzu ⟨sb, 0, none⟩ sn scc cs' (by rw [hisz, hcl']; omega) holds x (by omega) (by omega) (growslice_fits (by omega) (by
        have : (sn + x.size) * i.bytes ≤ 65536 * 65535 := Nat.mul_le_mul hmx hby
        omega))
      have hge := grownCap_ge w (sn + x.size) scc e
      have hcm : grownCap w (sn + x.size) scc e ≤ maxLen := grownCap_le_maxLen w (sn + x.size) scc e (by simp only [maxLen]; omega)
      have hch : Ch [sb] w (w.drew.alloc (.cells (cs'.toArray ++ (Lib.strCells x).toArray ++ Builtin.zeroCells zu.cells (grownCap w (sn + x.size) scc e - (sn + x.size))) e)) :=
        ((Ch.drew w).trans0 (Ch.alloc _ _)).mono (by simp)
      have hG := H.grow (b2 := w.heap.size) (c2 := grownCap w (sn + x.size) scc e) hg hx0 (by simp) hsk hnew hch (.inr (Nat.le_refl _)) (by rw [size_alloc]; exact Nat.lt_succ_self _) ?_
      · refine ⟨_, _, _, hra, hG.1, hG.2, ?_⟩
        have := VR.slice (ρ := ρ.put k (w.heap.size, grownCap w (sn + x.size) scc e)) (k := k) (o := 0) (n := sn + x.size) (l := 0) (b := w.heap.size) RM.put_self (by omega)
        simpa using this
      · refine ⟨cs' ++ Lib.strCells x, (Builtin.zeroCells zu.cells (grownCap w (sn + x.size) scc e - (sn + x.size))).toList, ?_, (hcs.append hyr).mono (hleN _), fun h => (by cases h), fun _ => ⟨?_, hcm⟩⟩
        · have := heap_alloc w.drew (.cells (cs'.toArray ++ (Lib.strCells x).toArray ++ Builtin.zeroCells zu.cells (grownCap w (sn + x.size) scc e - (sn + x.size))) e)
          refine this.trans ?_
          congr 2; apply Array.toList_inj.1; simp
        · simp only [List.length_append, Array.length_toList, size_zeroCells, huz, hyl', hcl']
          omega
  · cases hs
end
end Go.Vc

namespace Go.Vc
set_option linter.unusedSimpArgs false
set_option linter.unusedVariables false
/-- What is left behind: a value and a memory, as the machine has them. -/
def Aft (ρ : RM) (h' : XH) (w0 : World) (v : Value) (v' : Value) (w' : World) : Prop := ∃ ρ', RM.le ρ ρ' ∧ Rel ρ' h' w0 w' ∧ VR ρ' v v'
/-- The machine's calls are the model's. -/
def CallR (P : Program) (w0 : World) (xF : FuncId → List Value → XH → Option (Value × XH)) : Prop :=
  ∀ f args h v h', xF f args h = some (v, h') → ∀ (ρ : RM) (w : World) (args' : List Value), Rel ρ h w0 w → VRs ρ args args' → Calls P f args'.toArray w (Ret (Aft ρ h' w0 v))
section
variable {P : Program} {E : XE P} {ρ : RM} {h h' : XH} {l : FX} {l' : Fr} {w0 w w' : World} {xF : FuncId → List Value → XH → Option (Value × XH)}
theorem enter_run {f : FuncId} (he : enterX P f = true) (args : Array Value) (w : World) : (callFunc f args).run P w = .ok (.enter f args) w := by
  unfold enterX at he
  cases hf : P.funcs[f]? with
  | none => rw [hf] at he; cases he
  | some fn =>
    rw [hf] at he
    simp only [Bool.and_eq_true, Bool.not_eq_true', Option.isSome_iff_exists] at he
    obtain ⟨hn, c, hb⟩ := he
    have h1 : ¬ fn.name = "runtime.NumGoroutine" := fun h => by rw [h] at hn; cases hn
    simp [callFunc, hf, h1, hb]
theorem done_calls {f : FuncId} {args : Array Value} {w : World} {K : Value → World → Prop} {o : Oper} (he : (execOp (ev l') o).run P w = .ok (.enter f args) w) (hc : Calls P f args w (Ret K)) : doneOp P o l' w K := by
  unfold doneOp
  rw [he]
  exact hc
theorem done_value {s : Sem Value} {o : Oper} {w : World} {K : Value → World → Prop} (he : execOp (ev l') o = (do pure (.value (← s)))) {v : Value} {w' : World} (hr : s.run P w = .ok v w') (hk : K v w') : doneOp P o l' w K := by
  unfold doneOp
  rw [he]
  simp only [Sem.run_bind, hr, Result.andThen, Sem.run_pure]
  exact hk
theorem arg_tail (r : Value) (args : Array Value) : (#[r] ++ args).extract 1 (#[r] ++ args).size = args := by
  have : (#[r] ++ args).size = 1 + args.size := by simp
  rw [this]
  apply Array.toList_inj.1
  simp [Nat.add_comm]
theorem eff_soundX (hE : E.Ok) (hF : CallR P w0 xF) (H : Rel ρ h w0 w) (hl : FR ρ l l') {o : Oper} {v : Value} (hv : effX P E xF o l h = some (v, h')) : doneOp P o l' w (Aft ρ h' w0 v) := by
  unfold effX at hv
  split at hv
  · -- store
    rename_i t a x ho
    split at hv
    · rename_i p u hp hu
      split at hv
      · rename_i h2 hs
        cases hv
        obtain ⟨w', hr, hk⟩ := storeX_sound H (evX_sound H hl hp).1 (evX_sound H hl hu).1 hs
        unfold doneOp
        have : (execOp (ev l') o).run P w = .ok .skip w' := by simp [execOp, ho, hr]
        rw [this]
        exact ⟨ρ, RM.le_refl _, hk, .undef⟩
      · cases hv
    · cases hv
  · -- alloc
    rename_i t ho
    split at hv
    · rename_i z hz
      obtain ⟨u, h1, h2, h3⟩ := zero_sound hz
      obtain ⟨k, rfl, g1, g2⟩ := newCells (c := 0) H hv (VRs.plain h3) (fun h => (h rfl).elim)
      refine done_value (s := Instr.alloc t true (.tuple #[])) (by unfold execOp; simp only [ho]) (v := .pointer (some ⟨w.heap.size, 0, none⟩)) (w' := w.alloc (.cells z.toArray t)) ?_ ⟨_, g1, g2, .ptr RM.put_self⟩
      have e : u.cells = z.toArray := by rw [← h2]
      simp [Instr.alloc, h1, newVar, newRow, e]
    · cases hv
  · -- box
    rename_i t x ho
    split at hv
    · rename_i u hu
      have gu := (evX_sound H hl hu).1
      obtain ⟨k, rfl, g1, g2⟩ := newCells (c := 0) H hv gu.cells (fun h => (h rfl).elim)
      refine done_value (s := Instr.box t (ev l' x)) (by unfold execOp; simp only [ho]) (v := .pointer (some ⟨w.heap.size, 0, none⟩)) (w' := w.alloc (.cells (ev l' x).cells.toList.toArray t)) ?_ ⟨_, g1, g2, .ptr RM.put_self⟩
      simp [Instr.box, newVar, newRow]
    · cases hv
  · -- buildSlice
    rename_i t n ps ho
    split at hv
    · rename_i vs hp
      have hp := partsX_sound H hl hp
      obtain ⟨v', w', ρ', hr, g1, g2, g3⟩ := bslX_sound (ps' := ps.map fun p => (p.1, ev l' p.2)) H (by simpa using hp) hv
      exact done_value (by unfold execOp; simp only [ho]) hr ⟨ρ', g1, g2, g3⟩
    · cases hv
  · -- makeSlice
    rename_i t n c ho
    split at hv
    · rename_i a b ha hb
      obtain ⟨v', w', ρ', hr, g1, g2, g3⟩ := mslX_sound H (evX_sound H hl ha).1 (evX_sound H hl hb).1 hv
      exact done_value (by unfold execOp; simp only [ho]) hr ⟨ρ', g1, g2, g3⟩
    · cases hv
  · -- makeMap
    rename_i t ho
    obtain ⟨k, rfl, g1, g2⟩ := newX_sound (c := 0) (o := .map #[] 0) H hv fun k hk => ⟨0, heap_alloc _ _⟩
    refine done_value (s := Instr.makeMap t none) (by unfold execOp; simp only [ho, Option.map_none]) (v := .map (some w.heap.size)) (w' := w.alloc (.map #[] 0)) ?_ ⟨_, g1, g2, .map RM.put_self⟩
    simp [Instr.makeMap]
  · -- range
    rename_i t x ho
    split at hv
    · rename_i u hu
      obtain ⟨v', w', ρ', hr, g1, g2, g3⟩ := rngX_sound H (evX_sound H hl hu).1 hv
      exact done_value (by unfold execOp; simp only [ho]) hr ⟨ρ', g1, g2, g3⟩
    · cases hv
  · -- next
    rename_i x b ho
    split at hv
    · rename_i u hu
      obtain ⟨w', hr, g2, g3⟩ := nextX_sound (ty := o.type) H (evX_sound H hl hu).1 hv
      exact done_value (by unfold execOp; simp only [ho]) hr ⟨ρ, RM.le_refl _, g2, g3⟩
    · cases hv
  · -- convert
    rename_i s d x ho
    split at hv
    · rename_i u hu
      obtain ⟨e, g3, hr⟩ := strX_sound H (evX_sound H hl hu).1 hv
      subst e
      exact done_value (by unfold execOp; simp only [ho]) hr ⟨ρ, RM.le_refl _, H, g3⟩
    · cases hv
  · -- call
    rename_i c ho
    obtain ⟨callee, args, ts⟩ := c
    split at hv
    · cases hv
    · rename_i vs hvs
      have gvs := (evsX_sound H hl hvs).1
      have gargs : VRs ρ vs (args.map (ev l')).toList := by simpa using gvs
      simp only at hv
      split at hv
      · -- append
        split at hv
        · rename_i s x
          generalize haa : (args.map (ev l')).toList = al at gargs
          cases gargs with
          | cons a1 a2 =>
          cases a2 with
          | cons a2 a3 =>
          cases a3
          rename_i s' x'
          have ex := a2.of_plain rfl
          subst ex
          have ea : args.map (ev l') = #[s', .string x] := Array.toList_inj.1 haa
          obtain ⟨u', w', ρ', hr, g1, g2, g3⟩ := appSX_sound (ty := o.type) H a1 hv
          refine done_value (s := Builtin.append_ ts o.type #[s', .string x]) ?_ hr ⟨ρ', g1, g2, g3⟩
          unfold execOp
          simp only [ho, resolve, ea]
          rfl
        · rename_i s x _
          generalize haa : (args.map (ev l')).toList = al at gargs
          cases gargs with
          | cons a1 a2 =>
          cases a2 with
          | cons a2 a3 =>
          cases a3
          rename_i s' x'
          have ea : args.map (ev l') = #[s', x'] := Array.toList_inj.1 haa
          obtain ⟨u', w', ρ', hr, g1, g2, g3⟩ := appX_sound (ty := o.type) H a1 a2 hv
          refine done_value (s := Builtin.append_ ts o.type #[s', x']) ?_ hr ⟨ρ', g1, g2, g3⟩
          unfold execOp
          simp only [ho, resolve, ea]
          rfl
        · cases hv
      · -- a function value
        rename_i x
        split at hv
        · rename_i f a b hx
          split at hv
          · rename_i hen
            have gx := (evX_sound H hl hx).1
            generalize hz : ev l' x = z at gx
            cases gx with
            | plain hp => simp [plain1] at hp
            | @func _ _ a' _ b' h1 h2 =>
            refine done_calls (f := f) (args := ((a'.toList ++ (args.map (ev l')).toList) ++ b'.toList).toArray) ?_ (hF _ _ _ _ _ hv ρ w _ H ((h1.append gargs).append h2))
            have e1 : execOp (ev l') o = (do let d ← resolve (ev l') ⟨.value x, args, ts⟩ o.type; invoke d.target d.args) := by simp [execOp, ho]
            rw [e1]
            simp only [resolve, hz, Deferred.ofValue, Sem.run_bind, Sem.run_pure, Result.andThen, invoke]
            rw [enter_run hen]
            congr 2
            apply Array.toList_inj.1
            simp
          · cases hv
        · rename_i m a b hx
          split at hv
          · rename_i t k ha hb
            split at hv
            · rename_i f him
              split at hv
              · rename_i hen
                have gx := (evX_sound H hl hx).1
                generalize hz : ev l' x = z at gx
                cases gx with
                | plain hp => simp [plain1] at hp
                | @func _ _ a' _ b' h1 h2 =>
                rw [ha] at h1; rw [hb] at h2
                generalize haa : a'.toList = al at h1
                generalize hbb : b'.toList = bl at h2
                cases h1 with
                | cons i1 i2 =>
                cases i2
                cases h2
                cases i1 with
                | plain hp => simp [plain1] at hp
                | iface j =>
                cases j with
                | plain hp => simp [plain1] at hp
                | @ptr _ _ bk c hk =>
                have ea : a' = #[.iface t (.pointer (some ⟨bk, 0, none⟩))] := Array.toList_inj.1 haa
                subst ea
                have hm := hE.im t m f him bk (args.map (ev l')) w
                refine done_calls (f := f) (args := (Value.pointer (some ⟨bk, 0, none⟩) :: (args.map (ev l')).toList).toArray) ?_ (hF _ _ _ _ _ hv ρ w _ H (.cons (.ptr hk) gargs))
                have e1 : execOp (ev l') o = (do let d ← resolve (ev l') ⟨.value x, args, ts⟩ o.type; invoke d.target d.args) := by simp [execOp, ho]
                rw [e1]
                simp only [resolve, hz, Deferred.ofValue, Sem.run_bind, Sem.run_pure, Result.andThen, invoke]
                have h0 : (#[Value.iface t (.pointer (some ⟨bk, 0, none⟩))] ++ Array.map (ev l') args)[0]? = some (.iface t (.pointer (some ⟨bk, 0, none⟩))) := by rw [Array.getElem?_append_left (by simp)]; rfl
                simp only [h0, arg_tail]
                rw [hm]
                congr 2
                apply Array.toList_inj.1; simp
              · cases hv
            · cases hv
          · cases hv
        · cases hv
      · -- an interface's method
        rename_i x m
        split at hv
        · rename_i t k hx
          split at hv
          · rename_i f him
            split at hv
            · rename_i hen
              have gx := (evX_sound H hl hx).1
              generalize hz : ev l' x = z at gx
              cases gx with
              | plain hp => simp [plain1] at hp
              | iface j =>
              cases j with
              | plain hp => simp [plain1] at hp
              | @ptr _ _ bk c hk =>
              have hm := hE.im t m f him bk (args.map (ev l')) w
              refine done_calls (f := f) (args := (Value.pointer (some ⟨bk, 0, none⟩) :: (args.map (ev l')).toList).toArray) ?_ (hF _ _ _ _ _ hv ρ w _ H (.cons (.ptr hk) gargs))
              have e1 : execOp (ev l') o = (do let d ← resolve (ev l') ⟨.invoke x m, args, ts⟩ o.type; invoke d.target d.args) := by simp [execOp, ho]
              rw [e1]
              simp only [resolve, hz, Sem.run_bind, Sem.run_pure, Result.andThen, invoke]
              have h0 : (#[Value.iface t (.pointer (some ⟨bk, 0, none⟩))] ++ Array.map (ev l') args)[0]? = some (.iface t (.pointer (some ⟨bk, 0, none⟩))) := by rw [Array.getElem?_append_left (by simp)]; rfl
              simp only [h0, arg_tail]
              rw [hm]
              congr 2
              apply Array.toList_inj.1; simp
            · cases hv
          · cases hv
        · cases hv
      · cases hv
  · cases hv
end
end Go.Vc
