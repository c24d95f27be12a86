/- Semaphores: what the document's functions do; the chapter's examples; SemaPlays and SemaSums return true. Conditions: none. -/
import Derived.Test.YtecacohkkdhphaaSeA
import Derived.Test.YtecacohkkdhphaaEvM
import Derived.Test.YtecacohkkdhphaaSer
import Derived.Test.YtecacohkkdhphaaSel
namespace Go.Proofs.Ytecacohkkdhphaa
open Go.Vc
set_option linter.unusedSimpArgs false
set_option linter.unusedVariables false
set_option maxRecDepth 100000

section
variable {e w : World} {m : Hp} {L : List HP} {a : Option Addr} {c n b : Nat} {s : SS}
theorem se_Drop (H : St e m w (sema b s :: L)) (id : Int) : ∃ lb, w.cell? ⟨b, 0, none⟩ = some (.pointer (some ⟨lb, 0, none⟩)) ∧
    Calls Try.prog 49 #[.pointer (some ⟨lb, 0, none⟩), .int .i64 id] w (Ret fun v w' => v = .int .i64 (if s.l.has id = true then 0 else 142) ∧ St e m w' (sema b (s.drop id) :: L)) := by
  obtain ⟨lb, H⟩ := H.ex
  have H := H.flat
  refine ⟨lb, H.ld, ?_⟩
  refine (line_Drop_sp H.at_ id).mono ?_
  rintro _ w' ⟨v, rfl, rfl, H⟩
  exact ⟨_, rfl, rfl, sema_mk (s := s.drop id) H.re⟩
theorem se_Expire (H : St e m w (sema b s :: L)) (hf : s.l.fit n) (hn : n ≤ 10000) (now : Int) : ∃ lb, w.cell? ⟨b, 0, none⟩ = some (.pointer (some ⟨lb, 0, none⟩)) ∧
    Calls Try.prog 50 #[.pointer (some ⟨lb, 0, none⟩), .int .i64 now] w (Ret fun v w' => ∃ a c, v = .tuple #[.slice a (s.l.goneL now).length c, .int .i64 (if s.l.late now then 144 else 0)] ∧
      St e m w' (own (Enc.int .i64) 3 a c (s.l.goneL now) :: sema b (s.exp now) :: L)) := by
  obtain ⟨lb, H⟩ := H.ex
  have H := H.flat
  refine ⟨lb, H.ld, ?_⟩
  refine (line_Expire_sp H.at_ hf (by omega) now).mono ?_
  rintro _ w' ⟨v, rfl, a, c, rfl, H⟩
  exact ⟨_, rfl, a, c, rfl, (sema_mk (s := s.exp now) (L := own (Enc.int .i64) 3 a c (s.l.goneL now) :: L) H.re).re⟩
theorem se_List (H : St e m w (sema b s :: L)) (hf : s.l.fit n) (hn : n ≤ 10000) : ∃ lb, w.cell? ⟨b, 0, none⟩ = some (.pointer (some ⟨lb, 0, none⟩)) ∧
    Calls Try.prog 52 #[.pointer (some ⟨lb, 0, none⟩)] w (Ret fun v w' => ∃ a c, v = .slice a s.l.list.length c ∧ St e m w' (own (Enc.int .i64) 3 a c s.l.list :: sema b s :: L)) := by
  obtain ⟨lb, H⟩ := H.ex
  have H := H.flat
  refine ⟨lb, H.ld, ?_⟩
  refine (line_List_sp H.at_ hf (by omega)).mono ?_
  rintro _ w' ⟨v, rfl, a, c, rfl, H⟩
  exact ⟨_, rfl, a, c, rfl, (sema_mk (s := s) (L := own (Enc.int .i64) 3 a c s.l.list :: L) H.re).re⟩

theorem ref15_New_sp (H : St e m w L) (init most : Int) : Calls Try.prog 46 #[.int .i64 init, .int .i64 most] w (Ret fun v w' =>
    v = .tuple #[.agg (if semaBad init most then #[.slice none 0 0, .int .i64 0, .int .i64 0, .int .i64 0] else #[.slice none 0 0, .int .i64 0, .int .i64 init, .int .i64 most]), .int .i64 (if semaBad init most then 150 else 0)] ∧ St e m w' L) := by
  apply purlinref15_New.calls
  unfold purlinref15_New.F
  refine H.new fun b w H => ?_
  have bad : semaBad init most → storeC w b 0 [.slice none 0 0, .int .i64 0, .int .i64 0, .int .i64 0] fun w2 => purlinref15_New.K0 (fun v w' =>
    v = .tuple #[.agg (if semaBad init most then #[.slice none 0 0, .int .i64 0, .int .i64 0, .int .i64 0] else #[.slice none 0 0, .int .i64 0, .int .i64 init, .int .i64 most]), .int .i64 (if semaBad init most then 150 else 0)] ∧ St e m w' L) b w2 := by
    intro hb
    refine H.st fun w H => ?_
    unfold purlinref15_New.K0
    repeat (first | (refine St.new H fun b_ w_ H => ?_) | (refine St.st H fun w_ H => ?_) | (refine ⟨_, St.ld H, ?_⟩) | (refine ⟨_, _, _, St.ld H, ?_⟩) | (refine St.drw H fun w_ H => ?_))
    exact ⟨by simp [hb], H.re⟩
  refine br_dec (fun h => bad (.inl h)) fun h1 => br_dec (fun h => bad (.inr (.inl h))) fun h2 => br_dec (fun h => bad (.inr (.inr (.inl h)))) fun h3 => br_dec (fun h => bad (.inr (.inr (.inr h)))) fun h4 => ?_
  have hb : ¬ semaBad init most := by unfold semaBad; omega
  repeat (first | (refine St.new H fun b_ w_ H => ?_) | (refine St.st H fun w_ H => ?_) | (refine ⟨_, St.ld H, ?_⟩) | (refine ⟨_, _, _, St.ld H, ?_⟩) | (refine St.drw H fun w_ H => ?_))
  exact ⟨by simp [hb], H.re⟩
theorem ref15_Wait_sp (H : St e m w L) (h : RefI m a c s.l.ws) (hf : s.fit n) (hn : n ≤ 10000) (id prio u : Int) :
    Calls Try.prog 47 #[.agg #[.slice a s.l.ws.length c, .int .i64 s.l.now, .int .i64 s.count, .int .i64 s.most], .int .i64 id, .int .i64 prio, .int .i64 u] w (Ret fun v w' => ∃ a' c' m', v = .tuple #[.agg #[.slice a' (s.wait id prio u).l.ws.length c', .int .i64 (s.wait id prio u).l.now, .int .i64 (s.wait id prio u).count, .int .i64 (s.wait id prio u).most], .bool (s.waitB id prio), .int .i64 (s.waitE id prio u)] ∧
      hle m m' ∧ RefI m' a' c' (s.wait id prio u).l.ws ∧ St e m' w' L) := by
  apply purlinref15_Wait.calls
  unfold purlinref15_Wait.F
  repeat (first | (refine St.new H fun b_ w_ H => ?_) | (refine St.st H fun w_ H => ?_) | (refine ⟨_, St.ld H, ?_⟩) | (refine ⟨_, _, _, St.ld H, ?_⟩) | (refine St.drw H fun w_ H => ?_))
  refine Calls.ret (ref_Put_sp H h hf.l hn id prio (-1)) ?_
  rintro v w1 ⟨a1, c1, m1, rfl, hm1, h1, H⟩
  refine ⟨_, _, _, _, _, rfl, ?_⟩
  repeat (first | (refine St.new H fun b_ w_ H => ?_) | (refine St.st H fun w_ H => ?_) | (refine ⟨_, St.ld H, ?_⟩) | (refine ⟨_, _, _, St.ld H, ?_⟩) | (refine St.drw H fun w_ H => ?_))
  have h2 := h.mono hm1
  have := hf.c0
  have := hf.cm
  have := hf.mm
  unfold SS.waitE SS.waitB SS.wait
  refine br_intro (fun he => ?_) fun he => ?_
  · have he : s.l.err id prio (-1) ≠ 0 := by simpa using he
    simp only [if_pos he]
    repeat (first | (refine St.new H fun b_ w_ H => ?_) | (refine St.st H fun w_ H => ?_) | (refine ⟨_, St.ld H, ?_⟩) | (refine ⟨_, _, _, St.ld H, ?_⟩) | (refine St.drw H fun w_ H => ?_))
    exact ⟨a, c, m1, by simp [he], hm1, h2, H.re⟩
  · have he : s.l.err id prio (-1) = 0 := by simpa using he
    have he' : ¬ s.l.err id prio (-1) ≠ 0 := by simp [he]
    simp only [if_neg he']
    refine ⟨_, H.ld, ?_⟩
    refine br_dec (fun hc => ?_) fun hc => br_intro (fun hu0 => ?_) fun hu0 => ?_
    · have hc : 0 < s.count := hc
      have hw : IntKind.wrap .i64 (s.count - 1) = s.count - 1 := wrap64_in (by omega) (by omega)
      simp only [if_pos hc]
      repeat (first | (refine St.new H fun b_ w_ H => ?_) | (refine St.st H fun w_ H => ?_) | (refine ⟨_, St.ld H, ?_⟩) | (refine ⟨_, _, _, St.ld H, ?_⟩) | (refine St.drw H fun w_ H => ?_))
      exact ⟨a, c, m1, by simp [he, hc, hw], hm1, h2, H.re⟩
    · have hc : ¬ 0 < s.count := hc
      have hu0 : u = 0 := by simpa using hu0
      simp only [if_neg hc, if_pos hu0]
      repeat (first | (refine St.new H fun b_ w_ H => ?_) | (refine St.st H fun w_ H => ?_) | (refine ⟨_, St.ld H, ?_⟩) | (refine ⟨_, _, _, St.ld H, ?_⟩) | (refine St.drw H fun w_ H => ?_))
      exact ⟨a, c, m1, by simp [he, hc, hu0], hm1, h2, H.re⟩
    · have hc : ¬ 0 < s.count := hc
      have hu0 : u ≠ 0 := by simpa using hu0
      simp only [if_neg hc, if_neg hu0]
      repeat (first | (refine St.new H fun b_ w_ H => ?_) | (refine St.st H fun w_ H => ?_) | (refine ⟨_, St.ld H, ?_⟩) | (refine ⟨_, _, _, St.ld H, ?_⟩) | (refine St.drw H fun w_ H => ?_))
      refine Calls.ret (ref_Put_sp H h2 hf.l hn id prio u) ?_
      rintro v w2 ⟨a2, c2, m2, rfl, hm2, h3, H⟩
      refine ⟨_, _, _, _, _, rfl, ?_⟩
      repeat (first | (refine St.new H fun b_ w_ H => ?_) | (refine St.st H fun w_ H => ?_) | (refine ⟨_, St.ld H, ?_⟩) | (refine ⟨_, _, _, St.ld H, ?_⟩) | (refine St.drw H fun w_ H => ?_))
      exact ⟨a2, c2, m2, by simp [he, hc, hu0, LS.put_now], hle_trans hm1 hm2, h3, H.re⟩
theorem ref15_Signal_sp (H : St e m w L) (h : RefI m a c s.l.ws) (hf : s.fit n) (hn : n ≤ 10000) :
    Calls Try.prog 48 #[.agg #[.slice a s.l.ws.length c, .int .i64 s.l.now, .int .i64 s.count, .int .i64 s.most]] w (Ret fun v w' => ∃ a' c' m', v = .tuple #[.agg #[.slice a' s.sig.l.ws.length c', .int .i64 s.sig.l.now, .int .i64 s.sig.count, .int .i64 s.sig.most], .int .i64 s.sigI, .bool s.sigB, .int .i64 s.sigE] ∧
      hle m m' ∧ RefI m' a' c' s.sig.l.ws ∧ St e m' w' L) := by
  apply purlinref15_Signal.calls
  unfold purlinref15_Signal.F
  repeat (first | (refine St.new H fun b_ w_ H => ?_) | (refine St.st H fun w_ H => ?_) | (refine ⟨_, St.ld H, ?_⟩) | (refine ⟨_, _, _, St.ld H, ?_⟩) | (refine St.drw H fun w_ H => ?_))
  refine Calls.ret (ref_Take_sp H h hf.l hn) ?_
  rintro v w1 ⟨a1, c1, m1, rfl, hm1, h1, H⟩
  refine ⟨_, _, _, _, _, _, rfl, ?_⟩
  repeat (first | (refine St.new H fun b_ w_ H => ?_) | (refine St.st H fun w_ H => ?_) | (refine ⟨_, St.ld H, ?_⟩) | (refine ⟨_, _, _, St.ld H, ?_⟩) | (refine St.drw H fun w_ H => ?_))
  have h2 := h.mono hm1
  have := hf.c0
  have := hf.cm
  have := hf.mm
  unfold SS.sigI SS.sigB SS.sigE SS.sig
  refine br_intro (fun hh => ?_) fun hh => ?_
  · simp only [if_pos hh]
    repeat (first | (refine St.new H fun b_ w_ H => ?_) | (refine St.st H fun w_ H => ?_) | (refine ⟨_, St.ld H, ?_⟩) | (refine ⟨_, _, _, St.ld H, ?_⟩) | (refine St.drw H fun w_ H => ?_))
    exact ⟨a1, c1, m1, by rw [hh, LS.taken_now], hm1, h1, H.re⟩
  · have hd : s.l.list.head?.getD 0 = 0 := by
      cases hl : s.l.list.head? with
      | none => rfl
      | some x => rw [hl] at hh; cases hh
    have hh' : ¬ s.l.list.head?.isSome = true := by rw [hh]; simp
    simp only [if_neg hh', hd]
    refine ⟨_, H.ld, _, H.ld, ?_⟩
    refine br_dec (fun hc => ?_) fun hc => ?_
    · have hc : s.count = s.most := by omega
      simp only [if_pos hc]
      repeat (first | (refine St.new H fun b_ w_ H => ?_) | (refine St.st H fun w_ H => ?_) | (refine ⟨_, St.ld H, ?_⟩) | (refine ⟨_, _, _, St.ld H, ?_⟩) | (refine St.drw H fun w_ H => ?_))
      exact ⟨a, c, m1, by rw [hh], hm1, h2, H.re⟩
    · have hc : s.count ≠ s.most := by omega
      have hw : IntKind.wrap .i64 (s.count + 1) = s.count + 1 := wrap64_in (by omega) (by omega)
      simp only [if_neg hc]
      repeat (first | (refine St.new H fun b_ w_ H => ?_) | (refine St.st H fun w_ H => ?_) | (refine ⟨_, St.ld H, ?_⟩) | (refine ⟨_, _, _, St.ld H, ?_⟩) | (refine St.drw H fun w_ H => ?_))
      exact ⟨a, c, m1, by rw [hh, hw], hm1, h2, H.re⟩
end

def kA0 : SS := ⟨LS.new, 1, 2⟩
def kA1 : SS := ⟨LS.new, 0, 2⟩
def kA2 : SS := ⟨⟨[⟨8, 5, -1, 1⟩], 1, 0⟩, 0, 2⟩
def kA3 : SS := ⟨⟨[⟨8, 5, -1, 1⟩, ⟨9, 6, 10, 2⟩], 2, 0⟩, 0, 2⟩
def kA5 : SS := ⟨⟨[], 2, 0⟩, 0, 2⟩
def kA6 : SS := ⟨⟨[], 2, 0⟩, 1, 2⟩
def kA7 : SS := ⟨⟨[], 2, 0⟩, 2, 2⟩
theorem xA1 : kA0.wait 7 5 (-1) = kA1 := by kernel_rfl
theorem xA2 : kA1.wait 8 5 0 = kA1 := by kernel_rfl
theorem xA3 : kA1.wait 8 5 (-1) = kA2 := by kernel_rfl
theorem xA4 : kA2.wait 9 6 10 = kA3 := by kernel_rfl
theorem yA0 : kA0.fit 0 := ⟨LS.new_fit 0, by decide, by decide, by decide⟩
theorem yA1 : kA1.fit 1 := xA1 ▸ yA0.wait 7 5 (-1)
theorem yA2 : kA2.fit 2 := xA3 ▸ yA1.wait 8 5 (-1)
theorem yA3 : kA3.fit 3 := xA4 ▸ yA2.wait 9 6 10
theorem zA3 : kA3.l.list = [9, 8] := by
  have : ordL kA3.l.ws = [⟨9, 6, 10, 2⟩, ⟨8, 5, -1, 1⟩] := (ordL_eq yA3.l.ok.came_ (by decide) (by decide)).symm
  unfold LS.list; rw [this]; rfl
theorem xA5 : kA3.sig = ⟨⟨[⟨8, 5, -1, 1⟩], 2, 0⟩, 0, 2⟩ := by
  unfold SS.sig LS.taken; rw [zA3]; rfl
theorem yA4 : (SS.mk ⟨[⟨8, 5, -1, 1⟩], 2, 0⟩ 0 2).fit 3 := xA5 ▸ yA3.sig
theorem zA4 : (SS.mk ⟨[⟨8, 5, -1, 1⟩], 2, 0⟩ 0 2).l.list = [8] := by
  have : ordL [(⟨8, 5, -1, 1⟩ : Wt)] = [⟨8, 5, -1, 1⟩] := (ordL_eq yA4.l.ok.came_ (by decide) (by decide)).symm
  unfold LS.list; rw [this]; rfl
theorem xA6 : (SS.mk ⟨[⟨8, 5, -1, 1⟩], 2, 0⟩ 0 2).sig = kA5 := by
  unfold SS.sig LS.taken; rw [zA4]; rfl
theorem yA5 : kA5.fit 3 := xA6 ▸ yA4.sig
theorem zA5 {k m : Int} : (SS.mk ⟨[], 2, 0⟩ k m).l.list = [] := list_nil rfl
theorem xA7 : kA5.sig = kA6 := by unfold SS.sig; rw [show kA5.l.list = [] from zA5]; rfl
theorem yA6 : kA6.fit 3 := xA7 ▸ yA5.sig
theorem xA8 : kA6.sig = kA7 := by unfold SS.sig; rw [show kA6.l.list = [] from zA5]; rfl
theorem yA7 : kA7.fit 3 := xA8 ▸ yA6.sig
theorem xA9 : kA7.sig = kA7 := by unfold SS.sig; rw [show kA7.l.list = [] from zA5]; rfl

theorem awake15_sp {e w : World} {m : Hp} {L : List HP} (H : St e m w L) : Calls Try.prog 36 #[] w (Ret fun v w' => v = .bool true ∧ St e m w' L) := by
  apply purlinlaw15_awake.calls
  unfold purlinlaw15_awake.F
  refine Calls.ret (sema_New_sp H 1 2) ?_
  rintro v w1 ⟨_, hv⟩
  obtain ⟨b, rfl, H⟩ := hv (by decide)
  refine ⟨_, _, rfl, br_f rfl (br_f rfl ?_)⟩
  refine Calls.ret (sema_Wait_sp (s := kA0) H yA0 (by decide) 7 5 (-1)) ?_
  rintro v w2 ⟨rfl, H⟩
  rw [xA1] at H
  refine ⟨_, _, rfl, ?_⟩
  refine Calls.ret (sema_Wait_sp H yA1 (by decide) 8 5 0) ?_
  rintro v w3 ⟨rfl, H⟩
  rw [xA2] at H
  refine ⟨_, _, rfl, ?_⟩
  refine Calls.ret (sema_Wait_sp H yA1 (by decide) 8 5 (-1)) ?_
  rintro v w4 ⟨rfl, H⟩
  rw [xA3] at H
  refine ⟨_, _, rfl, ?_⟩
  refine Calls.ret (sema_Wait_sp H yA2 (by decide) 9 6 10) ?_
  rintro v w5 ⟨rfl, H⟩
  rw [xA4] at H
  refine ⟨_, _, rfl, ?_⟩
  refine Calls.ret (sema_Signal_sp H yA3 (by decide)) ?_
  rintro v w6 ⟨rfl, H⟩
  rw [xA5] at H
  refine ⟨_, _, _, rfl, ?_⟩
  refine Calls.ret (sema_Signal_sp H yA4 (by decide)) ?_
  rintro v w7 ⟨rfl, H⟩
  rw [xA6] at H
  refine ⟨_, _, _, rfl, ?_⟩
  refine Calls.ret (sema_Signal_sp H yA5 (by decide)) ?_
  rintro v w8 ⟨rfl, H⟩
  rw [xA7] at H
  refine ⟨_, _, _, rfl, ?_⟩
  refine Calls.ret (sema_Signal_sp H yA6 (by decide)) ?_
  rintro v w9 ⟨rfl, H⟩
  rw [xA8] at H
  refine ⟨_, _, _, rfl, ?_⟩
  refine Calls.ret (sema_Signal_sp H yA7 (by decide)) ?_
  rintro v w10 ⟨rfl, H⟩
  rw [xA9] at H
  refine ⟨_, _, _, rfl, ?_⟩
  unfold SS.sigI SS.sigB SS.sigE
  rw [zA3, zA4, show kA5.l.list = [] from zA5, show kA7.l.list = [] from zA5]
  refine br_t rfl (br_t rfl (br_t rfl (br_t rfl (br_t rfl (br_t rfl (br_t rfl (br_t rfl (br_t rfl (br_t rfl (br_t rfl (br_t rfl (br_t rfl (br_t rfl (br_t rfl (br_t rfl (br_t rfl ?_))))))))))))))))
  refine Calls.ret (sema_Count_sp H) ?_
  rintro v w11 ⟨rfl, rfl⟩
  exact ⟨_, rfl, rfl, H.drop⟩

structure SCall where
  kind : Int
  id : Int
  prio : Int
  until_ : Int
deriving Inhabited
def encS : Enc SCall := ⟨4, fun x => [.int .i64 x.kind, .int .i64 x.id, .int .i64 x.prio, .int .i64 x.until_], fun _ => rfl, by decide, fun x v hv => by
  simp at hv; rcases hv with h | h | h | h <;> rw [h] <;> rfl⟩
theorem goneL_len {s : LS} {n : Nat} (h : s.fit n) (now : Int) : (s.goneL now).length ≤ n := by
  unfold LS.goneL; split
  · simp
  · rw [List.length_map, (ordE_perm _).length_eq]
    have := List.length_filter_le (fun x : Wt => decide (x.until_ ≠ -1) && decide (x.until_ ≤ now)) s.ws
    have := h.len
    unfold LS.gone; omega

theorem SemaPlays_any {w0 : World} {a : Option Addr} {c : Nat} {xs : List SCall} (init most : Int) (hx : SlR encS w0 a xs) :
    Calls Try.prog 13 #[.int .i64 init, .int .i64 most, .slice a xs.length c] w0 (Ret fun v w' => v = .bool true ∧ Ch [] w0 w') := by
  have H := St.init w0
  have hx := hx.sli
  apply purlinlaw15_SemaPlays.calls
  unfold purlinlaw15_SemaPlays.F
  refine Calls.ret (sema_New_sp H init most) ?_
  rintro v w1 ⟨h1, h2⟩
  by_cases hb : semaBad init most
  · obtain ⟨rfl, H⟩ := h1 hb
    refine ⟨_, _, rfl, ?_⟩
    refine Calls.ret (ref15_New_sp H init most) ?_
    rintro v w2 ⟨rfl, H⟩
    simp only [if_pos hb]
    refine ⟨_, _, _, _, _, _, _, rfl, ?_⟩
    repeat (first | (refine St.new H fun b_ w_ H => ?_) | (refine St.st H fun w_ H => ?_) | (refine ⟨_, St.ld H, ?_⟩) | (refine ⟨_, _, _, St.ld H, ?_⟩) | (refine St.drw H fun w_ H => ?_))
    refine Calls.ret (awake15_sp H) ?_
    rintro v w3 ⟨rfl, H⟩
    exact ⟨_, rfl, br_f rfl (br_f rfl (br_f rfl (br_t rfl ⟨by trivial, H.fin (hle_refl _)⟩)))⟩
  · obtain ⟨sb, rfl, H⟩ := h2 hb
    refine ⟨_, _, rfl, ?_⟩
    refine Calls.ret (ref15_New_sp H init most) ?_
    rintro v w2 ⟨rfl, H⟩
    simp only [if_neg hb]
    refine ⟨_, _, _, _, _, _, _, rfl, ?_⟩
    refine H.new fun b w H => H.st fun w H => ?_
    refine Calls.ret (awake15_sp H) ?_
    rintro v w3 ⟨rfl, H⟩
    refine ⟨_, rfl, br_f rfl (br_f rfl (br_f rfl (br_f rfl ?_)))⟩
    have hb' : ¬ (most < 1 ∨ 255 < most ∨ init < 0 ∨ most < init) := hb
    refine ⟨fun n i w' => ∃ (k : Nat) (s : SS) (m : Hp) (a' : Option Addr) (c' : Nat), i = k ∧ k ≤ 60 ∧ n = 60 - k ∧ s.fit k ∧ hle (hpOf w0) m ∧ RefI m a' c' s.l.ws ∧
        St w0 m w' [sema sb s, row b 97 [.slice a' s.l.ws.length c', .int .i64 s.l.now, .int .i64 s.count, .int .i64 s.most]],
      ⟨_, 0, ⟨LS.new, init, most⟩, _, none, 0, rfl, by omega, rfl, ⟨LS.new_fit 0, by show 0 ≤ init; omega, by show init ≤ most; omega, by show most ≤ 255; omega⟩, hle_refl _, RefI.nil, H.re⟩, ?_⟩
    rintro n9 dead w5 i ⟨k, s, m, a', c', rfl, hk, rfl, hf, hm, hr, H⟩
    unfold purlinlaw15_SemaPlays.L0
    refine br_dec (fun hlt => br_dec (fun hlt2 => ?_) fun _ => ⟨rfl, H.fin hm⟩) fun _ => ⟨rfl, H.fin hm⟩
    have hlt : k < xs.length := by omega
    have hlt2 : k < 60 := by omega
    obtain ⟨x, hxk⟩ : ∃ x, xs[k]? = some x := ⟨xs[k], by simp [hlt]⟩
    have hxe : xs[k] = x := by have h := hxk; rw [List.getElem?_eq_getElem hlt] at h; exact Option.some.inj h
    refine ⟨by omega, by omega, ?_⟩
    obtain ⟨ab, ao, rfl, hcell⟩ := (H.sli (hx.mono hm)) k _ hxk
    simp only [okP_some, pb_some, po_some, toNat_nat]
    refine ⟨_, hcell 0 _ rfl, _, hcell 1 _ rfl, _, hcell 2 _ rfl, _, hcell 3 _ rfl, ?_⟩
    refine H.new fun b1 w H => H.st fun w H => ⟨_, H.ld, ?_⟩
    have fin : ∀ (w9 : World) (s' : SS) (m' : Hp) (a9 : Option Addr) (c9 : Nat), s'.fit (k + 1) → hle (hpOf w0) m' → RefI m' a9 c9 s'.l.ws →
        St w0 m' w9 [sema sb s', row b 97 [.slice a9 s'.l.ws.length c9, .int .i64 s'.l.now, .int .i64 s'.count, .int .i64 s'.most]] →
        purlinlaw15_SemaPlays.K0 (fun v w' => v = .bool true ∧ Ch [] w0 w') (some ⟨sb, 0, none⟩) b k
          (fun x0 w9 => ∃ m, m < 60 - k ∧ ∃ (k : Nat) (s : SS) (m_1 : Hp) (a' : Option Addr) (c' : Nat), x0 = k ∧ k ≤ 60 ∧ m = 60 - k ∧ s.fit k ∧ hle (hpOf w0) m_1 ∧ RefI m_1 a' c' s.l.ws ∧
            St w0 m_1 w9 [sema sb s, row b 97 [.slice a' s.l.ws.length c', .int .i64 s.l.now, .int .i64 s.count, .int .i64 s.most]]) w9 := by
      intro w9 s' m' a9 c9 hf' hm' hr' H
      unfold purlinlaw15_SemaPlays.K0
      refine H.drwS (fun w => ∃ L, St w0 m' w (row b 97 [.slice a9 s'.l.ws.length c9, .int .i64 s'.l.now, .int .i64 s'.count, .int .i64 s'.most] :: L)) (fun w H => ⟨_, H.re⟩) fun w H => ?_
      refine ⟨_, fun w9 ⟨L, H⟩ => H.ld, ?_⟩
      refine Calls.ret (sema_Count_sp H) ?_
      rintro v w1 ⟨rfl, rfl⟩
      refine ⟨_, rfl, ⟨_, H.re⟩, br_f (by simp) ?_⟩
      try simp only [okP_some]
      obtain ⟨lb, hc, hd⟩ := se_List H hf'.l (by omega)
      refine ⟨_, hc, _, _, _, fun w9 ⟨L, H⟩ => H.ld, _, fun w9 ⟨L, H⟩ => H.ld, ?_⟩
      refine Calls.ret hd ?_
      rintro v w2 ⟨a2, c2, rfl, H⟩
      refine ⟨_, _, _, rfl, ⟨_, H.re⟩, ?_⟩
      refine Calls.ret (ref_List_sp H hr' hf'.l (by omega)) ?_
      rintro v w3 ⟨a3, c3, rfl, H⟩
      refine ⟨_, _, _, rfl, ?_⟩
      have h2 := (H.foc (.tl .hd)).ownOut.slr
      have h3 := H.ownOut.slr
      refine Calls.ret (same_sp H h2 h3 (by rw [list_len]; have := hf'.l.len; omega)) ?_
      rintro v w4 ⟨rfl, H⟩
      refine ⟨_, rfl, br_f (by simp) ?_⟩
      exact ⟨60 - (k + 1), by omega, k + 1, s', m', a9, c9, wrapk1 (by omega), by omega, rfl, hf', hm', hr', H.re⟩
    refine br_intro (fun h0 => ?_) fun h0 => br_intro (fun h1 => ?_) fun h1 => br_intro (fun h2 => ?_) fun h2 => br_intro (fun h3 => ?_) fun h3 => ?_
    · repeat (first | (refine St.new H fun b_ w_ H => ?_) | (refine St.st H fun w_ H => ?_) | (refine ⟨_, St.ld H, ?_⟩) | (refine ⟨_, _, _, St.ld H, ?_⟩) | (refine St.drw H fun w_ H => ?_))
      refine Calls.ret (ref15_Wait_sp H hr hf (by omega) x.id x.prio x.until_) ?_
      rintro v w1 ⟨a1, c1, m1, rfl, hm1, hr1, H⟩
      refine ⟨_, _, _, _, _, _, _, _, rfl, ?_⟩
      repeat (first | (refine St.new H fun b_ w_ H => ?_) | (refine St.st H fun w_ H => ?_) | (refine ⟨_, St.ld H, ?_⟩) | (refine ⟨_, _, _, St.ld H, ?_⟩) | (refine St.drw H fun w_ H => ?_))
      refine Calls.ret (sema_Wait_sp H.at_ hf (by omega) x.id x.prio x.until_) ?_
      rintro v w2 ⟨rfl, H⟩
      refine ⟨_, _, rfl, br_f (by simp) (br_f (by simp) ?_)⟩
      exact fin _ _ _ _ _ (hf.wait _ _ _) (hle_trans hm hm1) hr1 H.re
    · repeat (first | (refine St.new H fun b_ w_ H => ?_) | (refine St.st H fun w_ H => ?_) | (refine ⟨_, St.ld H, ?_⟩) | (refine ⟨_, _, _, St.ld H, ?_⟩) | (refine St.drw H fun w_ H => ?_))
      refine Calls.ret (ref15_Signal_sp H hr hf (by omega)) ?_
      rintro v w1 ⟨a1, c1, m1, rfl, hm1, hr1, H⟩
      refine ⟨_, _, _, _, _, _, _, _, _, rfl, ?_⟩
      repeat (first | (refine St.new H fun b_ w_ H => ?_) | (refine St.st H fun w_ H => ?_) | (refine ⟨_, St.ld H, ?_⟩) | (refine ⟨_, _, _, St.ld H, ?_⟩) | (refine St.drw H fun w_ H => ?_))
      refine Calls.ret (sema_Signal_sp H.at_ hf (by omega)) ?_
      rintro v w2 ⟨rfl, H⟩
      refine ⟨_, _, _, rfl, br_f (by simp) (br_f (by simp) (br_f (by simp) ?_))⟩
      exact fin _ _ _ _ _ (hf.sig.mono (by omega)) (hle_trans hm hm1) hr1 H.re
    · repeat (first | (refine St.new H fun b_ w_ H => ?_) | (refine St.st H fun w_ H => ?_) | (refine ⟨_, St.ld H, ?_⟩) | (refine ⟨_, _, _, St.ld H, ?_⟩) | (refine St.drw H fun w_ H => ?_))
      refine Calls.ret (ref_Drop_sp H hr hf.l (by omega) x.id) ?_
      rintro v w1 ⟨a1, c1, m1, rfl, hm1, hr1, H⟩
      refine ⟨_, _, _, _, _, rfl, ?_⟩
      repeat (first | (refine St.new H fun b_ w_ H => ?_) | (refine St.st H fun w_ H => ?_) | (refine ⟨_, St.ld H, ?_⟩) | (refine ⟨_, _, _, St.ld H, ?_⟩) | (refine St.drw H fun w_ H => ?_))
      try simp only [okP_some]
      obtain ⟨lb, hc, hd⟩ := se_Drop (H.at_ (A := sema sb s)) x.id
      refine ⟨_, hc, _, H.ld, ?_⟩
      refine Calls.ret hd ?_
      rintro v w2 ⟨rfl, H⟩
      refine ⟨_, rfl, br_f (by simp) ?_⟩
      exact fin _ (s.drop x.id) _ _ _ ((hf.drop _).mono (by omega)) (hle_trans hm hm1) hr1 H.re
    · repeat (first | (refine St.new H fun b_ w_ H => ?_) | (refine St.st H fun w_ H => ?_) | (refine ⟨_, St.ld H, ?_⟩) | (refine ⟨_, _, _, St.ld H, ?_⟩) | (refine St.drw H fun w_ H => ?_))
      refine Calls.ret (ref_Expire_sp H hr hf.l (by omega) x.until_) ?_
      rintro v w1 ⟨a1, c1, a2, c2, m1, rfl, hm1, hr1, hs1, H⟩
      refine ⟨_, _, _, _, _, _, _, _, rfl, ?_⟩
      repeat (first | (refine St.new H fun b_ w_ H => ?_) | (refine St.st H fun w_ H => ?_) | (refine ⟨_, St.ld H, ?_⟩) | (refine ⟨_, _, _, St.ld H, ?_⟩) | (refine St.drw H fun w_ H => ?_))
      try simp only [okP_some]
      obtain ⟨lb, hc, hd⟩ := se_Expire (H.at_ (A := sema sb s)) hf.l (by omega) x.until_
      refine ⟨_, hc, _, H.ld, ?_⟩
      refine Calls.ret hd ?_
      rintro v w2 ⟨a3, c3, rfl, H⟩
      refine ⟨_, _, _, _, rfl, br_f (by simp) ?_⟩
      refine Calls.ret (same_sp H H.ownOut.slr (H.sli hs1) (by have := goneL_len hf.l x.until_; omega)) ?_
      rintro v w4 ⟨rfl, H⟩
      refine ⟨_, rfl, br_f (by simp) ?_⟩
      exact fin _ (s.exp x.until_) _ _ _ ((hf.exp _).mono (by omega)) (hle_trans hm hm1) hr1 H.re
    · exact fin _ s _ _ _ (hf.mono (by omega)) hm hr H.re
end Go.Proofs.Ytecacohkkdhphaa
