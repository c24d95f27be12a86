/- Processes: what the document's Do does. Conditions: none. -/
import Derived.Test.YtecacohkkdhphaaPrE
namespace Go.Proofs.Ytecacohkkdhphaa
open Go.Vc
set_option linter.unusedSimpArgs false
set_option linter.unusedVariables false
set_option maxRecDepth 100000

section
variable {e w : World} {m : Hp} {L : List HP} {x : RA} {U : RT} {k i p : Int}
theorem ref17_Do_sp (H : St e m w (own (Enc.int .u8) 5 x.a x.c U.pr :: own encD 60 x.a1 x.c1 U.l :: own (Enc.int .i64) 3 x.a2 x.c2 U.cm :: L)) (hk : okKind k) (hpl : U.l.length = U.pr.length) (hl : U.l.length ≤ 16) (hcm : U.cm.length ≤ 1000000) (hp : ∀ p ∈ U.pr, 0 ≤ p ∧ p ≤ 63) (he : prErr U.pr = 0) :
    Calls Try.prog 24 #[.agg #[.slice x.a U.pr.length x.c, .slice x.a1 U.l.length x.c1, .slice x.a2 U.cm.length x.c2], .agg #[.int .i64 k, .int .i64 i, .int .i64 p]] w (Ret fun v w' => ∃ x' : RA, v = .tuple #[.agg #[.slice x'.a (U.doS k i p).pr.length x'.c, .slice x'.a1 (U.doS k i p).l.length x'.c1, .slice x'.a2 (U.doS k i p).cm.length x'.c2], .int .i64 (U.doE k i p)] ∧ St e m w' (own (Enc.int .u8) 5 x'.a x'.c (U.doS k i p).pr :: own encD 60 x'.a1 x'.c1 (U.doS k i p).l :: own (Enc.int .i64) 3 x'.a2 x'.c2 (U.doS k i p).cm :: L)) := by
  apply purlinref17_Do.calls
  unfold purlinref17_Do.F
  obtain ⟨R, hR⟩ : ∃ R : Value → World → Prop, R = fun v w' => ∃ x' : RA, v = .tuple #[.agg #[.slice x'.a (U.doS k i p).pr.length x'.c, .slice x'.a1 (U.doS k i p).l.length x'.c1, .slice x'.a2 (U.doS k i p).cm.length x'.c2], .int .i64 (U.doE k i p)] ∧ St e m w' (own (Enc.int .u8) 5 x'.a x'.c (U.doS k i p).pr :: own encD 60 x'.a1 x'.c1 (U.doS k i p).l :: own (Enc.int .i64) 3 x'.a2 x'.c2 (U.doS k i p).cm :: L) := ⟨_, rfl⟩
  rw [← hR]
  have stay : ∀ {w' : World} {E : Int}, U.doE k i p = E → E ≠ 0 → k ≠ 8 → St e m w' (own (Enc.int .u8) 5 x.a x.c U.pr :: own encD 60 x.a1 x.c1 U.l :: own (Enc.int .i64) 3 x.a2 x.c2 U.cm :: L) → R (.tuple #[.agg #[.slice x.a U.pr.length x.c, .slice x.a1 U.l.length x.c1, .slice x.a2 U.cm.length x.c2], .int .i64 E]) w' := by
    intro w' E h1 h2 h8 H
    have : U.doS k i p = U := by unfold RT.doS; rw [if_neg h8, if_neg (by omega)]
    rw [hR]
    exact ⟨x, by rw [this, h1], by rw [this]; exact H⟩
  refine H.new fun b w H => H.new fun b1 w H => H.new fun b2 w H => ⟨_, H.ld, ?_⟩
  refine br_intro (fun h8 => ?_) fun h8 => ?_
  · have h8 : k = 8 := by simpa using h8
    refine ⟨_, _, _, H.ld, ?_⟩
    have H := H.at_ (A := own (Enc.int .u8) 5 x.a x.c U.pr)
    refine Calls.ret (ref17_New_sp (pr := U.pr) H (fun w H => H.ownOut.slr) (fun q hq => by have := hp q hq; omega)) ?_
    rintro v w1 ⟨y, rfl, H⟩
    refine ⟨_, _, _, _, _, _, _, _, _, _, rfl, ?_⟩
    have e1 : U.doS k i p = RT.mkN U.pr := by unfold RT.doS; rw [if_pos h8]
    have e2 : U.doE k i p = 0 := by unfold RT.doE; rw [if_pos h8]
    repeat (first | (refine St.new H fun b_ w_ H => ?_) | (refine St.st H fun w_ H => ?_) | (refine ⟨_, St.ld H, ?_⟩) | (refine ⟨_, _, _, St.ld H, ?_⟩) | (refine St.drw H fun w_ H => ?_))
    rw [hR]
    exact ⟨y, by rw [e1, e2], by rw [e1]; exact H.re⟩
  have h8 : k ≠ 8 := by simpa using h8
  refine ⟨_, H.ld, ?_⟩
  refine br_dec (fun h => ?_) fun hi0 => ?_
  · unfold purlinref17_Do.K0
    repeat (first | (refine St.new H fun b_ w_ H => ?_) | (refine St.st H fun w_ H => ?_) | (refine ⟨_, St.ld H, ?_⟩) | (refine ⟨_, _, _, St.ld H, ?_⟩) | (refine St.drw H fun w_ H => ?_))
    exact stay (by unfold RT.doE; rw [if_neg h8, if_pos (.inl h)]) (by decide) h8 H.re
  refine ⟨_, H.ld, _, _, _, H.ld, ?_⟩
  refine br_dec (fun h => ?_) fun hi1 => ?_
  · unfold purlinref17_Do.K0
    repeat (first | (refine St.new H fun b_ w_ H => ?_) | (refine St.st H fun w_ H => ?_) | (refine ⟨_, St.ld H, ?_⟩) | (refine ⟨_, _, _, St.ld H, ?_⟩) | (refine St.drw H fun w_ H => ?_))
    exact stay (by unfold RT.doE; rw [if_neg h8, if_pos (.inr h)]) (by decide) h8 H.re
  have hin : ¬ (i < 0 ∨ (U.l.length : Int) ≤ i) := by omega
  obtain ⟨j, rfl⟩ := Int.eq_ofNat_of_zero_le (Int.not_lt.1 hi0)
  have hj : j < U.l.length := by omega
  have k8 : ¬ (k = 6 ∧ (p < 0 ∨ 63 < p)) → purlinref17_Do.K8 R b b1 b2 w := by
    intro h6
    unfold purlinref17_Do.K8
    refine ⟨_, _, _, H.ld, _, H.ld, ?_⟩
    obtain ⟨y, hy⟩ : ∃ y, U.l[j]? = some y := ⟨_, List.getElem?_eq_getElem hj⟩
    obtain ⟨fp, hfp⟩ : ∃ fp, U.pr[j]? = some fp := ⟨_, List.getElem?_eq_getElem (by omega)⟩
    have hfb := hp fp (List.mem_of_getElem? hfp)
    have hE : U.doE k (j : Int) p = if opIs k y = true then 0 else 171 := by
      unfold RT.doE; rw [if_neg h8, if_neg hin, if_neg h6, toNat_nat, hy]; rfl
    have fin0 : opIs k y = false → ∀ w', St e m w' (own (Enc.int .u8) 5 x.a x.c U.pr :: own encD 60 x.a1 x.c1 U.l :: own (Enc.int .i64) 3 x.a2 x.c2 U.cm :: L) → R (.tuple #[.agg #[.slice x.a U.pr.length x.c, .slice x.a1 U.l.length x.c1, .slice x.a2 U.cm.length x.c2], .int .i64 171]) w' :=
      fun h w' H => stay (by rw [hE, h]; rfl) (by decide) h8 H
    have hS : opIs k y = true → U.doS k (j : Int) p = ⟨U.pr, U.l.set j (rDo k fp p y), if behindK k = true then U.cm ++ [(j : Int)] else U.cm⟩ := by
      intro h
      unfold RT.doS
      rw [if_neg h8, hE, if_pos h, if_pos rfl, toNat_nat, hy, hfp]; rfl
    have fin1 : opIs k y = true → behindK k = false → ∀ w' a1 c1, St e m w' (own (Enc.int .u8) 5 x.a x.c U.pr :: own encD 60 a1 c1 (U.l.set j (rDo k fp p y)) :: own (Enc.int .i64) 3 x.a2 x.c2 U.cm :: L) →
        R (.tuple #[.agg #[.slice x.a U.pr.length x.c, .slice a1 U.l.length c1, .slice x.a2 U.cm.length x.c2], .int .i64 0]) w' := by
      intro h hb w' a1 c1 H
      rw [hR, hS h, hE, if_pos h, if_neg (by rw [hb]; decide)]
      exact ⟨⟨x.a, x.c, a1, c1, x.a2, x.c2⟩, by simp, H⟩
    have fin2 : opIs k y = true → behindK k = true → ∀ w' a1 c1 a2 c2, St e m w' (own (Enc.int .u8) 5 x.a x.c U.pr :: own encD 60 a1 c1 (U.l.set j (rDo k fp p y)) :: own (Enc.int .i64) 3 a2 c2 (U.cm ++ [(j : Int)]) :: L) →
        R (.tuple #[.agg #[.slice x.a U.pr.length x.c, .slice a1 U.l.length c1, .slice a2 (U.cm ++ [(j : Int)]).length c2], .int .i64 0]) w' := by
      intro h hb w' a1 c1 a2 c2 H
      rw [hR, hS h, hE, if_pos h, if_pos hb]
      exact ⟨⟨x.a, x.c, a1, c1, a2, c2⟩, by simp, H⟩
    refine ⟨by omega, by omega, ?_⟩
    obtain ⟨g, go, hga, hcell⟩ := (H.osl (E := encD) (xs := U.l)) j _ hy
    rw [hga]
    simp only [okP_some, pb_some, po_some, toNat_nat]
    refine ⟨_, hcell 0 _ rfl, _, hcell 1 _ rfl, _, hcell 2 _ rfl, ?_⟩
    refine H.new fun b4 w H => ?_
    refine H.st fun w H => ?_
    refine ⟨_, H.ld, ?_⟩
    have k5 : ∀ {q : Nat} {ok : Bool} {cs : List Value} {w : World} {L' : List HP}, St e m w (row q 60 cs :: row b4 60 [.int .i64 y.st, .bool y.held, .int .i64 y.prio] :: row b2 42 [.slice none 0 0, .slice none 0 0, .slice none 0 0] :: row b1 46 [.int .i64 k, .int .i64 (j : Int), .int .i64 p] :: row b 42 [.slice x.a U.pr.length x.c, .slice x.a1 U.l.length x.c1, .slice x.a2 U.cm.length x.c2] :: own (Enc.int .u8) 5 x.a x.c U.pr :: own encD 60 x.a1 x.c1 U.l :: own (Enc.int .i64) 3 x.a2 x.c2 U.cm :: L) →
        cs = encD.f (rDo k fp p y) → ok = opIs k y → behindK k = true → purlinref17_Do.K5 R b b1 b2 q ok w := by
      intro q ok cs w L' H h1 h2 h3
      exact doK5 (x := x) (U := U) (L := L) H.re hj hl hcm h1 (fun h => fin0 (h2 ▸ h)) (fun h => fin2 (h2 ▸ h) h3)
    have k4 : ∀ {q : Nat} {ok : Bool} {cs : List Value} {w : World} {L' : List HP}, St e m w (row q 60 cs :: row b4 60 [.int .i64 y.st, .bool y.held, .int .i64 y.prio] :: row b2 42 [.slice none 0 0, .slice none 0 0, .slice none 0 0] :: row b1 46 [.int .i64 k, .int .i64 (j : Int), .int .i64 p] :: row b 42 [.slice x.a U.pr.length x.c, .slice x.a1 U.l.length x.c1, .slice x.a2 U.cm.length x.c2] :: own (Enc.int .u8) 5 x.a x.c U.pr :: own encD 60 x.a1 x.c1 U.l :: own (Enc.int .i64) 3 x.a2 x.c2 U.cm :: L) →
        cs = encD.f (rDo k fp p y) → ok = opIs k y → behindK k = false → purlinref17_Do.K4 R b b1 b2 q ok w := by
      intro q ok cs w L' H h1 h2 h3
      exact doK4 (x := x) (U := U) (L := L) H.re hj hl h1 (fun h => fin0 (h2 ▸ h)) (fun h => fin1 (h2 ▸ h) h3)
    have k6 : ∀ {q : Nat} {cs : List Value} {w : World} {L' : List HP}, St e m w (row q 60 cs :: row b4 60 [.int .i64 y.st, .bool y.held, .int .i64 y.prio] :: row b2 42 [.slice none 0 0, .slice none 0 0, .slice none 0 0] :: row b1 46 [.int .i64 k, .int .i64 (j : Int), .int .i64 p] :: row b 42 [.slice x.a U.pr.length x.c, .slice x.a1 U.l.length x.c1, .slice x.a2 U.cm.length x.c2] :: own (Enc.int .u8) 5 x.a x.c U.pr :: own encD 60 x.a1 x.c1 U.l :: own (Enc.int .i64) 3 x.a2 x.c2 U.cm :: L) →
        opIs k y = false → purlinref17_Do.K6 R b b2 q w := by
      intro q cs w L' H h1
      exact doK6 (L := own (Enc.int .u8) 5 x.a x.c U.pr :: own encD 60 x.a1 x.c1 U.l :: own (Enc.int .i64) 3 x.a2 x.c2 U.cm :: L) H.re (fin0 h1)
    have k7 : ∀ {q : Nat} {ok : Bool} {w : World} {L' : List HP}, St e m w (row q 60 [.int .i64 y.st, .bool y.held, .int .i64 y.prio] :: row b4 60 [.int .i64 y.st, .bool y.held, .int .i64 y.prio] :: row b2 42 [.slice none 0 0, .slice none 0 0, .slice none 0 0] :: row b1 46 [.int .i64 k, .int .i64 (j : Int), .int .i64 p] :: row b 42 [.slice x.a U.pr.length x.c, .slice x.a1 U.l.length x.c1, .slice x.a2 U.cm.length x.c2] :: own (Enc.int .u8) 5 x.a x.c U.pr :: own encD 60 x.a1 x.c1 U.l :: own (Enc.int .i64) 3 x.a2 x.c2 U.cm :: L) →
        k = 1 → ok = opIs k y → purlinref17_Do.K7 R b b1 b2 q ok w := by
      intro q ok w L' H h1 h2
      unfold purlinref17_Do.K7
      refine ⟨_, _, _, H.ld, _, H.ld, by omega, by omega, ?_⟩
      obtain ⟨g, go, hga, hcell⟩ := (H.osl (E := Enc.int .u8) (xs := U.pr)) j _ hfp
      rw [hga]
      simp only [okP_some, pb_some, po_some, toNat_nat]
      refine ⟨_, hcell 0 _ rfl, ?_⟩
      have hw : IntKind.wrap .i64 fp = fp := wrap64_in (by omega) (by omega)
      rw [hw]
      refine H.st fun w H => ?_
      exact k4 (L' := []) H (by rw [h1]; simp [encD, rDo, opDo, dorm, splice]) h2 (by rw [h1]; rfl)
    refine br_intro (fun h1 => ?_) fun h1 => ?_
    · have h1 : y.st = 1 := by simpa using h1
      refine ⟨_, H.ld, _, H.ld, _, H.ld, _, H.ld, H.new fun q w H => ?_⟩
      refine H.st fun w H => ?_
      have H : St e m w (row q 60 [.int .i64 y.st, .bool y.held, .int .i64 y.prio] :: row b4 60 [.int .i64 y.st, .bool y.held, .int .i64 y.prio] :: row b2 42 [.slice none 0 0, .slice none 0 0, .slice none 0 0] :: row b1 46 [.int .i64 k, .int .i64 (j : Int), .int .i64 p] :: row b 42 [.slice x.a U.pr.length x.c, .slice x.a1 U.l.length x.c1, .slice x.a2 U.cm.length x.c2] :: own (Enc.int .u8) 5 x.a x.c U.pr :: own encD 60 x.a1 x.c1 U.l :: own (Enc.int .i64) 3 x.a2 x.c2 U.cm :: L) := H.re
      refine ⟨_, H.ld, ?_⟩
      refine br_intro (fun h => ?_) fun n0 => br_intro (fun h => ?_) fun n1 => br_intro (fun h => ?_) fun n2 => br_intro (fun h => ?_) fun n3 => br_intro (fun h => ?_) fun n4 => br_intro (fun h => ?_) fun n5 => br_intro (fun h => ?_) fun n6 => ?_
      · have h : k = 0 := by simpa using h
        refine ⟨_, H.ld, ?_⟩
        refine H.st fun w H => ?_
        exact k5 (L' := []) H (by rw [h]; simp [encD, rDo, opDo, splice]) (by rw [h]; simp [opIs]) (by rw [h]; rfl)
      · have h : k = 1 := by simpa using h
        exact ⟨_, H.ld, k7 (L' := []) H h (by rw [h]; simp [opIs, Pr.alive])⟩
      · have h : k = 2 := by simpa using h
        refine H.st fun w H => ?_
        exact k4 (L' := []) H (by rw [h]; simp [encD, rDo, opDo, splice]) (by rw [h]; simp [opIs, Pr.may, h1]) (by rw [h]; rfl)
      · have h : k = 3 := by simpa using h
        refine ⟨_, H.ld, ?_⟩
        refine H.st fun w H => ?_
        exact k5 (L' := []) H (by rw [h]; simp [encD, rDo, opDo, splice]) (by rw [h]; simp [opIs]) (by rw [h]; rfl)
      · have h : k = 4 := by simpa using h
        refine ⟨_, H.ld, br_intro (fun hz => ?_) fun hz => ?_⟩
        · refine ⟨_, H.ld, ?_⟩
          refine H.st fun w H => ?_
          exact k4 (L' := []) H (by rw [h]; simp [encD, rDo, opDo, splice]) (by rw [h]; simp [opIs, Pr.alive, h1]) (by rw [h]; rfl)
        · simp [h1] at hz
      · have h : k = 5 := by simpa using h
        refine ⟨_, H.ld, ?_⟩
        refine H.st fun w H => ?_
        exact k5 (L' := []) H (by rw [h]; simp [encD, rDo, opDo, splice]) (by rw [h]; simp [opIs]) (by rw [h]; rfl)
      · have h : k = 6 := by simpa using h
        refine ⟨_, H.ld, _, H.ld, ?_⟩
        refine H.st fun w H => ?_
        exact k5 (L' := []) H (by rw [h]; simp [encD, rDo, opDo, splice]) (by rw [h]; simp [opIs, Pr.alive]) (by rw [h]; rfl)
      · have h : k = 7 := by
          have n0 : k ≠ 0 := by simpa using n0
          have n1 : k ≠ 1 := by simpa using n1
          have n2 : k ≠ 2 := by simpa using n2
          have n3 : k ≠ 3 := by simpa using n3
          have n4 : k ≠ 4 := by simpa using n4
          have n5 : k ≠ 5 := by simpa using n5
          have n6 : k ≠ 6 := by simpa using n6
          unfold okKind at hk; omega
        exact k5 (L' := []) H (by rw [h]; simp [encD, rDo, opDo, splice]) (by rw [h]; simp [opIs, Pr.may, h1]) (by rw [h]; rfl)
    · have h1 : y.st ≠ 1 := by simpa using h1
      refine ⟨_, H.ld, _, H.ld, _, H.ld, H.new fun q w H => ?_⟩
      refine H.st fun w H => ?_
      have H : St e m w (row q 60 [.int .i64 y.st, .bool y.held, .int .i64 y.prio] :: row b4 60 [.int .i64 y.st, .bool y.held, .int .i64 y.prio] :: row b2 42 [.slice none 0 0, .slice none 0 0, .slice none 0 0] :: row b1 46 [.int .i64 k, .int .i64 (j : Int), .int .i64 p] :: row b 42 [.slice x.a U.pr.length x.c, .slice x.a1 U.l.length x.c1, .slice x.a2 U.cm.length x.c2] :: own (Enc.int .u8) 5 x.a x.c U.pr :: own encD 60 x.a1 x.c1 U.l :: own (Enc.int .i64) 3 x.a2 x.c2 U.cm :: L) := H.re
      refine ⟨_, H.ld, ?_⟩
      refine br_intro (fun h => ?_) fun n0 => br_intro (fun h => ?_) fun n1 => br_intro (fun h => ?_) fun n2 => br_intro (fun h => ?_) fun n3 => br_intro (fun h => ?_) fun n4 => br_intro (fun h => ?_) fun n5 => br_intro (fun h => ?_) fun n6 => ?_
      · have h : k = 0 := by simpa using h
        refine ⟨_, H.ld, ?_⟩
        refine H.st fun w H => ?_
        exact k5 (L' := []) H (by rw [h]; simp [encD, rDo, opDo, splice]) (by rw [h]; simp [opIs]) (by rw [h]; rfl)
      · have h : k = 1 := by simpa using h
        exact ⟨_, H.ld, k7 (L' := []) H h (by rw [h]; simp [opIs, Pr.alive])⟩
      · have h : k = 2 := by simpa using h
        refine H.st fun w H => ?_
        exact k6 (L' := []) H (by rw [h]; simp [opIs, Pr.may, h1])
      · have h : k = 3 := by simpa using h
        refine ⟨_, H.ld, ?_⟩
        refine H.st fun w H => ?_
        exact k5 (L' := []) H (by rw [h]; simp [encD, rDo, opDo, splice]) (by rw [h]; simp [opIs]) (by rw [h]; rfl)
      · have h : k = 4 := by simpa using h
        refine ⟨_, H.ld, br_intro (fun hz => ?_) fun hz => ?_⟩
        · have hz : y.st ≠ 0 := by simpa using hz
          refine ⟨_, H.ld, ?_⟩
          refine H.st fun w H => ?_
          exact k4 (L' := []) H (by rw [h]; simp [encD, rDo, opDo, splice]) (by rw [h]; simp [opIs, Pr.alive, hz]) (by rw [h]; rfl)
        · have hz : y.st = 0 := by simpa using hz
          refine H.st fun w H => ?_
          exact k6 (L' := []) H (by rw [h]; simp [opIs, Pr.alive, hz])
      · have h : k = 5 := by simpa using h
        refine ⟨_, H.ld, ?_⟩
        refine H.st fun w H => ?_
        exact k5 (L' := []) H (by rw [h]; simp [encD, rDo, opDo, splice]) (by rw [h]; simp [opIs]) (by rw [h]; rfl)
      · have h : k = 6 := by simpa using h
        refine ⟨_, H.ld, _, H.ld, ?_⟩
        refine H.st fun w H => ?_
        exact k5 (L' := []) H (by rw [h]; simp [encD, rDo, opDo, splice]) (by rw [h]; simp [opIs, Pr.alive]) (by rw [h]; rfl)
      · have h : k = 7 := by
          have n0 : k ≠ 0 := by simpa using n0
          have n1 : k ≠ 1 := by simpa using n1
          have n2 : k ≠ 2 := by simpa using n2
          have n3 : k ≠ 3 := by simpa using n3
          have n4 : k ≠ 4 := by simpa using n4
          have n5 : k ≠ 5 := by simpa using n5
          have n6 : k ≠ 6 := by simpa using n6
          unfold okKind at hk; omega
        have ho : opIs k y = false := by rw [h]; simp [opIs, Pr.may, h1]
        refine ⟨_, _, _, H.ld, _, _, _, H.ld, _, _, _, H.ld, ?_⟩
        refine H.st fun w H => ?_
        unfold purlinref17_Do.K3
        refine ⟨_, _, _, H.ld, _, _, _, H.ld, _, _, _, H.ld, ?_⟩
        exact fin0 ho _ H.re
  refine ⟨_, H.ld, br_intro (fun h6 => ?_) fun h6 => k8 (fun h => by simp [h.1] at h6)⟩
  have h6 : k = 6 := by simpa using h6
  refine ⟨_, H.ld, br_dec (fun hp0 => ?_) fun hp0 => ⟨_, H.ld, br_dec (fun hp1 => ?_) fun hp1 => k8 (fun h => by omega)⟩⟩
  · unfold purlinref17_Do.K1
    repeat (first | (refine St.new H fun b_ w_ H => ?_) | (refine St.st H fun w_ H => ?_) | (refine ⟨_, St.ld H, ?_⟩) | (refine ⟨_, _, _, St.ld H, ?_⟩) | (refine St.drw H fun w_ H => ?_))
    exact stay (by unfold RT.doE; rw [if_neg h8, if_neg hin, if_pos ⟨h6, .inl hp0⟩]) (by decide) h8 H.re
  · unfold purlinref17_Do.K1
    repeat (first | (refine St.new H fun b_ w_ H => ?_) | (refine St.st H fun w_ H => ?_) | (refine ⟨_, St.ld H, ?_⟩) | (refine ⟨_, _, _, St.ld H, ?_⟩) | (refine St.drw H fun w_ H => ?_))
    exact stay (by unfold RT.doE; rw [if_neg h8, if_neg hin, if_pos ⟨h6, .inr (by omega)⟩]) (by decide) h8 H.re
end
end Go.Proofs.Ytecacohkkdhphaa
