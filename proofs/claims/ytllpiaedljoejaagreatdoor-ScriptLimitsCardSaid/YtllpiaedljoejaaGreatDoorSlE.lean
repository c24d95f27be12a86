/- Scripts at their limits: the two texts, their lines, what is read, and what Run says of them. Conditions: the listed variables' cells. -/
import Derived.Test.YtllpiaedljoejaaGreatDoorXSpl
import Derived.Test.YtllpiaedljoejaaGreatDoorXExt
import Derived.Test.YtllpiaedljoejaaGreatDoorSlB
import Derived.Test.YtllpiaedljoejaaGreatDoorSc6
import Derived.Test.YtllpiaedljoejaaGreatDoorVcSL3
import Derived.Test.YtllpiaedljoejaaGreatDoorVcInt
import Derived.Test.YtllpiaedljoejaaGreatDoorShA
import Derived.Test.YtllpiaedljoejaaGreatDoorSlA
namespace Go.Proofs.YtllpiaedljoejaaGreatDoor
open Go.Vc Go.Lib
set_option linter.unusedSimpArgs false
set_option linter.unusedVariables false
set_option maxRecDepth 100000
def nows : Nat → List UInt8
  | 0 => []
  | n + 1 => 110 :: 111 :: 119 :: 10 :: nows n
theorem nows_len : ∀ n, (nows n).length = 4 * n
  | 0 => rfl
  | n + 1 => by simp only [nows, List.length_cons, nows_len n]; omega
theorem nows_add : ∀ n, nows n ++ [110, 111, 119, 10] = nows (n + 1)
  | 0 => rfl
  | n + 1 => by
    have ih := nows_add n
    show 110 :: 111 :: 119 :: 10 :: (nows n ++ [110, 111, 119, 10]) = _
    rw [ih]; rfl
theorem split_nows : ∀ n, splitS 10 (nows n) = List.replicate n [110, 111, 119] ++ [[]]
  | 0 => rfl
  | n + 1 => by
    have ih := split_nows n
    simp only [nows, splitS]
    rw [ih]
    simp [List.replicate_succ]
theorem split_hash : ∀ m, splitS 10 (List.replicate m 35) = [List.replicate m 35]
  | 0 => rfl
  | m + 1 => by
    have ih := split_hash m
    rw [List.replicate_succ]
    simp only [splitS]
    rw [ih]
    simp
end Go.Proofs.YtllpiaedljoejaaGreatDoor

namespace Go.Proofs.YtllpiaedljoejaaGreatDoor
open Go.Vc Go.Lib
set_option linter.unusedSimpArgs false
set_option linter.unusedVariables false
set_option maxRecDepth 100000
theorem app_mk (a b : List UInt8) : (⟨a.toArray⟩ : ByteArray) ++ ⟨b.toArray⟩ = ⟨(a ++ b).toArray⟩ := by
  have e : ∀ x y : ByteArray, x.data = y.data → x = y := fun x y h => by cases x; cases y; simp at h; rw [h]
  apply e
  rw [ByteArray.data_append]
  simp
theorem ext_mk (a : List UInt8) (k : Nat) : (⟨a.toArray⟩ : ByteArray).extract 0 k = ⟨(a.take k).toArray⟩ := by
  have e : ∀ x y : ByteArray, x.data = y.data → x = y := fun x y h => by cases x; cases y; simp at h; rw [h]
  apply e
  rw [ByteArray.data_extract]
  simp
def hashB (m : Nat) : ByteArray := ⟨(List.replicate m 35).toArray⟩
theorem hash_size (m : Nat) : (hashB m).size = m := by show (List.replicate m (35 : UInt8)).toArray.size = m; simp
theorem hash_add (a b : Nat) : hashB a ++ hashB b = hashB (a + b) := by
  unfold hashB; rw [app_mk]; simp
theorem hash_cut {a k : Nat} (h : k ≤ a) : (hashB a).extract 0 k = hashB k := by
  unfold hashB; rw [ext_mk]; simp [Nat.min_eq_left h]
def nowsB (n : Nat) : ByteArray := ⟨(nows n).toArray⟩
theorem nows_size (n : Nat) : (nowsB n).size = 4 * n := by show (nows n).toArray.size = _; rw [List.size_toArray, nows_len]
theorem nowsB_add (n : Nat) : nowsB n ++ ⟨#[110, 111, 119, 10]⟩ = nowsB (n + 1) := by
  unfold nowsB
  rw [← nows_add]
  exact app_mk (nows n) [110, 111, 119, 10]
def outs : Nat → List UInt8
  | 0 => []
  | n + 1 => outs n ++ [101, 114, 114, 111, 114, 32, 50, 56, 51, 10]
theorem outs_len : ∀ n, (outs n).length = 10 * n
  | 0 => rfl
  | n + 1 => by simp only [outs, List.length_append, outs_len n, List.length_cons, List.length_nil]; omega
end Go.Proofs.YtllpiaedljoejaaGreatDoor

namespace Go.Proofs.YtllpiaedljoejaaGreatDoor
open Go.Vc Go.Lib
set_option linter.unusedSimpArgs false
set_option linter.unusedVariables false
set_option maxRecDepth 100000
theorem splitX_nil (c : UInt8) (l : List UInt8) : splitX c l [] = splitS c l := by
  rw [splitX_eq]
  have := splitS_ne c l
  cases hs : splitS c l with
  | nil => exact (this hs).elim
  | cons x t => simp
def linesOf (s : ByteArray) : List ByteArray := (splitS 10 s.data.toList).map fun l => ⟨l.toArray⟩
theorem split_sp {w : World} (hL : LibX w) {s : ByteArray} (hs : s.size ≤ 100000) : Calls Tryz.prog 20 #[.string s, .string ⟨#[10]⟩] w (Ret fun v w' => (∃ b, v = .slice (some ⟨b, 0, none⟩) (linesOf s).length (linesOf s).length ∧ SlR Enc.str w' (some ⟨b, 0, none⟩) (linesOf s)) ∧ Ch [] w w') := by
  obtain ⟨k, hk⟩ := hL.mx w (Ch.refl _ _)
  have h1 : 1 ≤ (⟨#[10]⟩ : ByteArray).size := Nat.le_refl 1
  have hx2 := split_x s 10
  rw [splitX_nil] at hx2
  have hlen := splitB_all ⟨#[10]⟩ h1 0 _ s rfl
  have hln : (linesOf s).length = countB s ⟨#[10]⟩ + 1 := by
    have := congrArg List.length hx2
    simp only [List.length_map] at this
    unfold linesOf
    rw [List.length_map, ← this]; exact hlen
  refine (Tryz.strings_Split s ⟨#[10]⟩ k w (by omega) hk h1).mono ?_
  rintro _ w' ⟨rfl, rfl⟩
  refine ⟨_, rfl, ⟨w.heap.size, by rw [hln], ?_⟩, Ch.alloc _ _⟩
  have e : (splitB ⟨#[10]⟩ 0 (countB s ⟨#[10]⟩) s).map Value.string = Enc.str.flat (linesOf s) := by
    rw [hx2]
    unfold linesOf Enc.flat Enc.str
    induction splitS 10 s.data.toList with
    | nil => rfl
    | cons x t ih => simpa using ih
  rw [e]
  exact SlR.row (t := 9) (((St.init w).newObj _).rowAt)
end Go.Proofs.YtllpiaedljoejaaGreatDoor

namespace Go.Proofs.YtllpiaedljoejaaGreatDoor
open Go.Vc Go.Lib
set_option linter.unusedSimpArgs false
set_option linter.unusedVariables false
set_option maxRecDepth 100000
def encC : Enc Unit := ⟨7, fun _ => [.string nowB, .int .i64 0, .slice none 0 0, .int .i64 0, .int .i64 0, .int .i64 0, .string ⟨#[]⟩], fun _ => rfl, by decide, fun x v hv => by
  simp only [List.mem_cons, List.not_mem_nil, or_false] at hv; rcases hv with h | h | h | h | h | h | h <;> rw [h] <;> rfl⟩
theorem elC : ElT Tryz.prog 35 45 encC 88 := by
  refine ⟨by kernel_rfl, ?_⟩
  have h : (Tryz.prog.info? 45).map (fun i => (i.zero.isSome, i.size, i.bytes, (i.zero.getD .nilIface).cells.size)) = some (true, 7, 88, 7) := by kernel_rfl
  cases hi : Tryz.prog.info? 45 with
  | none => rw [hi] at h; cases h
  | some i =>
    rw [hi] at h
    simp only [Option.map_some, Option.some.injEq, Prod.mk.injEq] at h
    obtain ⟨h1, h2, h3, h4⟩ := h
    obtain ⟨z, hz⟩ := Option.isSome_iff_exists.1 h1
    exact ⟨i, z, rfl, hz, h2, h3, by rw [hz] at h4; exact h4⟩
/-- One line that is a note is passed over. -/
theorem read_hash {w : World} (hL : LibX w) {m : Nat} (h1 : 1 ≤ m) (h2 : m ≤ 65536) : Calls Tryz.prog 11 #[.string (hashB m)] w (Ret fun v w' => v = .tuple #[.slice none 0 0, .int .i64 0, .int .i64 0] ∧ Ch [] w w') := by
  have hsz := hash_size m
  have hln : linesOf (hashB m) = [hashB m] := by
    unfold linesOf
    rw [show (hashB m).data.toList = List.replicate m 35 from rfl, split_hash]; rfl
  apply script_read.calls
  unfold script_read.F
  refine br_dec (fun h => absurd h (by omega)) fun _ => ?_
  refine Calls.ret (split_sp hL (by omega)) ?_
  rintro _ w1 ⟨⟨b, rfl, hs⟩, hc⟩
  rw [hln] at hs ⊢
  rw [show [hashB m].length = 1 from rfl]
  refine ⟨_, _, _, rfl, ?_⟩
  have e0 : IntKind.wrap .i64 (((1 : Nat) : Int) - 1) = 0 := by decide
  rw [e0]
  obtain ⟨b2, o2, e2, hcell⟩ := hs 0 (hashB m) rfl
  simp only [Option.some.injEq, Addr.mk.injEq, and_true] at e2
  obtain ⟨rfl, rfl⟩ := e2
  have hc0 := hcell 0 _ rfl
  refine ⟨by omega, by omega, ?_⟩
  simp only [okP_some, pb_some, po_some]
  have hne : hashB m ≠ ⟨#[]⟩ := fun e => by
    have := congrArg ByteArray.size e
    rw [hsz] at this
    have h0 : (⟨#[]⟩ : ByteArray).size = 0 := rfl
    omega
  have hnb : ((hashB m).toList == (⟨#[]⟩ : ByteArray).toList) = false := by rw [ba_beq']; simp [hne]
  refine ⟨_, hc0, br_f hnb ?_⟩
  unfold script_read.K0
  refine br_dec (fun h => absurd h (by omega)) fun _ => ?_
  refine ⟨fun n A N C i w' => ∃ k : Nat, i = k ∧ k ≤ 1 ∧ n = 1 - k ∧ A = none ∧ N = 0 ∧ C = 0 ∧ w' = w1, ⟨_, 0, rfl, Nat.zero_le _, rfl, rfl, rfl, rfl, rfl⟩, ?_⟩
  rintro n dead w3 A N C i ⟨k, rfl, hk, rfl, rfl, rfl, rfl, rfl⟩
  unfold script_read.L0
  refine br_dec (fun hlt => ?_) fun hge => ?_
  · have hk0 : k = 0 := by omega
    subst hk0
    refine ⟨by omega, by omega, ?_⟩
    simp only [okP_some, pb_some, po_some, toNat_nat]
    refine ⟨_, hc0, br_f hnb ?_⟩
    refine ⟨by omega, by omega, ?_⟩
    have hd : (hashB m).data.getD (0 : Int).toNat 0 = 35 := by
      have h3 : (0 : Int).toNat < (hashB m).data.size := by show 0 < (hashB m).size; omega
      show (if h : (0 : Int).toNat < (hashB m).data.size then (hashB m).data[(0 : Int).toNat] else 0) = 35
      rw [dif_pos h3]
      simp [hashB]
    rw [hd]
    refine br_t rfl ?_
    exact ⟨0, by omega, 1, by decide, by omega, rfl, by simp⟩
  · exact ⟨rfl, hc⟩
/-- A text that is too long is not read. -/
theorem read_long {w : World} {m : Nat} (h : 65536 < m) : Calls Tryz.prog 11 #[.string (hashB m)] w (Ret fun v w' => v = .tuple #[.slice none 0 0, .int .i64 0, .int .i64 280] ∧ Ch [] w w') := by
  have hsz := hash_size m
  apply script_read.calls
  unfold script_read.F
  refine br_dec (fun _ => ?_) fun h2 => absurd h2 (by omega)
  exact ⟨rfl, Ch.refl _ _⟩
/-- Lines "now" are as many commands, or too many. -/
theorem read_now {w : World} (hG : ∀ w', Ch [] w w' → GlobX w') (hL : ∀ w', Ch [] w w' → LibX w') {n : Nat} (h1 : 490 ≤ n) (h2 : n ≤ 509) : Calls Tryz.prog 11 #[.string (nowsB n)] w (Ret fun v w' => (if 500 < n then v = .tuple #[.slice none 0 0, .int .i64 0, .int .i64 281] else ∃ a c, v = .tuple #[.slice a n c, .int .i64 0, .int .i64 0] ∧ SlR encC w' a (List.replicate n ())) ∧ Ch [] w w') := by
  have hsz := nows_size n
  have hln : linesOf (nowsB n) = List.replicate n nowB ++ [⟨#[]⟩] := by
    unfold linesOf
    rw [show (nowsB n).data.toList = nows n from rfl, split_nows, List.map_append, List.map_replicate]
    rfl
  have hlen : (linesOf (nowsB n)).length = n + 1 := by rw [hln]; simp
  apply script_read.calls
  unfold script_read.F
  refine br_dec (fun h => absurd h (by omega)) fun _ => ?_
  refine Calls.ret (split_sp (hL _ (Ch.refl _ _)) (by omega)) ?_
  rintro _ w1 ⟨⟨b, rfl, hs⟩, hc⟩
  rw [hlen]
  refine ⟨_, _, _, rfl, ?_⟩
  have e0 : IntKind.wrap .i64 (((n + 1 : Nat) : Int) - 1) = (n : Int) := by
    rw [show ((n + 1 : Nat) : Int) - 1 = (n : Int) by omega, wrap64_nat (by omega)]
  rw [e0]
  have hlast : (linesOf (nowsB n))[n]? = some ⟨#[]⟩ := by rw [hln]; simp
  obtain ⟨b2, o2, e2, hcell⟩ := hs n _ hlast
  simp only [Option.some.injEq, Addr.mk.injEq, and_true] at e2
  obtain ⟨rfl, rfl⟩ := e2
  refine ⟨by omega, by omega, ?_⟩
  simp only [okP_some, pb_some, po_some, toNat_nat]
  have hee : ((⟨#[]⟩ : ByteArray).toList == (⟨#[]⟩ : ByteArray).toList) = true := by simp
  refine ⟨_, hcell 0 _ rfl, br_t hee ?_⟩
  refine ⟨by omega, by omega, ?_⟩
  have hs2 : SlR Enc.str w1 (cutBase (some ⟨b, 0, none⟩) 0 (n + 1) 1) (List.replicate n nowB) := by
    have h3 := (hs.cut (l := 0) (c := n + 1) (by rw [hlen]; exact Nat.le_refl _)).take (n := n)
    rw [hln, List.drop_zero, List.take_left' (by simp)] at h3
    exact h3
  obtain ⟨A, hA⟩ : ∃ A, A = cutBase (some ⟨b, 0, none⟩) 0 (n + 1) 1 := ⟨_, rfl⟩
  rw [← hA] at hs2 ⊢
  rw [Nat.sub_zero, Nat.sub_zero]
  clear hA
  unfold script_read.K0
  by_cases hn : 500 < n
  · refine br_dec (fun _ => ?_) fun h => absurd h (by omega)
    exact ⟨by rw [if_pos hn], hc⟩
  refine br_dec (fun h => absurd h (by omega)) fun _ => ?_
  refine ⟨fun q lA lN lC i w' => ∃ k : Nat, i = k ∧ k ≤ n ∧ q = n - k ∧ lN = k ∧ St w1 (hpOf w1) w' [own encC 45 lA lC (List.replicate k ())], ⟨_, 0, rfl, Nat.zero_le _, rfl, rfl, (St.init w1).ownNil encC _⟩, ?_⟩
  rintro q dead w3 lA lN lC i ⟨k, rfl, hk, rfl, rfl, H⟩
  unfold script_read.L0
  refine br_dec (fun hlt => ?_) fun hge => ?_
  · have hlt : lN < n := by omega
    have hx : (List.replicate n nowB)[lN]? = some nowB := by simp [hlt]
    have hnb : (nowB.toList == (⟨#[]⟩ : ByteArray).toList) = false := by
      rw [ba_beq', decide_eq_false_iff_not]
      intro e
      have := congrArg ByteArray.size e
      revert this; decide
    refine ⟨by omega, by omega, ?_⟩
    obtain ⟨ab, ao, rfl, hcell⟩ := (H.sli hs2.sli) lN _ hx
    simp only [okP_some, pb_some, po_some, toNat_nat]
    refine ⟨_, hcell 0 _ rfl, br_f hnb ?_⟩
    refine ⟨by omega, by decide, ?_⟩
    refine br_f rfl ?_
    have hcw : Ch [] w w3 := hc.trans0 (H.fin (hle_refl _))
    refine Calls.ret (parse_sp (hG _ hcw) (hL _ hcw)) ?_
    rintro _ w5 ⟨rfl, hc5⟩
    have H := H.ch0 hc5
    refine ⟨_, _, _, _, _, _, _, _, _, _, rfl, ?_⟩
    refine St.new H fun b1 w6 H => ?_
    refine St.st H fun w7 H => ?_
    refine br_f rfl ?_
    refine ⟨_, St.ld H, _, St.ld H, _, _, _, St.ld H, _, St.ld H, _, St.ld H, _, St.ld H, _, St.ld H, ?_⟩
    refine St.app1 H elC () (fun b2 a' c' w9 H => ?_)
    have hk1 : IntKind.wrap .i64 ((lN : Int) + 1) = ((lN + 1 : Nat) : Int) := by rw [← Int.natCast_succ, wrap64_nat (by omega)]
    refine ⟨n - (lN + 1), by omega, lN + 1, hk1, by omega, rfl, by simp, ?_⟩
    have H2 := St.re (L' := [own encC 45 a' c' (List.replicate lN () ++ [()])]) H
    rw [show List.replicate (lN + 1) () = List.replicate lN () ++ [()] from List.replicate_succ']
    exact H2
  · have hk2 : lN = n := by omega
    subst hk2
    refine ⟨?_, hc.trans0 (H.fin (hle_refl _))⟩
    rw [if_neg hn]
    exact ⟨_, _, rfl, H.osl⟩
end Go.Proofs.YtllpiaedljoejaaGreatDoor

namespace Go.Proofs.YtllpiaedljoejaaGreatDoor
open Go.Vc Go.Lib
set_option linter.unusedSimpArgs false
set_option linter.unusedVariables false
set_option maxRecDepth 100000
theorem ints_add (a b : List UInt8) : ints (a ++ b) = ints a ++ ints b := by simp [ints]
theorem outs_add (k : Nat) : ints (outs k) ++ ints (badB ++ (⟨#[10]⟩ : ByteArray)).data.toList = ints (outs (k + 1)) := by
  rw [← ints_add]
  have e : badB ++ (⟨#[10]⟩ : ByteArray) = ⟨([101, 114, 114, 111, 114, 32, 50, 56, 51, 10] : List UInt8).toArray⟩ := app_mk [101, 114, 114, 111, 114, 32, 50, 56, 51] [10]
  rw [e]
  rfl
theorem bld_new {e w : World} {m : Hp} {L : List HP} {b : Nat} (H : St e m w (row b 41 [.pointer none, .slice none 0 0] :: L)) : St e m w (bld b [] :: L) := by
  have H2 := H.ownNil (Enc.int .u8) 5
  have H3 := St.re (L' := row b 41 [.pointer none, .slice none 0 0] :: own (Enc.int .u8) 5 none 0 [] :: L) H2
  exact (St.join (L1 := [row b 41 [.pointer none, .slice none 0 0], own (Enc.int .u8) 5 none 0 []]) H3).imp fun h hh => ⟨_, none, 0, .inl rfl, hh⟩
theorem run_now {w : World} (hG : ∀ w', Ch [] w w' → GlobX w') (hL : ∀ w', Ch [] w w' → LibX w') {n : Nat} (h1 : 490 ≤ n) (h2 : n ≤ 509) : Calls Tryz.prog 5 #[.string (nowsB n)] w (Ret fun v w' => (if 500 < n then v = .tuple #[.string ⟨#[]⟩, .int .i64 0, .int .i64 281] else v = .tuple #[.string ⟨(outs n).toArray⟩, .int .i64 0, .int .i64 0]) ∧ Ch [] w w') := by
  apply script_Run.calls
  unfold script_Run.F
  refine Calls.ret (read_now hG hL h1 h2) ?_
  rintro v w1 ⟨hv, hc⟩
  by_cases hn : 500 < n
  · rw [if_pos hn] at hv
    subst hv
    refine ⟨_, _, _, _, _, rfl, br_t rfl ?_⟩
    exact ⟨by rw [if_pos hn], hc⟩
  rw [if_neg hn] at hv
  obtain ⟨a, c, rfl, hs⟩ := hv
  refine ⟨_, _, _, _, _, rfl, br_f rfl ?_⟩
  have H := St.init w1
  refine St.new H fun b w2 H => ?_
  refine ⟨fun q kP i w' => ∃ k : Nat, i = k ∧ k ≤ n ∧ q = n - k ∧ kP = none ∧ St w1 (hpOf w1) w' [bld b (ints (outs k))], ⟨_, 0, rfl, Nat.zero_le _, rfl, rfl, bld_new H⟩, ?_⟩
  rintro q dead w3 kP i ⟨k, rfl, hk, rfl, rfl, H⟩
  unfold script_Run.L0
  refine br_dec (fun hlt => ?_) fun hge => ?_
  · have hlt : k < n := by omega
    have hx : (List.replicate n ())[k]? = some () := by simp [hlt]
    refine ⟨by omega, by omega, ?_⟩
    obtain ⟨ab, ao, rfl, hcell⟩ := (H.sli hs.sli) k _ hx
    simp only [okP_some, pb_some, po_some, toNat_nat]
    refine ⟨_, hcell 0 _ rfl, _, hcell 1 _ rfl, _, _, _, hcell 2 _ rfl, _, hcell 3 _ rfl, _, hcell 4 _ rfl, _, hcell 5 _ rfl, _, hcell 6 _ rfl, ?_⟩
    refine St.new H fun b1 w4 H => ?_
    refine St.st H fun w5 H => ?_
    have hcw : Ch [] w w5 := hc.trans0 (H.fin (hle_refl _))
    refine Calls.ret (bad_sp (hG _ hcw) (hL _ hcw)) ?_
    rintro _ w6 ⟨rfl, hc6⟩
    have H := H.ch0 hc6
    refine ⟨_, rfl, ?_⟩
    have hnp : (nowB.toList == (⟨#[112, 108, 97, 110]⟩ : ByteArray).toList) = false := by
      rw [ba_beq', decide_eq_false_iff_not]
      intro e
      have := congrArg ByteArray.size e
      revert this; decide
    refine ⟨_, St.ld H, br_f hnp (br_f rfl ?_)⟩
    refine ⟨by decide, ?_⟩
    have H2 := St.re (L' := bld b (ints (outs k)) :: []) H
    have hlo : (ints (outs k)).length = 10 * k := by unfold ints; rw [List.length_map, outs_len]
    have hls : (badB ++ (⟨#[10]⟩ : ByteArray)).size = 10 := by decide
    refine Calls.ret (WriteString_sp H2 _ (by omega)) ?_
    rintro _ w9 ⟨rfl, H⟩
    have hk1 : IntKind.wrap .i64 ((k : Int) + 1) = ((k + 1 : Nat) : Int) := by rw [← Int.natCast_succ, wrap64_nat (by omega)]
    refine ⟨_, _, rfl, n - (k + 1), by omega, k + 1, hk1, by omega, rfl, trivial, ?_⟩
    rw [outs_add] at H
    exact H
  · have hk2 : k = n := by omega
    subst hk2
    refine Calls.ret (String_sp H) ?_
    rintro v w5 ⟨rfl, hc5⟩
    exact ⟨_, rfl, by rw [if_neg hn], hc.trans0 hc5⟩
theorem run_hash {w : World} (hL : LibX w) {m : Nat} (h1 : 1 ≤ m) : Calls Tryz.prog 5 #[.string (hashB m)] w (Ret fun v w' => v = .tuple #[.string ⟨#[]⟩, .int .i64 0, .int .i64 (if 65536 < m then 280 else 0)] ∧ Ch [] w w') := by
  apply script_Run.calls
  unfold script_Run.F
  by_cases hm : 65536 < m
  · refine Calls.ret (read_long hm) ?_
    rintro v w1 ⟨rfl, hc⟩
    refine ⟨_, _, _, _, _, rfl, br_t rfl ?_⟩
    exact ⟨by rw [if_pos hm], hc⟩
  refine Calls.ret (read_hash hL h1 (by omega)) ?_
  rintro v w1 ⟨rfl, hc⟩
  refine ⟨_, _, _, _, _, rfl, br_f rfl ?_⟩
  have H := St.init w1
  refine St.new H fun b w2 H => ?_
  refine ⟨fun q kP i w' => i = 0 ∧ St w1 (hpOf w1) w' [bld b (ints [])], ⟨0, rfl, bld_new H⟩, ?_⟩
  rintro q dead w3 kP i ⟨rfl, H⟩
  unfold script_Run.L0
  refine br_dec (fun hlt => absurd hlt (by decide)) fun _ => ?_
  refine Calls.ret (String_sp H) ?_
  rintro v w5 ⟨rfl, hc5⟩
  exact ⟨_, rfl, by rw [if_neg hm], hc.trans0 hc5⟩
end Go.Proofs.YtllpiaedljoejaaGreatDoor
