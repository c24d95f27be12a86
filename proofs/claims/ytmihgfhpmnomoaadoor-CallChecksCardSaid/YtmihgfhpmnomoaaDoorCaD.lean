/- Calls: the library's contracts, and number. Conditions: none. -/
import Derived.Test.YtmihgfhpmnomoaaDoorCaB
import Derived.Test.YtmihgfhpmnomoaaDoorCaN
import Derived.Test.YtmihgfhpmnomoaaDoorShelf
import Derived.Test.YtmihgfhpmnomoaaDoorVcGr
import Derived.Laws.RangeAny
import Derived.Lib.OthersKept
namespace Go.Proofs.YtmihgfhpmnomoaaDoor
open Go.Vc Go.Lib
set_option linter.unusedSimpArgs false
set_option linter.unusedVariables false
set_option maxRecDepth 100000

/-- What the library's variables hold. -/
structure LibV (m : Hp) : Prop where
  vars : Vars m
  pow : ∀ w : World, hle m (hpOf w) → TabIs Tryd.prog w "internal/strconv.uint64pow10" .u64 pow10Tab
  mx : ∃ k, mcell m 4 0 = some (.int .i64 k)
  es : ∃ t p, mcell m 6 0 = some (.iface t p)
  er : ∃ t p, mcell m 7 0 = some (.iface t p)

def baL (l : List UInt8) : ByteArray := ⟨l.toArray⟩
theorem baL_data (l : List UInt8) : (baL l).data.toList = l := rfl
theorem baL_of (s : ByteArray) : baL s.data.toList = s := by cases s; rfl
theorem ba_size (s : ByteArray) : s.size = s.data.toList.length := by rw [Array.length_toList]; rfl

section
variable {e w : World} {m : Hp} {L : List HP}
theorem below_ch {w w' : World} (h : Go.RowKit.Below w.heap.size w w') : Ch [] w w' := ⟨h.os, h.tape, h.output, h.size, fun b hb _ => h.block b hb⟩
theorem Itoa_sp (H : St e m w L) (hv : LibV m) {n : Int} (hn : inR n) : Calls Tryd.prog 22 #[.int .i64 n] w (Ret fun v w' => v = .string (baL (itoa n)) ∧ St e m w' L) := by
  refine (Tryd.strconv_Itoa n hn.1 hn.2 w (hv.pow w H.le)).mono ?_
  rintro _ w' ⟨rfl, k, os, rfl⟩
  exact ⟨_, rfl, rfl, H.ch0 (Gr.ch ⟨k, os, rfl⟩)⟩
theorem ParseInt_sp (H : St e m w L) (hv : LibV m) (s : ByteArray) (hs : s.size ≤ 1000000) : Calls Tryd.prog 40 #[.string s, .int .i64 10, .int .i64 64] w (Ret fun v w' => ∃ (n : Int) (er : Value), v = .tuple #[.int .i64 n, er] ∧
    ((parseIntB 64 s.data.toList = .ok n ∧ er = .nilIface) ∨ ((∀ k, parseIntB 64 s.data.toList ≠ .ok k) ∧ ∃ t p, er = .iface t p)) ∧ St e m w' L) := by
  obtain ⟨t1, p1, h1⟩ := hv.es
  obtain ⟨t2, p2, h2⟩ := hv.er
  rcases hp : parseIntB 64 s.data.toList with n | _ | _
  · refine (Tryd.strconv_ParseInt_10_at64_ok s (by omega) n hp w).mono ?_
    rintro _ w' ⟨rfl, hw⟩
    refine ⟨_, rfl, n, .nilIface, rfl, .inl ⟨rfl, rfl⟩, ?_⟩
    rcases hw with rfl | ⟨t, rfl⟩
    · exact H
    · exact H.ch0 (below_ch (Lib.bytesWorld_below w _ t))
  · refine (Tryd.strconv_ParseInt_10_at64_syntax s (by omega) (fun k h => by rw [hp] at h; cases h) (by rw [hp]; intro h; cases h) _ w (H.mc h1) (.inr ⟨_, _, rfl⟩)).mono ?_
    rintro _ w' ⟨N, rfl, _, _, hb⟩
    exact ⟨_, rfl, _, _, rfl, .inr ⟨fun k h => (by cases h), _, _, rfl⟩, H.ch0 (below_ch hb)⟩
  · refine (Tryd.strconv_ParseInt_10_at64_range s (by omega) hp _ w (H.mc h2) (.inr ⟨_, _, rfl⟩)).mono ?_
    rintro _ w' ⟨N, rfl, _, _, hb⟩
    exact ⟨_, rfl, _, _, rfl, .inr ⟨fun k h => (by cases h), _, _, rfl⟩, H.ch0 (below_ch hb)⟩
theorem Cut_sp (H : St e m w L) (hv : LibV m) (s p : ByteArray) (hs : s.size ≤ 1000000) : Calls Tryd.prog 25 #[.string s, .string p] w (Ret fun v w' => v = .tuple #[.string (baL (cut s.data.toList p.data.toList).1), .string (baL (cut s.data.toList p.data.toList).2.1), .bool (cut s.data.toList p.data.toList).2.2] ∧ St e m w' L) := by
  obtain ⟨k, hk⟩ := hv.mx
  refine (Tryd.strings_Cut s p k w (by omega) (H.mc hk)).mono ?_
  rintro _ w' ⟨rfl, n, rfl⟩
  exact ⟨_, rfl, rfl, H.ch0 (Gr.ch ⟨n, #[], by rw [Sort.grow_empty]⟩)⟩
theorem CutPrefix_sp (H : St e m w L) (s p : ByteArray) : Calls Tryd.prog 27 #[.string s, .string p] w (Ret fun v w' => v = .tuple #[.string (baL (trimPrefix s.data.toList p.data.toList)), .bool (hasPrefix s.data.toList p.data.toList)] ∧ St e m w' L) := by
  refine (Tryd.strings_CutPrefix s p w).mono ?_
  rintro _ w' ⟨rfl, rfl⟩
  exact ⟨_, rfl, rfl, H⟩
theorem TrimPrefix_sp (H : St e m w L) (s p : ByteArray) : Calls Tryd.prog 39 #[.string s, .string p] w (Ret fun v w' => v = .string (baL (trimPrefix s.data.toList p.data.toList)) ∧ St e m w' L) := by
  refine (Tryd.strings_TrimPrefix s p w).mono ?_
  rintro _ w' ⟨rfl, rfl⟩
  exact ⟨_, rfl, rfl, H⟩
theorem IndexByte_sp (H : St e m w L) (s : ByteArray) (c : Int) : Calls Tryd.prog 33 #[.string s, .int .u8 c] w (Ret fun v w' => v = .int .i64 (indexByte s.data.toList c.toNat.toUInt8) ∧ St e m w' L) := by
  refine (Tryd.strings_IndexByte s c w).mono ?_
  rintro _ w' ⟨rfl, rfl⟩
  exact ⟨_, rfl, rfl, H⟩
theorem trim_minus (l : List UInt8) : trimPrefix l [45] = digitsOf l := by
  unfold trimPrefix hasPrefix digitsOf
  cases l with
  | nil => simp
  | cons c r => by_cases h : c = 45 <;> simp [h, List.isPrefixOf]; exact fun e => absurd e.symm h
/-- A string's iterator moves on. -/
theorem St.iter {k pos pos' : Nat} {s : ByteArray} (H : St e m w (blk k (.stringIter s pos) :: L)) : St e m (w.iterAt k s pos') (blk k (.stringIter s pos') :: L) := by
  have hk := H.blkAt
  refine St.ch (D := [k]) H ⟨rfl, rfl, rfl, by rw [Lib.iterAt_size]; exact Nat.le_refl _, fun b _ hb => Lib.iterAt_other w k b s pos' (by simpa using hb)⟩ fun a ha hl => ⟨fun b hb => ?_, hone k _, hone_self _ _, ?_, fun i hi => .inl ?_⟩
  · left; simp at hb; subst hb; rw [ha]; simp
  · exact hone_le (Lib.iterAt_heap w k s pos pos' hk)
  · rw [hone_ne hi, ha]; simp
end
end Go.Proofs.YtmihgfhpmnomoaaDoor
