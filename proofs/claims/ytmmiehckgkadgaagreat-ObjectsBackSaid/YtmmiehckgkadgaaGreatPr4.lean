/- Own lemmas and walks (ON), without what the law does not need. Laid by a program of this session (prune.py). -/
import Derived.Deep.LoopGhost
import Derived.WalkLawsBesides
import Derived.Test.YtmmiehckgkadgaaGreatPr2
import Derived.Test.YtmmiehckgkadgaaGreatPr3
namespace Go.Proofs.YtmmiehckgkadgaaGreat.O
set_option linter.unusedVariables false
set_option linter.unusedSimpArgs false
open Go.RowKit Go.Proofs.YtmmiehckgkadgaaGreatW.PrintWords
theorem ret_bool {a b : Bool} (h : a = b) : Ending.returned (.bool a) = .returned (.bool b) := by rw [h]
theorem ret_int {a b : Int} (h : a = b) : Ending.returned (.int .i64 a) = .returned (.int .i64 b) := by rw [h]
theorem str_ne (s : ByteArray) (h : 1 ≤ s.size) : s.toList.isEmpty = false := by
  rw [Lib.toList_data]
  cases he : s.data.toList with
  | nil => have := data_length s; rw [he] at this; simp at this; omega
  | cons a l => rfl
theorem str_nil (s : ByteArray) (h : s.size = 0) : s.toList = [] := by
  rw [Lib.toList_data]
  exact List.eq_nil_of_length_eq_zero (by rw [data_length]; exact h)
def lowI (c : Int) : Bool := decide (97 ≤ c ∧ c ≤ 122)
def plainI (c : Int) : Bool := decide ((97 ≤ c ∧ c ≤ 122) ∨ (48 ≤ c ∧ c ≤ 57) ∨ c = 95)
def plainS (s : ByteArray) : Bool := decide (∀ k, k < s.size → plainI (bt s k) = true)
def nameB (s : ByteArray) : Bool := decide (1 ≤ s.size) && (decide (s.size ≤ 16) && (lowI (bt s 0) && plainS s))
theorem bt_nat (s : ByteArray) (k : Nat) (h : k < s.size) : bt s (k : Int) = (s[k].toNat : Int) := by simp [bt, h]
theorem bt_zero (s : ByteArray) (h : 0 < s.size) : bt s 0 = (s[0].toNat : Int) := bt_nat s 0 h
theorem plainS_false {s : ByteArray} {k : Nat} (hk : k < s.size) (h : plainI (bt s k) = false) : plainS s = false := decide_eq_false fun hh => by rw [hh k hk] at h; cases h
theorem plainS_true {s : ByteArray} (h : ∀ k, k < s.size → plainI (bt s k) = true) : plainS s = true := decide_eq_true h
def letters : List UInt8 := [97, 98, 99, 100, 101, 102, 103, 104, 105, 106, 107, 108, 109, 110, 111, 112, 113, 114, 115, 116, 117, 118, 119, 120, 121, 122]
def signs : List UInt8 := letters ++ [48, 49, 50, 51, 52, 53, 54, 55, 56, 57, 95]
theorem low_at : ∀ n : Nat, n < 256 → decide (0 ≤ Lib.indexByte letters ((n : Int).toNat.toUInt8)) = lowI n := by decide +kernel
theorem plain_at : ∀ n : Nat, n < 256 → decide (0 ≤ Lib.indexByte signs ((n : Int).toNat.toUInt8)) = plainI n := by decide +kernel
def Tells (b : Bool) (w : World) (e : Ending) (w' : World) : Prop := ∃ r : Int, e = .returned (.int .i64 r) ∧ decide (0 ≤ r) = b ∧ w = w'
theorem idx_letters (c : Int) (w : World) (h0 : 0 ≤ c) (h1 : c < 256) : Calls Tryz.prog 97 #[.string ⟨#[97, 98, 99, 100, 101, 102, 103, 104, 105, 106, 107, 108, 109, 110, 111, 112, 113, 114, 115, 116, 117, 118, 119, 120, 121, 122]⟩, .int .u8 c] w (Tells (lowI c) w) := by
  obtain ⟨n, rfl⟩ := Int.eq_ofNat_of_zero_le h0
  exact (Any.strings_IndexByte Tryz.lays137 _ (n : Int) w).mono fun e w' ⟨he, hw⟩ => ⟨_, he, low_at n (by omega), hw.symm⟩
theorem idx_signs (c : Int) (w : World) (h0 : 0 ≤ c) (h1 : c < 256) : Calls Tryz.prog 97 #[.string ⟨#[97, 98, 99, 100, 101, 102, 103, 104, 105, 106, 107, 108, 109, 110, 111, 112, 113, 114, 115, 116, 117, 118, 119, 120, 121, 122, 48, 49, 50, 51, 52, 53, 54, 55, 56, 57, 95]⟩, .int .u8 c] w (Tells (plainI c) w) := by
  obtain ⟨n, rfl⟩ := Int.eq_ofNat_of_zero_le h0
  exact (Any.strings_IndexByte Tryz.lays137 _ (n : Int) w).mono fun e w' ⟨he, hw⟩ => ⟨_, he, plain_at n (by omega), hw.symm⟩
set_option maxHeartbeats 400000 in
theorem plain.calls (s : ByteArray) (w : World) (hs : s.size ≤ 16) :
    Calls Tryz.prog 98 #[.string s] w fun e w' => e = .returned (.bool (plainS s)) ∧ w = w' := by
  generalize hr : plainS s = r
  have HR := Aside0.mk hr
  clear hr
  go_enter Tryz.func98, Tryz.ntmps98
  go_wp2
  go_loop [6] (fun i => ∃ k : Nat, k ≤ s.size ∧ i = .int .i64 k ∧ Aside0 (∀ j, j < k → plainI (bt s j) = true)) (fun i => s.size - (intOf i).toNat)
  case atStart => exact ⟨0, Nat.zero_le _, rfl, ⟨fun j h => absurd h (Nat.not_lt_zero j)⟩⟩
  case round =>
    obtain ⟨k, hk, rfl, HJ⟩ := hrel
    by_cases hlt : k < s.size
    · have HC := Aside0.mk (idx_signs (bt s k) w (bt_range s k).1 (by have := (bt_range s k).2; omega))
      rw [bt_nat s k hlt] at HC
      generalize hp : plainI (s[k].toNat : Int) = p at HC
      have HP := Aside0.mk hp
      clear hp
      go_wp2_with fail
      refine HC.out.mono ?_
      rintro e w' ⟨q, rfl, hq, rfl⟩
      cases p with
      | true =>
        have hq' : ¬ q < 0 := by have := of_decide_eq_true hq; omega
        clear hq
        go_wp2
        go_round
        case rel => exact ⟨k + 1, by omega, by go_num, ⟨fun j h => by rcases Nat.lt_or_ge j k with h' | h'; exact HJ.out j h'; obtain rfl : j = k := (by omega); rw [bt_nat s j hlt]; exact HP.out⟩⟩
        case measure => simp [intOf]; omega
      | false =>
        have hq' : q < 0 := by have := of_decide_eq_false hq; omega
        clear hq
        go_wp2
        go_ret
        exact ⟨ret_bool (by rw [← HR.out]; exact (plainS_false hlt (by rw [bt_nat s k hlt]; exact HP.out)).symm), rfl⟩
    · have hd : decide (k < s.size) = false := decide_eq_false hlt
      go_wp2
      go_ret
      exact ⟨ret_bool (by rw [← HR.out]; exact (plainS_true fun j hj => HJ.out j (by omega)).symm), rfl⟩
set_option maxHeartbeats 400000 in
theorem Name.calls (s : ByteArray) (w : World) :
    Calls Tryz.prog 53 #[.string s] w fun e w' => e = .returned (.bool (nameB s)) ∧ w = w' := by
  have HN := Aside0.mk (show nameB s = (decide (1 ≤ s.size) && (decide (s.size ≤ 16) && (lowI (bt s 0) && plainS s))) from rfl)
  rw [HN.out]
  clear HN
  by_cases h1 : 1 ≤ s.size
  · by_cases h2 : s.size ≤ 16
    · have hne := str_ne s h1
      have h2' : (s.size : Int) ≤ 16 := by omega
      have HL := Aside0.mk (idx_letters (bt s 0) w (bt_range s 0).1 (by have := (bt_range s 0).2; omega))
      have HP := Aside0.mk (plain.calls s w h2)
      rw [bt_zero s (by omega)] at HL ⊢
      go_enter Tryz.func53, Tryz.ntmps53
      generalize hp : lowI (s[0].toNat : Int) = p at HL ⊢
      clear hp
      go_wp2_with fail
      refine HL.out.mono ?_
      rintro e w' ⟨q, rfl, hq, rfl⟩
      cases p with
      | false =>
        have hq' : ¬ 0 ≤ q := of_decide_eq_false hq
        clear hq
        go_wp2
        go_ret
        exact ⟨by simp, rfl⟩
      | true =>
        have hq' : 0 ≤ q := of_decide_eq_true hq
        clear hq
        go_wp2_with fail
        refine HP.out.mono ?_
        rintro e w' ⟨rfl, rfl⟩
        go_wp2
        go_ret
        exact ⟨ret_bool (by rw [decide_eq_true h1, decide_eq_true h2]; simp), rfl⟩
    · have hne := str_ne s h1
      have h2' : ¬ (s.size : Int) ≤ 16 := by omega
      rw [decide_eq_false h2]
      go_enter Tryz.func53, Tryz.ntmps53
      go_wp2
      go_ret
      exact ⟨by simp, rfl⟩
  · have he := str_nil s (by omega)
    rw [decide_eq_false h1]
    go_enter Tryz.func53, Tryz.ntmps53
    go_wp2
    go_ret
    exact ⟨rfl, rfl⟩
end Go.Proofs.YtmmiehckgkadgaaGreat.O
