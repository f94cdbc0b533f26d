/-
  annalsref2.piece, whatever the string.
-/
import Derived.Test.YtikodgaomhmbmaaDoorN6
import Derived.Test.YtikodgaomhmbmaaDoorN7
import Derived.Test.YtikodgaomhmbmaaDoorN8
import Derived.Test.YtikodgaomhmbmaaDoorN9
set_option linter.unusedVariables false
set_option linter.unusedSimpArgs false
namespace Go.Proofs.YtikodgaomhmbmaaDoor
open Go.RowKit

theorem piece_calls (s : ByteArray) (i : Nat) (hi : i < s.size) (hsz : s.size ≤ 140737488351232) (w : World) :
    Calls Tryd.prog 113 #[.string s, .int .i64 i] w fun e w' => e = .returned (.agg (pieceCells (pieceR s i) i (Utf8.decode s i).2)) ∧ Below w.heap.size w w' := by
  have g0 : s.get! (i + 0) = s[i] := get_at s i hi
  have hbad : 128 ≤ s[i].toNat → Utf8.decode s i = (65533, 1) → Calls Tryd.prog 113 #[.string s, .int .i64 i] w (fun e w' => e = .returned (.agg (pieceCells (-1) i 1)) ∧ Below w.heap.size w w') →
      Calls Tryd.prog 113 #[.string s, .int .i64 i] w fun e w' => e = .returned (.agg (pieceCells (pieceR s i) i (Utf8.decode s i).2)) ∧ Below w.heap.size w w' := by
    intro h0 h c
    obtain ⟨p1, p2⟩ := piece_of_bad h (by rw [g0]; exact h0)
    rw [p1, p2]
    exact c
  have hgood : ∀ (c n : Nat) (r : Int), 2 ≤ n → Utf8.decode s i = (c, n) → (c : Int) = r → Calls Tryd.prog 113 #[.string s, .int .i64 i] w (fun e w' => e = .returned (.agg (pieceCells r i n)) ∧ Below w.heap.size w w') →
      Calls Tryd.prog 113 #[.string s, .int .i64 i] w fun e w' => e = .returned (.agg (pieceCells (pieceR s i) i (Utf8.decode s i).2)) ∧ Below w.heap.size w w' := by
    intro c n r hn h hc k
    obtain ⟨p1, p2⟩ := piece_of_good h hn
    rw [p1, p2, hc]
    exact k
  have e0 : (s.get! (i + 0)).toNat = s[i].toNat := by rw [g0]
  by_cases h128 : s[i].toNat < 128
  · have hd := decode_ascii s i hi h128
    have hp : pieceR s i = (s[i].toNat : Int) := by
      unfold pieceR
      rw [hd, if_neg (by rw [e0]; omega)]
    rw [hp, hd]
    exact piece_ascii s i hi hsz h128 w
  have h0 : 128 ≤ s[i].toNat := by omega
  by_cases hodd : s[i].toNat < 192 ∨ 248 ≤ s[i].toNat
  · exact hbad h0 (decode_odd e0 h0 hodd) (piece_odd s i hi hsz h0 hodd w)
  by_cases h224 : s[i].toNat < 224
  · have hd := decode_two (b1 := (s.get! (i + 1)).toNat) e0 rfl (by omega) h224
    by_cases f1 : i + 1 < s.size
    · rw [get_of s (i + 1) f1] at hd
      by_cases c1 : s[i + 1].toNat < 128 ∨ 191 < s[i + 1].toNat
      · rw [if_neg (by omega)] at hd
        exact hbad h0 hd (piece_2bad s i hi hsz (by omega) h224 f1 c1 w)
      · by_cases hl : s[i].toNat < 194
        · rw [if_neg (by omega)] at hd
          exact hbad h0 hd (piece_2low s i hi hsz (by omega) h224 f1 (by omega) (by omega) hl w)
        · rw [if_pos ⟨f1, by omega, by omega⟩] at hd
          exact hgood _ _ _ (by omega) hd (by omega) (piece_2good s i hi hsz (by omega) h224 f1 (by omega) (by omega) w)
    · rw [if_neg (fun h => f1 h.1)] at hd
      exact hbad h0 hd (piece_short2 s i hi hsz (by omega) h224 (by omega) w)
  by_cases h240 : s[i].toNat < 240
  · have hd := decode_three (b1 := (s.get! (i + 1)).toNat) (b2 := (s.get! (i + 2)).toNat) e0 rfl rfl (by omega) h240
    by_cases f2 : i + 2 < s.size
    · have f1 : i + 1 < s.size := by omega
      rw [get_of s (i + 1) f1, get_of s (i + 2) f2] at hd
      by_cases c1 : s[i + 1].toNat < 128 ∨ 191 < s[i + 1].toNat
      · rw [if_neg (by omega)] at hd
        exact hbad h0 hd (piece_3bad1 s i hi hsz (by omega) h240 f2 c1 w)
      by_cases c2 : s[i + 2].toNat < 128 ∨ 191 < s[i + 2].toNat
      · rw [if_neg (by omega)] at hd
        exact hbad h0 hd (piece_3bad2 s i hi hsz (by omega) h240 f2 (by omega) (by omega) c2 w)
      by_cases hl : ((((s[i].toNat : Int) - 224) * 64 + s[i + 1].toNat - 128) * 64 + s[i + 2].toNat - 128) < 2048
      · rw [if_neg (by omega)] at hd
        exact hbad h0 hd (piece_3low s i hi hsz (by omega) h240 f2 (by omega) (by omega) (by omega) (by omega) hl w)
      by_cases hh : 55296 ≤ ((((s[i].toNat : Int) - 224) * 64 + s[i + 1].toNat - 128) * 64 + s[i + 2].toNat - 128) ∧ ((((s[i].toNat : Int) - 224) * 64 + s[i + 1].toNat - 128) * 64 + s[i + 2].toNat - 128) ≤ 57343
      · rw [if_neg (by omega)] at hd
        exact hbad h0 hd (piece_3half s i hi hsz (by omega) h240 f2 (by omega) (by omega) (by omega) (by omega) hh.1 hh.2 w)
      rw [if_pos ⟨⟨f1, by omega⟩, ⟨f2, by omega⟩, by omega, by omega⟩] at hd
      exact hgood _ _ _ (by omega) hd (by omega) (piece_3good s i hi hsz (by omega) h240 f2 (by omega) (by omega) (by omega) (by omega) (by omega) (by omega) w)
    · rw [if_neg (fun h => f2 h.2.1.1)] at hd
      exact hbad h0 hd (piece_short3 s i hi hsz (by omega) h240 (by omega) w)
  have hd := decode_four (b1 := (s.get! (i + 1)).toNat) (b2 := (s.get! (i + 2)).toNat) (b3 := (s.get! (i + 3)).toNat) e0 rfl rfl rfl (by omega) (by omega)
  by_cases f3 : i + 3 < s.size
  · have f1 : i + 1 < s.size := by omega
    have f2 : i + 2 < s.size := by omega
    rw [get_of s (i + 1) f1, get_of s (i + 2) f2, get_of s (i + 3) f3] at hd
    by_cases c1 : s[i + 1].toNat < 128 ∨ 191 < s[i + 1].toNat
    · rw [if_neg (by omega)] at hd
      exact hbad h0 hd (piece_4bad1 s i hi hsz (by omega) (by omega) f3 c1 w)
    by_cases c2 : s[i + 2].toNat < 128 ∨ 191 < s[i + 2].toNat
    · rw [if_neg (by omega)] at hd
      exact hbad h0 hd (piece_4bad2 s i hi hsz (by omega) (by omega) f3 (by omega) (by omega) c2 w)
    by_cases c3 : s[i + 3].toNat < 128 ∨ 191 < s[i + 3].toNat
    · rw [if_neg (by omega)] at hd
      exact hbad h0 hd (piece_4bad3 s i hi hsz (by omega) (by omega) f3 (by omega) (by omega) (by omega) (by omega) c3 w)
    by_cases hl : (((((s[i].toNat : Int) - 240) * 64 + s[i + 1].toNat - 128) * 64 + s[i + 2].toNat - 128) * 64 + s[i + 3].toNat - 128) < 65536
    · rw [if_neg (by omega)] at hd
      exact hbad h0 hd (piece_4low s i hi hsz (by omega) (by omega) f3 (by omega) (by omega) (by omega) (by omega) (by omega) (by omega) hl w)
    by_cases hh : 1114111 < (((((s[i].toNat : Int) - 240) * 64 + s[i + 1].toNat - 128) * 64 + s[i + 2].toNat - 128) * 64 + s[i + 3].toNat - 128)
    · rw [if_neg (by omega)] at hd
      exact hbad h0 hd (piece_4high s i hi hsz (by omega) (by omega) f3 (by omega) (by omega) (by omega) (by omega) (by omega) (by omega) hh w)
    rw [if_pos ⟨⟨f1, by omega⟩, ⟨f2, by omega⟩, ⟨f3, by omega⟩, by omega, by omega⟩] at hd
    exact hgood _ _ _ (by omega) hd (by omega) (piece_4good s i hi hsz (by omega) (by omega) f3 (by omega) (by omega) (by omega) (by omega) (by omega) (by omega) (by omega) (by omega) w)
  · rw [if_neg (fun h => f3 h.2.2.1.1)] at hd
    exact hbad h0 hd (piece_short4 s i hi hsz (by omega) (by omega) (by omega) w)
end Go.Proofs.YtikodgaomhmbmaaDoor
