/-
  wire.ReadUint, ReadInt, piece, ReadBytes and their plain laws; the writing of the reference of layer 1.
-/
import Derived.Test.YtikodgaomhmbmaaDoorMWar
import Derived.Laws.CopyOwn
set_option linter.unusedVariables false
set_option linter.unusedSimpArgs false
namespace Go.Proofs.YtikodgaomhmbmaaDoor
open Go.RowKit

theorem and_127 : ∀ n < 256, bits .and .u8 ((n : Nat) : Int) 127 = ((n % 128 : Nat) : Int) := by decide +kernel
theorem or_u64 (a b : Nat) (ha : a < 18446744073709551616) (hb : b < 18446744073709551616) : bits .or .u64 (a : Int) (b : Int) = ((a ||| b : Nat) : Int) := by
  have hx : a ||| b < 2 ^ 64 := Nat.or_lt_two_pow (by omega) (by omega)
  have h1 : (BitVec.ofInt 64 (a : Int)).toNat = a := by
    rw [BitVec.ofInt_natCast, BitVec.toNat_ofNat]; exact Nat.mod_eq_of_lt (by omega)
  have h2 : (BitVec.ofInt 64 (b : Int)).toNat = b := by
    rw [BitVec.ofInt_natCast, BitVec.toNat_ofNat]; exact Nat.mod_eq_of_lt (by omega)
  show IntKind.u64.wrap ((BitVec.ofInt 64 (a : Int) ||| BitVec.ofInt 64 (b : Int)).toNat : Int) = _
  rw [BitVec.toNat_or, h1, h2, IntKind.wrap_u64]
  omega
/-- A number out of bytes: its value, how many bytes it takes, the error. -/
def readL : Nat → Nat → List UInt8 → Nat × Nat × Int
  | _, _, [] => (0, 0, 10)
  | i, v, b :: r => if i = 9 ∧ 1 < b.toNat then (0, 0, 12) else if 128 ≤ b.toNat then readL (i + 1) (v + b.toNat % 128 * 2 ^ (7 * i)) r
    else if b.toNat = 0 ∧ 0 < i then (0, 0, 11) else (v + b.toNat % 128 * 2 ^ (7 * i), i + 1, 0)
theorem drop_cons {l : List UInt8} {k : Nat} (h : k < l.length) : l.drop k = l[k] :: l.drop (k + 1) := List.drop_eq_getElem_cons h
theorem pow7 {i : Nat} (hi : i ≤ 8) : 2 ^ (7 * i) ≤ 72057594037927936 := by
  have : 2 ^ (7 * i) ≤ 2 ^ 56 := Nat.pow_le_pow_right (by decide) (by omega)
  omega
/-- One byte more. -/
theorem or_step {i v n : Nat} (hi : i ≤ 9) (hv : v < 2 ^ (7 * i)) (hn : n < 128) (h9 : i = 9 → n ≤ 1) :
    bits .or .u64 (v : Int) (IntKind.u64.wrap ((n : Int) * 2 ^ (7 * i))) = ((v + n * 2 ^ (7 * i) : Nat) : Int) ∧ v + n * 2 ^ (7 * i) < 18446744073709551616 := by
  have hb : n * 2 ^ (7 * i) < 18446744073709551616 ∧ v + n * 2 ^ (7 * i) < 18446744073709551616 := by
    by_cases h : i = 9
    · subst h
      have := h9 rfl
      have e : 2 ^ (7 * 9) = 9223372036854775808 := by decide
      rw [e] at hv ⊢
      obtain rfl | rfl : n = 0 ∨ n = 1 := by omega
      · omega
      · omega
    · have h8 := pow7 (i := i) (by omega)
      have : n * 2 ^ (7 * i) ≤ 127 * 72057594037927936 := Nat.mul_le_mul (by omega) h8
      omega
  refine ⟨?_, hb.2⟩
  have e : IntKind.u64.wrap ((n : Int) * 2 ^ (7 * i)) = ((n * 2 ^ (7 * i) : Nat) : Int) := by
    have e1 : (n : Int) * 2 ^ (7 * i) = ((n * 2 ^ (7 * i) : Nat) : Int) := by simp
    rw [e1, IntKind.wrap_u64]
    omega
  rw [e, or_u64 _ _ (by omega) hb.1]
  congr 1
  rw [Nat.or_comm, Nat.mul_comm, ← Nat.two_pow_add_eq_or_of_lt hv, Nat.add_comm]
theorem shl_run {P : Program} (i : Nat) (hi : i ≤ 9) (x : Int) (w : World) : (Op.shift .shl .u64 x .u64 (7 * (i : Int))).run P w = .ok (.int .u64 (IntKind.u64.wrap (x * 2 ^ (7 * i)))) w := by
  have h64 : IntKind.u64.bits = 64 := rfl
  have e : min (7 * (i : Int)).toNat IntKind.u64.bits = 7 * i := by rw [h64]; omega
  unfold Op.shift
  rw [if_neg (by omega)]
  simp [e]

/-- What ReadUint says at p. -/
def readEnd (p : Nat) (x : Nat × Nat × Int) : Int := if x.2.2 = 0 then ((p + x.2.1 : Nat) : Int) else 0
set_option maxHeartbeats 4000000 in
set_option maxRecDepth 100000 in
theorem readUint_calls (l : List UInt8) (A : Option Addr) (c : Nat) (p : Nat) (hp : p ≤ l.length) (hl : l.length ≤ 140737488351232) (w : World) (hd : RB w A l) :
    Calls Tryd.prog 69 #[.slice A l.length c, .int .i64 p] w fun e w' => e = .returned (.tuple #[.int .u64 (readL 0 0 (l.drop p)).1, .int .i64 (readEnd p (readL 0 0 (l.drop p))), .int .i64 (readL 0 0 (l.drop p)).2.2]) ∧ w = w' := by
  have t1 : decide ((p : Int) < 0) = false := by simp
  have t2 : decide ((l.length : Int) < (p : Int)) = false := by simp; omega
  go_enter Tryd.func69, Tryd.ntmps69
  go_wp2
  go_loopg [7, 8] 10 (fun n v7 v8 wr => ∃ (i : Nat) (v : Nat), n + i = 10 ∧ v7 = .int .u64 v ∧ v8 = .int .i64 i ∧ Aside (i ≤ 9 ∧ v < 2 ^ (7 * i) ∧ readL 0 0 (l.drop p) = readL i v (l.drop (p + i)) ∧ w = wr))
  case atStart => exact ⟨0, 0, by omega, rfl, rfl, ⟨by omega, by simp, rfl, rfl⟩⟩
  case round =>
    obtain ⟨i, v, hn, rfl, rfl, HA⟩ := hrel
    obtain ⟨hi9, hv, hread, rfl⟩ := HA.out
    clear HA
    by_cases hlt : p + i < l.length
    · have t3 : decide ((l.length : Int) ≤ (p : Int) + (i : Int)) = false := by rw [decide_eq_false_iff_not]; omega
      obtain ⟨ad, rfl, hc⟩ := hd.get hlt
      rw [drop_cons hlt] at hread
      have hb := l[p + i].toNat_lt
      generalize l[p + i] = b at hc hb hread
      have ta : bits .and .u8 (b.toNat : Int) 127 = ((b.toNat % 128 : Nat) : Int) := and_127 _ hb
      have hn1 : b.toNat % 128 < 128 := by omega
      have ts := fun x w => shl_run (P := Tryd.prog) i hi9 x w
      by_cases hbad : i = 9 ∧ 1 < b.toNat
      · have e : readL 0 0 (l.drop p) = (0, 0, 12) := by rw [hread]; simp only [readL]; rw [if_pos hbad]
        have E := Lib.hid e
        have t4 : ((i : Int) == 9) = true := by simp [hbad.1]
        have t5 : decide ((1 : Int) < (b.toNat : Int)) = true := by rw [decide_eq_true_eq]; omega
        have t5' : decide (1 < b.toNat) = true := by rw [decide_eq_true_eq]; omega
        clear hread e hv hbad
        go_wp2
        go_ret3
        exact ⟨by rw [E.out]; rfl, rfl⟩
      have h9 : i = 9 → b.toNat % 128 ≤ 1 := fun h => by
        have : ¬ 1 < b.toNat := fun h' => hbad ⟨h, h'⟩
        omega
      obtain ⟨s1, s2⟩ := or_step hi9 hv hn1 h9
      have tw : IntKind.u64.wrap ((b.toNat % 128 : Nat) : Int) = ((b.toNat % 128 : Nat) : Int) := by rw [IntKind.wrap_u64]; omega
      have hvn : v + b.toNat % 128 * 2 ^ (7 * i) < 2 ^ (7 * (i + 1)) := by
        have e1 : 2 ^ (7 * (i + 1)) = 128 * 2 ^ (7 * i) := by rw [show 7 * (i + 1) = 7 * i + 7 by omega, Nat.pow_add]; omega
        have : b.toNat % 128 * 2 ^ (7 * i) ≤ 127 * 2 ^ (7 * i) := Nat.mul_le_mul_right _ (by omega)
        omega
      simp only [readL] at hread
      rw [if_neg hbad] at hread
      generalize hV : v + b.toNat % 128 * 2 ^ (7 * i) = V at s1 s2 hvn hread
      generalize hN : b.toNat % 128 = n at ta tw s1
      have HV := Lib.hid hV
      have HN := Lib.hid hN
      have tail : ∀ b9 : Bool, ((i : Int) == 9) = b9 → (b9 = true → decide ((1 : Int) < (b.toNat : Int)) = false ∧ decide (1 < b.toNat) = false) := fun b9 h1 h2 => by
        subst h2
        have : i = 9 := by simp at h1; omega
        have : ¬ 1 < b.toNat := fun h' => hbad ⟨this, h'⟩
        constructor <;> (rw [decide_eq_false_iff_not]; omega)
      by_cases h128 : 128 ≤ b.toNat
      · have t6 : decide ((128 : Int) ≤ (b.toNat : Int)) = true := by rw [decide_eq_true_eq]; omega
        have t6' : decide (128 ≤ b.toNat) = true := by rw [decide_eq_true_eq]; exact h128
        have hni : i ≠ 9 := fun h => hbad ⟨h, by omega⟩
        have t4 : ((i : Int) == 9) = false := int_beq_false (by omega)
        rw [if_pos h128] at hread
        have hread2 : readL 0 0 (l.drop p) = readL (i + 1) V (l.drop (p + (i + 1))) := by rw [hread, Nat.add_assoc]
        have Hread := Lib.hid hread2
        have Hvn := Lib.hid hvn
        have hi8 : i + 1 ≤ 9 := by omega
        clear hread hread2 hvn hbad h128 hni h9 tail hv
        go_wp2
        go_roundg (gk - 1)
        case measure => omega
        case rel => exact ⟨i + 1, V, by omega, rfl, by go_num, ⟨hi8, Hvn.out, Hread.out, rfl⟩⟩
      have t6 : decide ((128 : Int) ≤ (b.toNat : Int)) = false := by rw [decide_eq_false_iff_not]; omega
      have t6' : decide (128 ≤ b.toNat) = false := by rw [decide_eq_false_iff_not]; exact h128
      rw [if_neg h128] at hread
      by_cases hz : b.toNat = 0 ∧ 0 < i
      · have t7 : ((b.toNat : Int) == 0) = true := by simp [hz.1]
        have t8 : decide ((0 : Int) < (i : Int)) = true := by rw [decide_eq_true_eq]; omega
        have t8' : decide (0 < i) = true := by rw [decide_eq_true_eq]; exact hz.2
        rw [if_pos hz] at hread
        have E := Lib.hid hread
        clear hread hvn hbad h128 h9 hv hz
        cases hb9 : ((i : Int) == 9)
        case' true => obtain ⟨u1, u2⟩ := tail true hb9 rfl
        all_goals
          clear tail
          go_wp2
          go_ret3
          exact ⟨by rw [E.out]; rfl, rfl⟩
      · rw [if_neg hz] at hread
        have E := Lib.hid hread
        have hz' : b.toNat = 0 → ¬ 0 < i := fun a b => hz ⟨a, b⟩
        clear hread hvn hbad h128 h9 hv hz
        cases hb9 : ((i : Int) == 9)
        case' true => obtain ⟨u1, u2⟩ := tail true hb9 rfl
        all_goals
          clear tail
          cases hz0 : ((b.toNat : Int) == 0)
        case' false.true =>
          have h0 : ¬ 0 < i := hz' (by simp at hz0; omega)
          have t8 : decide ((0 : Int) < (i : Int)) = false := by rw [decide_eq_false_iff_not]; omega
          have t8' : decide (0 < i) = false := by rw [decide_eq_false_iff_not]; exact h0
        case' true.true =>
          have h0 : ¬ 0 < i := hz' (by simp at hz0; omega)
          have t8 : decide ((0 : Int) < (i : Int)) = false := by rw [decide_eq_false_iff_not]; omega
          have t8' : decide (0 < i) = false := by rw [decide_eq_false_iff_not]; exact h0
        all_goals
          clear hz'
          go_wp2
          go_ret3
          exact ⟨by rw [E.out]; simp [readEnd, Int.add_assoc], rfl⟩
    · have t3 : decide ((l.length : Int) ≤ (p : Int) + (i : Int)) = true := by rw [decide_eq_true_eq]; omega
      have e : readL 0 0 (l.drop p) = (0, 0, 10) := by rw [hread, List.drop_eq_nil_of_le (by omega)]; rfl
      have E := Lib.hid e
      clear hread e hv
      go_wp2
      go_ret3
      exact ⟨by rw [E.out]; rfl, rfl⟩
end Go.Proofs.YtikodgaomhmbmaaDoor
namespace Go.Proofs.YtikodgaomhmbmaaDoor
open Go.RowKit

theorem readL_lt : ∀ (l : List UInt8) (i v : Nat), i ≤ 9 → v < 2 ^ (7 * i) → (readL i v l).1 < 18446744073709551616
  | [], i, v, _, _ => by simp [readL]
  | b :: r, i, v, hi, hv => by
    simp only [readL]
    split
    · simp
    · rename_i hbad
      have hn : b.toNat % 128 < 128 := by omega
      have h9 : i = 9 → b.toNat % 128 ≤ 1 := fun h => by
        have : ¬ 1 < b.toNat := fun h' => hbad ⟨h, h'⟩
        omega
      have hs := (or_step hi hv hn h9).2
      split
      · rename_i h128
        have hni : i ≠ 9 := fun h => hbad ⟨h, by omega⟩
        refine readL_lt r (i + 1) _ (by omega) ?_
        have e1 : 2 ^ (7 * (i + 1)) = 128 * 2 ^ (7 * i) := by rw [show 7 * (i + 1) = 7 * i + 7 by omega, Nat.pow_add]; omega
        have : b.toNat % 128 * 2 ^ (7 * i) ≤ 127 * 2 ^ (7 * i) := Nat.mul_le_mul_right _ (by omega)
        omega
      · split
        · simp
        · exact hs
/-- The signed number that wire.ReadInt makes of a number. -/
def zag (u : Nat) : Int := bits .xor .i64 ((u : Int) / 2) (wrap64 (-wrap64 (bits .and .u64 (u : Int) 1)))
set_option maxHeartbeats 1000000 in
set_option maxRecDepth 100000 in
theorem readInt_calls (l : List UInt8) (A : Option Addr) (c : Nat) (p : Nat) (hp : p ≤ l.length) (hl : l.length ≤ 140737488351232) (w : World) (hd : RB w A l) :
    Calls Tryd.prog 84 #[.slice A l.length c, .int .i64 p] w fun e w' => e = .returned (.tuple #[.int .i64 (if (readL 0 0 (l.drop p)).2.2 = 0 then zag (readL 0 0 (l.drop p)).1 else 0), .int .i64 (readEnd p (readL 0 0 (l.drop p))), .int .i64 (readL 0 0 (l.drop p)).2.2]) ∧ w = w' := by
  have cu := readUint_calls l A c p hp hl w hd
  have hu := readL_lt (l.drop p) 0 0 (by omega) (by simp)
  generalize readL 0 0 (l.drop p) = x at cu hu
  obtain ⟨u, k, e⟩ := x
  have hu' : u < 18446744073709551616 := hu
  by_cases h0 : e = 0
  · subst h0
    have q : readEnd p (u, k, 0) = ((p + k : Nat) : Int) := rfl
    rw [q] at cu ⊢
    have Cu := Lib.hid cu
    clear cu hu q hd
    go_enter Tryd.func84, Tryd.ntmps84
    go_wp2_with (first
      | (go_at_call 69; (with_reducible refine Cu.out.mono ?_); rintro e w1 ⟨rfl, rfl⟩))
    go_ret3
    exact ⟨rfl, rfl⟩
  · have t1 := int_bne_true h0
    have q : readEnd p (u, k, e) = 0 := if_neg h0
    have g : (if (u, k, e).2.2 = 0 then zag (u, k, e).1 else 0) = 0 := if_neg h0
    rw [q] at cu ⊢
    rw [g]
    have Cu := Lib.hid cu
    clear cu hu q hd g h0
    go_enter Tryd.func84, Tryd.ntmps84
    go_wp2_with (first
      | (go_at_call 69; (with_reducible refine Cu.out.mono ?_); rintro e w1 ⟨rfl, rfl⟩))
    go_ret3
    exact ⟨rfl, rfl⟩
end Go.Proofs.YtikodgaomhmbmaaDoor
namespace Go.Proofs.YtikodgaomhmbmaaDoor
open Go.RowKit

section
variable {P : Program} {ops : Array Oper} {rest : List Oper} {o : Oper} {a : Act} {Q : Exit → Act → World → Prop} {W : World}
/-- make([]T, n): a new row of n cells. -/
theorem ev_made (hgd : o.guard = none) {l c : Operand} {t e : TypeId} (ho : o.op = .makeSlice t l c) {z : Value} {bytes : Nat} (ht : P.underlying t = some (.slice e)) (hinfo : (P.info? e).map (fun i => (i.zero, i.size, i.bytes)) = some (some z, 1, bytes))
    {kl kc : IntKind} {L : Int} {n : Nat} (hl : a.eval l = .int kl L) (hc : a.eval c = .int kc L) (hL : L = (n : Int)) (hb : bytes * n ≤ 281474976710656) (hm : n ≤ maxLen)
    (h : ∀ g w1 (cur : Array Value), Blk w1 g e cur → cur.size = n → W.heap.size ≤ g → Below W.heap.size W w1 → wpList P ops Q rest (a.put o.dst (.slice (some ⟨g, 0, none⟩) n n)) w1) : wpList P ops Q (o :: rest) a W := by
  obtain ⟨i, hi, hz0, hz1, hz2⟩ := info_parts hinfo
  subst hz2
  refine wpList_make_full W hgd l c t ho W.heap.size e i z 1 ht hi hz0 hz1 kl kc L L n hl hc hL hL hb hm (Nat.le_refl _) ?_
  intro w' ho' hg
  rcases ho'.2 with ⟨hv, _⟩ | ⟨g, cap, cur, hv, hge, hh, _, _, hs, _⟩
  · cases hv
  · injection hv with e1 _ e2
    injection e1 with e1
    injection e1 with e1
    subst e1
    subst e2
    exact h _ w' cur hh (by omega) (Nat.le_refl _) ((Below.refl _ _).grown hg (Nat.le_refl _) (by simp))
end

theorem piece_src {w : World} {l : List UInt8} {ad : Addr} {f n : Nat} (hd : RB w (some ad) l) (hn : 0 < l.length) : ∀ j v, (u8s ((l.drop f).take n))[j]? = some v → w.cell? ((ad.add f).add j) = some v := by
  intro j v hv
  obtain ⟨ad', e, _, hcell⟩ := hd.2 hn
  injection e with e
  subst e
  rw [add_of_add]
  refine hcell (f + j) v ?_
  have hj : j < n := by
    have := (List.getElem?_eq_some_iff.1 hv).1
    rw [u8s_length, List.length_take] at this
    omega
  rw [← hv]
  unfold u8s
  rw [List.map_take, List.map_drop, List.getElem?_take, if_pos hj, List.getElem?_drop]

set_option maxHeartbeats 1000000 in
set_option maxRecDepth 100000 in
/-- A copy of the n bytes from f on. -/
theorem wpiece_calls (l : List UInt8) (ad : Addr) (c f n : Nat) (h0 : 0 < l.length) (hf : f + n ≤ l.length) (hc : l.length ≤ c) (hl : l.length ≤ 140737488351232) (w : World) (hd : RB w (some ad) l) :
    Calls Tryd.prog 99 #[.slice (some ad) l.length c, .int .i64 f, .int .i64 ((f + n : Nat) : Int)] w fun e w' => ∃ A' c', e = .returned (.slice A' n c') ∧ w'.ownsRow w.heap.size 5 1 (.slice A' n c') n (u8s ((l.drop f).take n)) ∧ Below w.heap.size w w' := by
  have HB := Below.refl w.heap.size w
  have hlt : f + n ≤ c := by omega
  have hcs : (u8s ((l.drop f).take n)).length = n := by rw [u8s_length, List.length_take, List.length_drop]; omega
  have h1 : ∀ v ∈ u8s ((l.drop f).take n), v.oneCell' = true := u8s_one
  have hsrc := fun W1 (h : RB W1 (some ad) l) => piece_src (f := f) (n := n) h h0
  generalize u8s ((l.drop f).take n) = cs at hsrc hcs h1 ⊢
  generalize hT : f + n = T at hf hlt
  have hTf : (T : Int) - (f : Int) = (n : Int) := by omega
  have hT1 : f ≤ T := by omega
  have hmin := Lib.hid (show n = Nat.min (T - f) n by show n = min (T - f) n; omega)
  have Hsrc := Lib.hid hsrc
  have Hcs := Lib.hid hcs
  have H1 := Lib.hid h1
  clear hsrc hcs h1
  cases hcf : decide (c = f)
  case' false => have hcf2 := of_decide_eq_false hcf
  case' true =>
    have hcf2 := of_decide_eq_true hcf
    have Hn0 := Lib.hid (show n = 0 by omega)
  all_goals
    clear hcf
    go_enter Tryd.func99, Tryd.ntmps99
    go_wp2_with (first
      | (at_make; refine ev_made rfl rfl Tryd.underlying25 info_u8 rfl rfl (n := n) (by omega) (by omega) (by unfold maxLen; omega) ?_; intro g W1 cur hg hsz hge hbn; have hgr := grown_of_below hbn; replace HB := HB.grown hgr (by have := HB.size; omega) (by simp); have hd1 := hd.next hbn; have hfit : 0 + cs.length ≤ cur.toList.length := (by rw [Hcs.out]; simp; omega); have hg' : W1.heap[g]? = some (.cells cur.toList.toArray 5 (0, 0)) := (by simpa using (show W1.heap[g]? = some (.cells cur 5 (0, 0)) from hg)); clear hgr hbn)
      | ((with_reducible refine gate_dst (N := 17) rfl ?_); refine wpList_copy_splice rfl _ _ _ _ rfl 5 Tryd.underlying25 (by kernel_rfl) _ _ n n (T - f) _ rfl rfl g 0 cur.toList 5 hg' cs (Hcs.out.trans hmin.out) (fun hp => ⟨rfl, _, rfl, by first | exact Hsrc.out _ hd1 | (exfalso; have := Hcs.out; have := Hn0.out; omega)⟩) hfit H1.out w.heap.size w HB hge ?_; intro W2 hh hb2))
    go_ret
    have e := Hcs.out
    have e2 : cur.toList.length = cs.length := by rw [e, Array.length_toList]; exact hsz
    have hsp : splice cur.toList 0 cs = cs := by
      unfold splice
      simp only [Nat.zero_add, ← e2, List.drop_length, List.take_zero, List.nil_append, List.append_nil]
    have hh2 := hh.out
    rw [hsp] at hh2
    exact ⟨some ⟨g, 0, none⟩, n, rfl, ⟨by omega, .inr ⟨g, n, cs.toArray, rfl, hge, hh2, Nat.le_refl _, by unfold maxLen; omega, by simp only [List.size_toArray, e]; omega, by simp only [Nat.mul_one, ← e, List.take_length]⟩⟩, hb2⟩
end Go.Proofs.YtikodgaomhmbmaaDoor
namespace Go.Proofs.YtikodgaomhmbmaaDoor
open Go.RowKit

/-- A byte string of at most max bytes: itself, how many bytes it takes, the error. -/
def readB (max : Nat) (s : List UInt8) : List UInt8 × Nat × Int :=
  if (readL 0 0 s).2.2 ≠ 0 then ([], 0, (readL 0 0 s).2.2)
  else if max < (readL 0 0 s).1 then ([], 0, 13)
  else if s.length - (readL 0 0 s).2.1 < (readL 0 0 s).1 then ([], 0, 10)
  else ((s.drop (readL 0 0 s).2.1).take (readL 0 0 s).1, (readL 0 0 s).2.1 + (readL 0 0 s).1, 0)
/-- What a number takes lies within the bytes. -/
theorem readL_took : ∀ (l : List UInt8) (i v : Nat), (readL i v l).2.2 = 0 → 0 < (readL i v l).2.1 ∧ i < (readL i v l).2.1 ∧ (readL i v l).2.1 ≤ i + l.length
  | [], i, v, h => by simp [readL] at h
  | b :: r, i, v, h => by
    simp only [readL] at h ⊢
    split at h
    · simp at h
    · split at h
      · rename_i h1 h2
        have := readL_took r (i + 1) _ h
        rw [if_neg h1, if_pos h2]
        simp only [List.length_cons]
        omega
      · split at h
        · simp at h
        · rename_i h1 h2 h3
          rw [if_neg h1, if_neg h2, if_neg h3]
          simp only [List.length_cons]
          omega
/-- Where a read at p ends. -/
def readAt (p k : Nat) (e : Int) : Int := if e = 0 then ((p + k : Nat) : Int) else 0

set_option maxHeartbeats 1000000 in
set_option maxRecDepth 100000 in
theorem readBytes_calls (l : List UInt8) (A : Option Addr) (c p max : Nat) (hp : p ≤ l.length) (hc : l.length ≤ c) (hl : l.length ≤ 140737488351232) (hmax : max ≤ 1000000) (w : World) (hd : RB w A l) :
    Calls Tryd.prog 85 #[.slice A l.length c, .int .i64 p, .int .i64 max] w fun e w' => ∃ A' c', e = .returned (.tuple #[.slice A' (readB max (l.drop p)).1.length c', .int .i64 (readAt p (readB max (l.drop p)).2.1 (readB max (l.drop p)).2.2), .int .i64 (readB max (l.drop p)).2.2])
      ∧ w'.ownsRow w.heap.size 5 1 (.slice A' (readB max (l.drop p)).1.length c') (readB max (l.drop p)).1.length (u8s (readB max (l.drop p)).1) ∧ Below w.heap.size w w' := by
  have HB := Below.refl w.heap.size w
  have cu := readUint_calls l A c p hp hl w hd
  have hu := readL_lt (l.drop p) 0 0 (by omega) (by simp)
  have ht := readL_took (l.drop p) 0 0
  have hx : readB max (l.drop p) = _ := rfl
  conv at hx => rhs; unfold readB
  rw [List.length_drop] at hx ht
  rw [List.drop_drop] at hx
  have t1 : decide ((p : Int) < 0) = false := by simp
  have t2 : decide ((l.length : Int) < (p : Int)) = false := by simp; omega
  have t3 : decide ((max : Int) < 0) = false := by simp
  have t4 : IntKind.u64.wrap (max : Int) = max := by rw [IntKind.wrap_u64]; omega
  generalize readL 0 0 (l.drop p) = x at cu hu ht hx
  obtain ⟨n, k, e⟩ := x
  simp only at hu ht hx
  by_cases h0 : e = 0
  · subst h0
    have q : readEnd p (n, k, 0) = ((p + k : Nat) : Int) := rfl
    rw [q] at cu
    rw [if_neg (by simp)] at hx
    obtain ⟨k1, k2, k3⟩ := ht rfl
    have hk0 : 0 < p + k := by omega
    clear ht q
    have hk : l.length - p - k = l.length - (p + k) := by omega
    have hkl : p + k ≤ l.length := by omega
    have hko : p + (k + n) = p + k + n := by omega
    have hra : readAt p (k + n) 0 = ((p + k + n : Nat) : Int) := by rw [← hko]; exact if_pos rfl
    rw [hk] at hx
    clear hk hko k1 k2 k3
    generalize p + k = q at cu hx hkl hra hk0
    have Cu := Lib.hid cu
    have Hra := Lib.hid hra
    have t6 : IntKind.u64.wrap ((l.length : Int) - (q : Int)) = (l.length : Int) - (q : Int) := by rw [IntKind.wrap_u64]; omega
    clear hra
    by_cases hn : max < n
    · rw [if_pos hn] at hx
      have t5 : decide ((max : Int) < (n : Int)) = true := by simp [hn]
      have t5' : decide (max < n) = true := by simp [hn]
      have Hx := Lib.hid hx
      clear hx cu hu hn
      go_enter Tryd.func85, Tryd.ntmps85
      go_wp2_with (first
        | (go_at_call 69; (with_reducible refine Cu.out.mono ?_); rintro e w1 ⟨rfl, rfl⟩))
      go_ret3
      exact ⟨none, 0, by rw [Hx.out]; rfl, by rw [Hx.out]; exact own_nil _ _ _ _, HB⟩
    · rw [if_neg hn] at hx
      have t5 : decide ((max : Int) < (n : Int)) = false := by rw [decide_eq_false_iff_not]; omega
      have t5' : decide (max < n) = false := by rw [decide_eq_false_iff_not]; omega
      by_cases hs : l.length - q < n
      · rw [if_pos hs] at hx
        have t7 : decide ((l.length : Int) - (q : Int) < (n : Int)) = true := by rw [decide_eq_true_eq]; omega
        have Hx := Lib.hid hx
        clear hx cu hu hn hs
        go_enter Tryd.func85, Tryd.ntmps85
        go_wp2_with (first
          | (go_at_call 69; (with_reducible refine Cu.out.mono ?_); rintro e w1 ⟨rfl, rfl⟩))
        go_ret3
        exact ⟨none, 0, by rw [Hx.out]; rfl, by rw [Hx.out]; exact own_nil _ _ _ _, HB⟩
      · rw [if_neg hs] at hx
        have t7 : decide ((l.length : Int) - (q : Int) < (n : Int)) = false := by rw [decide_eq_false_iff_not]; omega
        have hlim : q + n ≤ l.length := by omega
        have t8 : wrap64 (n : Int) = n := by unfold wrap64; omega
        have t9 : wrap64 ((q : Int) + (n : Int)) = (q : Int) + (n : Int) := by unfold wrap64; omega
        have hpos : 0 < l.length := Nat.lt_of_lt_of_le hk0 hkl
        obtain ⟨ad, hA, _⟩ := hd.get hpos
        subst hA
        have cp := wpiece_calls l ad c q n hpos hlim hc hl w hd
        rw [Int.natCast_add] at cp
        have hlen : ((l.drop q).take n).length = n := by rw [List.length_take, List.length_drop]; omega
        generalize (l.drop q).take n = y at hx hlen cp
        have Hx := Lib.hid hx
        have Cp := Lib.hid cp
        clear hx cu hu hn hs cp
        go_enter Tryd.func85, Tryd.ntmps85
        go_wp2_with (first
          | (go_at_call 69; (with_reducible refine Cu.out.mono ?_); rintro e w1 ⟨rfl, rfl⟩)
          | (go_at_call 99; (with_reducible refine Cp.out.mono ?_); rintro e w1 ⟨A', c', rfl, oA, hb⟩))
        go_ret3
        exact ⟨A', c', by rw [Hx.out, Hra.out, hlen]; rfl, by rw [Hx.out, hlen]; exact oA, hb⟩
  · have t1 := int_bne_true h0
    have q : readEnd p (n, k, e) = 0 := if_neg h0
    rw [q] at cu
    rw [if_pos h0] at hx
    have Cu := Lib.hid cu
    have Hx := Lib.hid hx
    have H0 := Lib.hid h0
    clear cu hu q h0 hx ht
    go_enter Tryd.func85, Tryd.ntmps85
    go_wp2_with (first
      | (go_at_call 69; (with_reducible refine Cu.out.mono ?_); rintro e w1 ⟨rfl, rfl⟩))
    go_ret3
    exact ⟨none, 0, by rw [Hx.out]; unfold readAt; rw [if_neg H0.out]; rfl, by rw [Hx.out]; exact own_nil _ _ _ _, HB⟩
end Go.Proofs.YtikodgaomhmbmaaDoor
namespace Go.Proofs.YtikodgaomhmbmaaDoor
open Go.RowKit

theorem wrap_i64_nat (u : Nat) (h : u ≤ 9223372036854775807) : IntKind.i64.wrap (u : Int) = u := by rw [IntKind.wrap_i64]; omega
theorem wrap64_nat (u : Nat) (h : u ≤ 9223372036854775807) : wrap64 (u : Int) = u := by unfold wrap64; omega
theorem pow_next (i : Nat) : 2 ^ (7 * (i + 1)) = 128 * 2 ^ (7 * i) := by
  rw [show 7 * (i + 1) = 7 * i + 7 by omega, Nat.pow_add]
  omega
theorem three_parts (v m x P : Nat) : v + m * P + x * (128 * P) = v + (m + 128 * x) * P := by
  rw [Nat.add_mul, ← Nat.mul_assoc, Nat.mul_comm x 128]
  omega
/-- What is read was written so. -/
theorem readL_back : ∀ (l : List UInt8) (i v : Nat), (readL i v l).2.2 = 0 →
    ∃ x, (readL i v l).1 = v + x * 2 ^ (7 * i) ∧ (readL i v l).2.1 = i + (uintL x).length ∧ l = uintL x ++ l.drop (uintL x).length ∧ (0 < i → 0 < x)
  | [], i, v, h => by simp [readL] at h
  | b :: r, i, v, h => by
    have hb := b.toNat_lt
    simp only [readL] at h ⊢
    split at h
    · simp at h
    · rename_i h1
      rw [if_neg h1]
      split at h
      · rename_i h2
        rw [if_pos h2]
        obtain ⟨x, e1, e2, e3, e4⟩ := readL_back r (i + 1) _ h
        have hx := e4 (by omega)
        have hu : uintL (b.toNat % 128 + 128 * x) = b :: uintL x := by
          rw [uintL_more (by omega)]
          have a1 : (b.toNat % 128 + 128 * x) % 128 + 128 = b.toNat := by omega
          have a2 : (b.toNat % 128 + 128 * x) / 128 = x := by omega
          rw [a1, a2, UInt8.ofNat_toNat]
        refine ⟨b.toNat % 128 + 128 * x, ?_, ?_, ?_, fun _ => by omega⟩
        · rw [e1, pow_next, three_parts]
        · rw [e2, hu, List.length_cons]
          omega
        · rw [hu, List.length_cons, List.drop_succ_cons, List.cons_append, ← e3]
      · rename_i h2
        rw [if_neg h2]
        split at h
        · simp at h
        · rename_i h3
          rw [if_neg h3]
          have a1 : b.toNat % 128 = b.toNat := by omega
          have hu : uintL b.toNat = [b] := by rw [uintL_last (by omega), UInt8.ofNat_toNat]
          refine ⟨b.toNat, ?_, ?_, ?_, fun hi => ?_⟩
          · rw [a1]
          · rw [hu]
            rfl
          · rw [hu]
            rfl
          · rcases Nat.eq_zero_or_pos b.toNat with h0 | h0
            · exact absurd ⟨h0, hi⟩ h3
            · exact h0
/-- What is written is read. -/
theorem readL_uint : ∀ (x i v : Nat) (rest : List UInt8), i ≤ 9 → x * 2 ^ (7 * i) < 18446744073709551616 → (0 < i → 0 < x) →
    readL i v (uintL x ++ rest) = (v + x * 2 ^ (7 * i), i + (uintL x).length, 0) := by
  intro x
  induction x using Nat.strongRecOn with
  | _ x ih =>
    intro i v rest hi hx h0
    by_cases h : x < 128
    · rw [uintL_last h]
      have hn : (UInt8.ofNat x).toNat = x := by rw [UInt8.toNat_ofNat']; exact Nat.mod_eq_of_lt (by omega)
      simp only [List.cons_append, List.nil_append, readL, hn]
      have hbad : ¬ (i = 9 ∧ 1 < x) := by
        rintro ⟨rfl, h1⟩
        have : 2 * 2 ^ (7 * 9) ≤ x * 2 ^ (7 * 9) := Nat.mul_le_mul_right _ h1
        have e : 2 * 2 ^ (7 * 9) = 18446744073709551616 := by decide
        omega
      rw [if_neg hbad, if_neg (by omega), if_neg (by rintro ⟨a, b⟩; have := h0 b; omega), Nat.mod_eq_of_lt h]
      rfl
    · rw [uintL_more h]
      have hn : (UInt8.ofNat (x % 128 + 128)).toNat = x % 128 + 128 := by rw [UInt8.toNat_ofNat']; exact Nat.mod_eq_of_lt (by omega)
      have hi9 : i ≠ 9 := by
        rintro rfl
        have : 128 * 2 ^ (7 * 9) ≤ x * 2 ^ (7 * 9) := Nat.mul_le_mul_right _ (by omega)
        have e : 128 * 2 ^ (7 * 9) = 1180591620717411303424 := by decide
        omega
      simp only [List.cons_append, readL, hn]
      have hm : (x % 128 + 128) % 128 = x % 128 := by omega
      have hd : x % 128 + 128 * (x / 128) = x := by omega
      rw [if_neg (by omega), if_pos (by omega), hm]
      have hle : x / 128 * 2 ^ (7 * (i + 1)) ≤ x * 2 ^ (7 * i) := by
        rw [pow_next, ← Nat.mul_assoc]
        exact Nat.mul_le_mul_right _ (by omega)
      rw [ih (x / 128) (by omega) (i + 1) _ rest (by omega) (by omega) (fun _ => by omega), pow_next, three_parts, hd, List.length_cons]
      congr 2
      omega
theorem readL_0 {s : List UInt8} (h : (readL 0 0 s).2.2 = 0) : s = uintL (readL 0 0 s).1 ++ s.drop (readL 0 0 s).2.1 ∧ (readL 0 0 s).2.1 = (uintL (readL 0 0 s).1).length := by
  obtain ⟨x, e1, e2, e3, _⟩ := readL_back s 0 0 h
  have ex : (readL 0 0 s).1 = x := by rw [e1]; simp
  have ek : (readL 0 0 s).2.1 = (uintL x).length := by rw [e2]; simp
  rw [ex, ek]
  exact ⟨e3, rfl⟩
theorem readL_of {x : Nat} (hx : x < 18446744073709551616) (rest : List UInt8) : readL 0 0 (uintL x ++ rest) = (x, (uintL x).length, 0) := by
  have := readL_uint x 0 0 rest (by omega) (by simpa using hx) (by omega)
  simpa using this

/-! ### Signed numbers -/
theorem zero64 : BitVec.ofInt 64 0 = 0#64 := by decide
theorem ones64 : BitVec.ofInt 64 18446744073709551615 = BitVec.allOnes 64 := by decide
theorem ones64' : BitVec.ofInt 64 (-1) = BitVec.allOnes 64 := by decide
theorem zig_eq {v : Int} (h : -9223372036854775808 ≤ v ∧ v ≤ 9223372036854775807) : zig v = if 0 ≤ v then 2 * v else -2 * v - 1 := by
  have e : zig v = IntKind.u64.wrap (((BitVec.ofInt 64 (IntKind.u64.wrap (IntKind.u64.wrap v * 2)) ^^^ BitVec.ofInt 64 (IntKind.u64.wrap (v / 9223372036854775808))).toNat : Nat) : Int) := rfl
  rw [e]
  split
  · rename_i h0
    have e1 : v / 9223372036854775808 = 0 := by omega
    have e2 : IntKind.u64.wrap (IntKind.u64.wrap v * 2) = 2 * v := by rw [IntKind.wrap_u64, IntKind.wrap_u64]; omega
    have e3 : IntKind.u64.wrap 0 = 0 := rfl
    rw [e1, e2, e3, zero64, BitVec.xor_zero, BitVec.toNat_ofInt, IntKind.wrap_u64]
    omega
  · rename_i h0
    have e1 : v / 9223372036854775808 = -1 := by omega
    have e2 : IntKind.u64.wrap (IntKind.u64.wrap v * 2) = 2 * v + 18446744073709551616 := by rw [IntKind.wrap_u64, IntKind.wrap_u64]; omega
    have e3 : IntKind.u64.wrap (-1) = 18446744073709551615 := rfl
    rw [e1, e2, e3, ones64, BitVec.xor_allOnes, BitVec.toNat_not, BitVec.toNat_ofInt, IntKind.wrap_u64]
    omega
theorem zag_eq {u : Nat} (h : u < 18446744073709551616) : zag u = if u % 2 = 0 then ((u / 2 : Nat) : Int) else -((u / 2 : Nat) : Int) - 1 := by
  have ea : bits .and .u64 (u : Int) 1 = ((u % 2 : Nat) : Int) := by
    have e : bits .and .u64 (u : Int) 1 = IntKind.u64.wrap (((BitVec.ofInt 64 (u : Int) &&& BitVec.ofInt 64 1).toNat : Nat) : Int) := rfl
    have h1 : (BitVec.ofInt 64 (u : Int)).toNat = u := by
      rw [BitVec.ofInt_natCast, BitVec.toNat_ofNat]; exact Nat.mod_eq_of_lt (by omega)
    have h2 : (BitVec.ofInt 64 1).toNat = 1 := by decide
    rw [e, BitVec.toNat_and, h1, h2, Nat.and_one_is_mod, IntKind.wrap_u64]
    omega
  have e : zag u = IntKind.i64.wrap (((BitVec.ofInt 64 ((u : Int) / 2) ^^^ BitVec.ofInt 64 (wrap64 (-wrap64 (bits .and .u64 (u : Int) 1)))).toNat : Nat) : Int) := rfl
  rw [e, ea]
  split
  · rename_i h0
    have e1 : wrap64 (-wrap64 ((u % 2 : Nat) : Int)) = 0 := by rw [h0]; unfold wrap64; omega
    rw [e1, zero64, BitVec.xor_zero, BitVec.toNat_ofInt, IntKind.wrap_i64]
    omega
  · rename_i h0
    have h1 : u % 2 = 1 := by omega
    have e1 : wrap64 (-wrap64 ((u % 2 : Nat) : Int)) = -1 := by rw [h1]; unfold wrap64; omega
    rw [e1, ones64', BitVec.xor_allOnes, BitVec.toNat_not, BitVec.toNat_ofInt, IntKind.wrap_i64]
    omega
theorem zag_zig {v : Int} (h : -9223372036854775808 ≤ v ∧ v ≤ 9223372036854775807) : zag (zig v).toNat = v := by
  obtain ⟨z1, z2⟩ := zig_range v
  rw [zag_eq (by omega), zig_eq h]
  split <;> split <;> omega
theorem zag_range (u : Nat) : -9223372036854775808 ≤ zag u ∧ zag u ≤ 9223372036854775807 := by
  have e : zag u = IntKind.i64.wrap (((BitVec.ofInt 64 ((u : Int) / 2) ^^^ BitVec.ofInt 64 (wrap64 (-wrap64 (bits .and .u64 (u : Int) 1)))).toNat : Nat) : Int) := rfl
  rw [e, IntKind.wrap_i64]
  omega
theorem zig_zag {u : Nat} (h : u < 18446744073709551616) : (zig (zag u)).toNat = u := by
  rw [zig_eq (zag_range u), zag_eq h]
  split <;> split <;> omega

/-! ### Byte strings -/
theorem readB_0 {max : Nat} {s : List UInt8} (h : (readB max s).2.2 = 0) : s = bytesL (readB max s).1 ++ s.drop (readB max s).2.1 ∧ (readB max s).2.1 = (bytesL (readB max s).1).length ∧ (readB max s).1.length ≤ max := by
  have hr : readB max s = _ := rfl
  conv at hr => rhs; unfold readB
  by_cases h0 : (readL 0 0 s).2.2 = 0
  · rw [if_neg (by simp [h0])] at hr
    by_cases h1 : max < (readL 0 0 s).1
    · rw [if_pos h1] at hr
      rw [hr] at h
      simp at h
    rw [if_neg h1] at hr
    by_cases h2 : s.length - (readL 0 0 s).2.1 < (readL 0 0 s).1
    · rw [if_pos h2] at hr
      rw [hr] at h
      simp at h
    rw [if_neg h2] at hr
    obtain ⟨e1, e2⟩ := readL_0 h0
    have hl : ((s.drop (readL 0 0 s).2.1).take (readL 0 0 s).1).length = (readL 0 0 s).1 := by rw [List.length_take, List.length_drop]; omega
    rw [hr]
    simp only
    unfold bytesL
    rw [hl]
    refine ⟨?_, by rw [List.length_append, hl, e2], by omega⟩
    rw [List.append_assoc, ← List.drop_drop, List.take_append_drop]
    exact e1
  · rw [if_pos h0] at hr
    rw [hr] at h
    exact absurd h h0
theorem readB_of {max : Nat} {s : List UInt8} (hs : s.length ≤ max) (hm : max < 18446744073709551616) (rest : List UInt8) : readB max (bytesL s ++ rest) = (s, (bytesL s).length, 0) := by
  unfold readB bytesL
  rw [List.append_assoc, readL_of (by omega)]
  simp only
  rw [if_neg (by simp), if_neg (by omega), if_neg (by simp only [List.length_append]; omega), List.drop_left, List.take_left, List.length_append]
end Go.Proofs.YtikodgaomhmbmaaDoor
namespace Go.Proofs.YtikodgaomhmbmaaDoor
open Go.RowKit

set_option maxHeartbeats 2000000 in
set_option maxRecDepth 100000 in
theorem refUint_calls (v : Nat) (hv : v < 18446744073709551616) (w : World) :
    Calls Tryd.prog 90 #[.int .u64 v] w fun e w' => ∃ A c, e = .returned (.slice A (uintL v).length c) ∧ w'.ownsRow w.heap.size 5 1 (.slice A (uintL v).length c) (uintL v).length (u8s (uintL v)) ∧ Below w.heap.size w w' := by
  have HB := Below.refl w.heap.size w
  go_enter Tryd.func90, Tryd.ntmps90
  go_wp2
  go_loopg [0, 3] v (fun n v0 v3 wr => ∃ (x : Nat) (A : Option Addr) (c : Nat) (acc : List UInt8), n = x ∧ v0 = .int .u64 x ∧ v3 = .slice A acc.length c ∧ Aside (uintL v = acc ++ uintL x ∧ 2 ^ acc.length * (x + 1) ≤ 2 ^ 64 ∧ x < 18446744073709551616 ∧
    wr.ownsRow w.heap.size 5 1 (.slice A acc.length c) acc.length (u8s acc) ∧ Below w.heap.size w wr))
  case atStart => exact ⟨v, none, 0, [], rfl, rfl, rfl, ⟨rfl, by simp; omega, hv, own_nil _ _ _ _, HB⟩⟩
  case round =>
    clear HB
    obtain ⟨x, A5, c5, acc, hgk, rfl, rfl, HA⟩ := hrel
    obtain ⟨hacc, hpow, hx, o1, HB⟩ := HA.out
    clear HA
    have hlen := len_of_pow hpow
    have Hacc := Lib.hid hacc
    have Hpow := Lib.hid hpow
    clear hacc hpow
    by_cases h128 : x < 128
    · have t1 : decide ((127 : Int) < (x : Int)) = false := by simp; omega
      have t2 : IntKind.u8.wrap (x : Int) = x := by rw [IntKind.wrap_u8]; omega
      have hfin : uintL v = acc ++ [UInt8.ofNat x] := by rw [Hacc.out, uintL_last h128]
      have Hfin := Lib.hid hfin
      clear hfin
      go_wp2_with (first
        | ((with_reducible refine gate_dst (N := 18) rfl ?_); refine ev_lit rfl rfl (#[.int .u8 x]) 5 1 (by first | (go_simp; done) | (go_simp; rfl)) ?_; intro g2 W1 hg2 hsz hbn; have hgr := grown_of_below hbn; have zg2 : w.heap.size ≤ g2 := (by have := HB.size; omega); replace o1 := o1.kept hgr (by cases Value.ownBlock _ <;> simp); replace HB := HB.grown hgr (by have := HB.size; omega) (by simp); have hcg2 := hg2.cell; have hfg2 := hg2.frozen; clear hsz hbn hgr)
        | ((with_reducible refine gate_dst (N := 19) rfl ?_); refine ev_append rfl rfl Tryd.underlying25 info_u8 rfl (by omega) rfl o1 rfl (hg2.reads (size := 1) (n := 1) rfl) (fun u hu => by simp at hu; subst hu; rfl) (by omega) (by omega) (by have := HB.size; omega) ?_; intro A2 c2 W2 on hgr hat; replace HB := HB.grown hgr (by have := HB.size; omega) (own_base o1); replace o1 := on; clear on hgr hat))
      go_ret
      refine ⟨A2, c2, by rw [Hfin.out]; simp, ?_, HB⟩
      rw [Hfin.out, u8s_append, u8_one x (by omega)]
      simpa using o1
    · have t1 : decide ((127 : Int) < (x : Int)) = true := by simp; omega
      have t2 : ((128 : Int) + (x : Int) % 128) % 256 = ((x % 128 + 128 : Nat) : Int) := by omega
      have t3 : (128 : Int) + (x : Int) % 128 = ((x % 128 + 128 : Nat) : Int) := by omega
      have hnext : uintL v = (acc ++ [UInt8.ofNat (x % 128 + 128)]) ++ uintL (x / 128) := by rw [Hacc.out, uintL_more h128]; simp
      have Hnext := Lib.hid hnext
      have Hpow2 := Lib.hid (pow_step Hpow.out h128)
      clear hnext
      generalize hb : x % 128 + 128 = b at t2 t3 Hnext
      go_wp2_with (first
        | ((with_reducible refine gate_dst (N := 11) rfl ?_); refine ev_lit rfl rfl (#[.int .u8 b]) 5 1 (by first | (go_simp; done) | (go_simp; rfl)) ?_; intro g2 W1 hg2 hsz hbn; have hgr := grown_of_below hbn; have zg2 : w.heap.size ≤ g2 := (by have := HB.size; omega); replace o1 := o1.kept hgr (by cases Value.ownBlock _ <;> simp); replace HB := HB.grown hgr (by have := HB.size; omega) (by simp); have hcg2 := hg2.cell; have hfg2 := hg2.frozen; clear hsz hbn hgr)
        | ((with_reducible refine gate_dst (N := 12) rfl ?_); refine ev_append rfl rfl Tryd.underlying25 info_u8 rfl (by omega) rfl o1 rfl (hg2.reads (size := 1) (n := 1) rfl) (fun u hu => by simp at hu; subst hu; rfl) (by omega) (by omega) (by have := HB.size; omega) ?_; intro A2 c2 W2 on hgr hat; replace HB := HB.grown hgr (by have := HB.size; omega) (own_base o1); replace o1 := on; clear on hgr hat))
      have hx2 : x / 128 < x := by omega
      go_roundg (x / 128)
      case measure => omega
      case rel => exact ⟨x / 128, A2, c2, acc ++ [UInt8.ofNat b], rfl, by rw [show ((x / 128 : Nat) : Int) = (x : Int) / 128 by omega], by simp, ⟨Hnext.out, by rw [List.length_append]; exact Hpow2.out, by omega, by rw [u8s_append, u8_one b (by omega)]; simpa using o1, HB⟩⟩

set_option maxHeartbeats 1000000 in
set_option maxRecDepth 100000 in
theorem refBytes_calls (s : List UInt8) (A : Option Addr) (c : Nat) (hs : s.length ≤ 140737488351232) (w : World) (hd : RB w A s) :
    Calls Tryd.prog 89 #[.slice A s.length c] w fun e w' => ∃ A' c', e = .returned (.slice A' (bytesL s).length c') ∧ w'.ownsRow w.heap.size 5 1 (.slice A' (bytesL s).length c') (bytesL s).length (u8s (bytesL s)) ∧ Below w.heap.size w w' := by
  have HB := Below.refl w.heap.size w
  have hsh := uintL_short (v := s.length) (by omega)
  have t1 : IntKind.u64.wrap (s.length : Int) = s.length := by rw [IntKind.wrap_u64]; omega
  go_enter Tryd.func89, Tryd.ntmps89
  go_wp2_with (first
    | (go_at_call 90; (with_reducible refine (refUint_calls s.length (by omega) _).mono ?_); rintro e W1 ⟨A5, c5, rfl, o5, hb⟩; have hgr := grown_of_below hb; replace o5 := own_mono o5 HB.size; replace HB := HB.grown hgr (by have := HB.size; omega) (by simp); clear hb hgr)
    | ((with_reducible refine gate_dst (N := 10) rfl ?_); refine ev_append rfl rfl Tryd.underlying25 info_u8 rfl (by omega) rfl o5 rfl (hd.next HB) u8s_one (by omega) (by omega) (by have := HB.size; omega) ?_; intro A6 c6 W2 on hgr hat; replace HB := HB.grown hgr (by have := HB.size; omega) (own_base o5); replace o5 := on; clear on hgr hat))
  go_ret
  refine ⟨A6, c6, by simp [bytesL], ?_, HB⟩
  unfold bytesL
  rw [u8s_append, List.length_append]
  exact o5

theorem xor_zero (x : Int) (h0 : 0 ≤ x) (h1 : x < 18446744073709551616) : bits .xor .u64 x 0 = x := by
  show IntKind.u64.wrap (((BitVec.ofInt 64 x ^^^ BitVec.ofInt 64 0).toNat : Nat) : Int) = x
  have e0 : BitVec.ofInt 64 0 = 0#64 := rfl
  rw [e0, BitVec.xor_zero, BitVec.toNat_ofInt, IntKind.wrap_u64]
  omega
theorem xor_ones (x : Int) (h0 : 0 ≤ x) (h1 : x < 18446744073709551616) : bits .xor .u64 x 18446744073709551615 = 18446744073709551615 - x := by
  show IntKind.u64.wrap (((BitVec.ofInt 64 x ^^^ BitVec.ofInt 64 18446744073709551615).toNat : Nat) : Int) = _
  have e0 : BitVec.ofInt 64 18446744073709551615 = BitVec.allOnes 64 := rfl
  rw [e0, BitVec.xor_allOnes, BitVec.toNat_not, BitVec.toNat_ofInt, IntKind.wrap_u64]
  omega
theorem zig_pos {v : Int} (h0 : 0 ≤ v) (h1 : v ≤ 9223372036854775807) : zig v = v * 2 := by
  unfold zig
  have e1 : IntKind.u64.wrap (v / 9223372036854775808) = 0 := by rw [IntKind.wrap_u64]; omega
  have e2 : IntKind.u64.wrap (IntKind.u64.wrap v * 2) = v * 2 := by rw [IntKind.wrap_u64, IntKind.wrap_u64]; omega
  rw [e1, e2, xor_zero _ (by omega) (by omega)]
theorem zig_neg {v : Int} (h0 : v < 0) (h1 : -9223372036854775808 ≤ v) : zig v = -(v + 1) * 2 + 1 := by
  unfold zig
  have e1 : IntKind.u64.wrap (v / 9223372036854775808) = 18446744073709551615 := by rw [IntKind.wrap_u64]; omega
  have e2 : IntKind.u64.wrap (IntKind.u64.wrap v * 2) = v * 2 + 18446744073709551616 := by rw [IntKind.wrap_u64, IntKind.wrap_u64]; omega
  rw [e1, e2, xor_ones _ (by omega) (by omega)]
  omega
theorem refInt_calls (v : Int) (h0 : -9223372036854775808 ≤ v) (h1 : v ≤ 9223372036854775807) (w : World) :
    Calls Tryd.prog 88 #[.int .i64 v] w fun e w' => ∃ A c, e = .returned (.slice A (intL v).length c) ∧ w'.ownsRow w.heap.size 5 1 (.slice A (intL v).length c) (intL v).length (u8s (intL v)) ∧ Below w.heap.size w w' := by
  have HB := Below.refl w.heap.size w
  obtain ⟨z1, z2⟩ := zig_range v
  have cu : ∀ w, Calls Tryd.prog 90 #[.int .u64 (zig v)] w fun e w' => ∃ A c, e = .returned (.slice A (intL v).length c) ∧ w'.ownsRow w.heap.size 5 1 (.slice A (intL v).length c) (intL v).length (u8s (intL v)) ∧ Below w.heap.size w w' := fun w => by
    have := refUint_calls (zig v).toNat (by omega) w
    rwa [Int.toNat_of_nonneg z1] at this
  by_cases hp : 0 ≤ v
  · have t1 : decide (0 ≤ v) = true := by simp [hp]
    rw [zig_pos hp h1] at cu
    have Cu := Lib.hid cu
    clear cu z1 z2
    go_enter Tryd.func88, Tryd.ntmps88
    go_wp2_with (first
      | (go_at_call 90; (with_reducible refine (Cu.out _).mono ?_); rintro e W1 ⟨A5, c5, rfl, o5, hb⟩; have hgr := grown_of_below hb; replace o5 := own_mono o5 HB.size; replace HB := HB.grown hgr (by have := HB.size; omega) (by simp); clear hb hgr))
    go_ret
    exact ⟨A5, c5, rfl, o5, HB⟩
  · have t1 : decide (0 ≤ v) = false := by simp; omega
    rw [zig_neg (by omega) h0] at cu
    have Cu := Lib.hid cu
    clear cu z1 z2
    have hp' : v < 0 := by omega
    go_enter Tryd.func88, Tryd.ntmps88
    go_wp2_with (first
      | (go_at_call 90; (with_reducible refine (Cu.out _).mono ?_); rintro e W1 ⟨A5, c5, rfl, o5, hb⟩; have hgr := grown_of_below hb; replace o5 := own_mono o5 HB.size; replace HB := HB.grown hgr (by have := HB.size; omega) (by simp); clear hb hgr))
    go_ret
    exact ⟨A5, c5, rfl, o5, HB⟩
end Go.Proofs.YtikodgaomhmbmaaDoor
