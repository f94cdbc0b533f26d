/-
  The plain law of the lifts: what is valid stays valid, and comes back.
-/
import Derived.Test.YtikodgaomhmbmaaDoorC0
set_option linter.unusedVariables false
set_option linter.unusedSimpArgs false
namespace Go.Proofs.YtikodgaomhmbmaaDoor

theorem decode_narrow (s : ByteArray) (pos : Nat) : (Utf8.decode s pos).2 ≤ 4 := by
  simp only [Utf8.decode]
  repeat' split
  all_goals simp
theorem runes_count (s : ByteArray) : ∀ (f pos : Nat), s.size ≤ pos + f → s.size ≤ pos + 4 * (runes s f pos).length
  | 0, pos, h => by simp [runes]; omega
  | f + 1, pos, h => by
    unfold runes
    split
    · have h1 := decode_wide s pos
      have h4 := decode_narrow s pos
      have := runes_count s f (pos + (Utf8.decode s pos).2) (by omega)
      rw [List.length_cons]
      omega
    · simp; omega
theorem name_size {s : ByteArray} (h : isName s = true) : s.size ≤ 192 := by
  have h1 := runes_count s s.size 0 (by omega)
  simp only [isName, nameL, Bool.and_eq_true, decide_eq_true_eq] at h
  omega
theorem within_ok {n lo hi : Int} : withinE n lo hi = 0 ↔ lo ≤ n ∧ n ≤ hi := by
  unfold withinE
  split
  · constructor
    · intro h; cases h
    · omega
  · split
    · constructor
      · intro h; cases h
      · omega
    · constructor
      · omega
      · intro _; rfl
theorem label_ok {s : ByteArray} : labelE s = 0 ↔ isName s = true := by
  unfold labelE
  split <;> simp_all
theorem from_ok (r : Rec) (m : Nat) : ∀ n t, r.fromE m n t = 0 ↔ ∀ k, t ≤ k → k < t + n → r.tagE m k = 0
  | 0, t => by simp [Rec.fromE]; intro k h1 h2; omega
  | n + 1, t => by
    unfold Rec.fromE
    split
    · rename_i h
      rw [from_ok r m n (t + 1)]
      constructor
      · intro H k h1 h2
        rcases Nat.eq_or_lt_of_le h1 with rfl | h
        · exact h
        · exact H k h (by omega)
      · intro H k h1 h2
        exact H k (by omega) (by omega)
    · rename_i h
      constructor
      · intro e; exact absurd e h
      · intro H; exact absurd (H t (by omega) (by omega)) h
theorem tag_ok (r : Rec) (m t : Nat) : r.tagE m t = 0 ↔ (m.testBit t = true → r.bound t = 0) ∧ (m.testBit t = false → r.zeroAt t = true) := by
  unfold Rec.tagE
  cases m.testBit t <;> simp
  
theorem chk_ok (r : Rec) : r.chk = 0 ↔ (1 ≤ r.V ∧ r.V ≤ 3) ∧ (1 ≤ r.Kind ∧ r.Kind ≤ 7) ∧ 1 ≤ r.Saga ∧ ∀ t, 3 ≤ t → t < 12 → r.tagE r.tagsOf t = 0 := by
  unfold Rec.chk
  by_cases h1 : r.V < 1 ∨ 3 < r.V
  · rw [if_pos h1]; constructor
    · intro h; cases h
    · omega
  · rw [if_neg h1]
    by_cases h2 : r.Kind < 1 ∨ 7 < r.Kind
    · rw [if_pos h2]; constructor
      · intro h; cases h
      · omega
    · rw [if_neg h2]
      by_cases h3 : r.Saga < 1
      · rw [if_pos h3]; constructor
        · intro h; cases h
        · omega
      · rw [if_neg h3, from_ok]
        constructor
        · intro H; exact ⟨by omega, by omega, by omega, fun t a b => H t a (by omega)⟩
        · intro H; exact fun t a b => H.2.2.2 t a (by omega)
theorem all_tags {p : Nat → Prop} : (∀ t, 3 ≤ t → t < 12 → p t) ↔ p 3 ∧ p 4 ∧ p 5 ∧ p 6 ∧ p 7 ∧ p 8 ∧ p 9 ∧ p 10 ∧ p 11 := by
  constructor
  · intro H
    exact ⟨H 3 (by omega) (by omega), H 4 (by omega) (by omega), H 5 (by omega) (by omega), H 6 (by omega) (by omega), H 7 (by omega) (by omega), H 8 (by omega) (by omega), H 9 (by omega) (by omega), H 10 (by omega) (by omega), H 11 (by omega) (by omega)⟩
  · rintro ⟨h3, h4, h5, h6, h7, h8, h9, h10, h11⟩ t a b
    obtain rfl | rfl | rfl | rfl | rfl | rfl | rfl | rfl | rfl : t = 3 ∨ t = 4 ∨ t = 5 ∨ t = 6 ∨ t = 7 ∨ t = 8 ∨ t = 9 ∨ t = 10 ∨ t = 11 := by omega
    all_goals assumption
theorem bits {m : Nat} {b : Bool} {t : Nat} (h : m.testBit t = b) (r : Rec) : r.tagE m t = 0 ↔ (if b then r.bound t = 0 else r.zeroAt t = true) := by
  rw [tag_ok, h]
  cases b <;> simp
/-- The table of tags as truths. -/
def may (v k t : Nat) : Bool := (mayAt (v - 1) (k - 1)).testBit t
theorem tag_at {r : Rec} {v k : Nat} (hv : r.V = v) (hk : r.Kind = k) (t : Nat) : r.tagE r.tagsOf t = 0 ↔ (if may v k t then r.bound t = 0 else r.zeroAt t = true) := by
  have : r.tagsOf = mayAt (v - 1) (k - 1) := by
    unfold Rec.tagsOf
    rw [hv, hk]
    congr 1 <;> omega
  rw [this]
  exact bits rfl r
/-- What a record of version v and kind k must be. -/
def Valid (v k : Nat) (r : Rec) : Prop := ∀ t, 3 ≤ t → t < 12 → (if may v k t then r.bound t = 0 else r.zeroAt t = true)
theorem chk_valid (r : Rec) : r.chk = 0 ↔ ∃ v k : Nat, r.V = v ∧ r.Kind = k ∧ (1 ≤ v ∧ v ≤ 3) ∧ (1 ≤ k ∧ k ≤ 7) ∧ 1 ≤ r.Saga ∧ Valid v k r := by
  rw [chk_ok]
  constructor
  · rintro ⟨h1, h2, h3, h4⟩
    refine ⟨r.V.toNat, r.Kind.toNat, by omega, by omega, by omega, by omega, h3, fun t a b => (tag_at (by omega) (by omega) t).1 (h4 t a b)⟩
  · rintro ⟨v, k, hv, hk, h1, h2, h3, h4⟩
    refine ⟨by omega, by omega, h3, fun t a b => (tag_at hv hk t).2 (h4 t a b)⟩
theorem valid_at {v k : Nat} {r : Rec} : Valid v k r ↔ (if may v k 3 then r.bound 3 = 0 else r.zeroAt 3 = true) ∧ (if may v k 4 then r.bound 4 = 0 else r.zeroAt 4 = true) ∧ (if may v k 5 then r.bound 5 = 0 else r.zeroAt 5 = true) ∧ (if may v k 6 then r.bound 6 = 0 else r.zeroAt 6 = true) ∧ (if may v k 7 then r.bound 7 = 0 else r.zeroAt 7 = true) ∧ (if may v k 8 then r.bound 8 = 0 else r.zeroAt 8 = true) ∧ (if may v k 9 then r.bound 9 = 0 else r.zeroAt 9 = true) ∧ (if may v k 10 then r.bound 10 = 0 else r.zeroAt 10 = true) ∧ (if may v k 11 then r.bound 11 = 0 else r.zeroAt 11 = true) := all_tags
theorem b3 (r : Rec) : r.bound 3 = 0 ↔ (if r.V = 1 ∧ r.Kind = 1 then 1 ≤ r.Step ∧ r.Step ≤ 32 else 0 ≤ r.Step ∧ r.Step ≤ 31) := by
  simp only [Rec.bound, Rec.old, Bool.and_eq_true, beq_iff_eq]
  split <;> exact within_ok
theorem b4 (r : Rec) : r.bound 4 = 0 ↔ 1 ≤ r.Try ∧ r.Try ≤ 1000 := within_ok
theorem b5 (r : Rec) : r.bound 5 = 0 ↔ 0 ≤ r.At ∧ r.At ≤ 9223372036854775807 := within_ok
theorem b6 (r : Rec) : r.bound 6 = 0 ↔ 0 ≤ r.Last ∧ r.Last ≤ 1 := within_ok
theorem b7 (r : Rec) : r.bound 7 = 0 ↔ (r.Kind = 7 → 0 ≤ r.Code ∧ r.Code ≤ 2) := by
  simp only [Rec.bound]
  split
  · rename_i h; simp [h, within_ok]
  · rename_i h; simp [h]
theorem b8 (r : Rec) : r.bound 8 = 0 ↔ 1 ≤ r.Count ∧ r.Count ≤ 32 := within_ok
theorem b9 (r : Rec) : r.bound 9 = 0 ↔ 0 ≤ r.Pivot ∧ r.Pivot ≤ r.Count := within_ok
theorem b10 (r : Rec) : r.bound 10 = 0 ↔ isName r.Name = true := label_ok
theorem b11 (r : Rec) : r.bound 11 = 0 ↔ r.Data.length ≤ 16384 ∧ (r.V = 1 ∧ r.Kind = 1 → isName ⟨r.Data.toArray⟩ = true) := by
  simp only [Rec.bound, Rec.old, Bool.and_eq_true, beq_iff_eq]
  split
  · constructor
    · intro h; cases h
    · omega
  · split
    · rename_i h1 h2; rw [label_ok]; simp [h2]; omega
    · rename_i h1 h2; simp [h2]; omega
theorem name_nil {r : Rec} : r.Name.size = 0 ↔ r.Name = ⟨#[]⟩ := by
  constructor
  · intro h
    cases hn : r.Name with
    | mk a =>
      rw [hn] at h
      have : a = #[] := by
        apply Array.eq_empty_of_size_eq_zero
        exact h
      rw [this]
  · intro h; rw [h]; rfl
theorem z10 (r : Rec) : r.zeroAt 10 = true ↔ r.Name = ⟨#[]⟩ := by simp only [Rec.zeroAt, decide_eq_true_eq]; exact name_nil
theorem z11 (r : Rec) : r.zeroAt 11 = true ↔ r.Data = [] := by simp only [Rec.zeroAt, decide_eq_true_eq]; exact List.length_eq_zero_iff
theorem z3 (r : Rec) : r.zeroAt 3 = true ↔ r.Step = 0 := by simp [Rec.zeroAt, Rec.num]
theorem z4 (r : Rec) : r.zeroAt 4 = true ↔ r.Try = 0 := by simp [Rec.zeroAt, Rec.num]
theorem z5 (r : Rec) : r.zeroAt 5 = true ↔ r.At = 0 := by simp [Rec.zeroAt, Rec.num]
theorem z6 (r : Rec) : r.zeroAt 6 = true ↔ r.Last = 0 := by simp [Rec.zeroAt, Rec.num]
theorem z7 (r : Rec) : r.zeroAt 7 = true ↔ r.Code = 0 := by simp [Rec.zeroAt, Rec.num]
theorem z8 (r : Rec) : r.zeroAt 8 = true ↔ r.Count = 0 := by simp [Rec.zeroAt, Rec.num]
theorem z9 (r : Rec) : r.zeroAt 9 = true ↔ r.Pivot = 0 := by simp [Rec.zeroAt, Rec.num]
theorem ver_cases {v : Nat} (h : 1 ≤ v ∧ v ≤ 3) : v = 1 ∨ v = 2 ∨ v = 3 := by omega
theorem kind_cases {k : Nat} (h : 1 ≤ k ∧ k ≤ 7) : k = 1 ∨ k = 2 ∨ k = 3 ∨ k = 4 ∨ k = 5 ∨ k = 6 ∨ k = 7 := by omega

/-- 1 to 2. -/
theorem valid_fill {k : Nat} (hk : 1 ≤ k ∧ k ≤ 7) {r : Rec} (hv : r.V = 1) (hr : r.Kind = k) (h : Valid 1 k r) : Valid 2 k { fillR r with V := 2 } := by
  rw [valid_at] at h ⊢
  simp only [b3, b4, b5, b6, b7, b8, b9, b10, b11, z3, z4, z5, z6, z7, z8, z9, z10, z11] at h ⊢
  obtain rfl | rfl | rfl | rfl | rfl | rfl | rfl := kind_cases hk
  all_goals
    simp [may, mayAt, mays, Nat.testBit, Nat.shiftRight_eq_div_pow, hv, hr, fillR] at h ⊢
    try omega
    try simp_all
theorem valid_stay {k : Nat} (hk : 1 ≤ k ∧ k ≤ 7) {r : Rec} (hv : r.V = 2) (hr : r.Kind = k) (h : Valid 2 k r) : Valid 3 k { r with V := 3 } := by
  rw [valid_at] at h ⊢
  simp only [b3, b4, b5, b6, b7, b8, b9, b10, b11, z3, z4, z5, z6, z7, z8, z9, z10, z11] at h ⊢
  obtain rfl | rfl | rfl | rfl | rfl | rfl | rfl := kind_cases hk
  all_goals
    simp [may, mayAt, mays, Nat.testBit, Nat.shiftRight_eq_div_pow, hv, hr] at h ⊢
    try omega
    try simp_all
    try omega
theorem valid_plain {k : Nat} (hk : 1 ≤ k ∧ k ≤ 7) {r : Rec} (hv : r.V = 3) (hr : r.Kind = k) (h : Valid 3 k r) (hf : plainF r = true) : Valid 2 k { r with V := 2 } := by
  simp only [plainF, Bool.and_eq_true, beq_iff_eq] at hf
  rw [valid_at] at h ⊢
  simp only [b3, b4, b5, b6, b7, b8, b9, b10, b11, z3, z4, z5, z6, z7, z8, z9, z10, z11] at h ⊢
  obtain rfl | rfl | rfl | rfl | rfl | rfl | rfl := kind_cases hk
  all_goals
    simp [may, mayAt, mays, Nat.testBit, Nat.shiftRight_eq_div_pow, hv, hr] at h ⊢
    try omega
    try simp_all
theorem valid_empty {k : Nat} (hk : 1 ≤ k ∧ k ≤ 7) {r : Rec} (hv : r.V = 2) (hr : r.Kind = k) (h : Valid 2 k r) (hf : emptyF r = true) : Valid 1 k { emptyR r with V := 1 } := by
  rw [valid_at] at h ⊢
  simp only [b3, b4, b5, b6, b7, b8, b9, b10, b11, z3, z4, z5, z6, z7, z8, z9, z10, z11] at h ⊢
  have hn := @name_size r.Name
  have e : r.Name.data.toList.length = r.Name.size := rfl
  have e2 : r.Name.data.size = r.Name.size := rfl
  by_cases ha : r.At = 0
  case neg => simp [emptyF, ha] at hf
  obtain rfl | rfl | rfl | rfl | rfl | rfl | rfl := kind_cases hk
  all_goals
    simp [may, mayAt, mays, Nat.testBit, Nat.shiftRight_eq_div_pow, hv, hr, emptyR, emptyF, ha] at h hf ⊢
    try omega
    try simp_all
    try omega
theorem hopTo_12 (b : Int) : hopTo 1 b = 2 := by simp [hopTo]
theorem turn_self {r : Rec} {to : Int} (h : r.V = to) : turnR r to = r ∧ turnF r to = true := by
  have : stepsL r.V to = [] := by
    unfold stepsL
    repeat' (split; omega)
    rfl
  unfold turnR turnF
  rw [this]
  exact ⟨rfl, rfl⟩
theorem turn_12 {r : Rec} (h : r.V = 1) : turnR r 2 = { fillR r with V := 2 } ∧ turnF r 2 = true := by
  unfold turnR turnF
  rw [h]
  simp [stepsL, turnN, turnB, hopR, hopF, hopTo, h]
theorem turn_13 {r : Rec} (h : r.V = 1) : turnR r 3 = { fillR r with V := 3 } ∧ turnF r 3 = true := by
  unfold turnR turnF
  rw [h]
  simp [stepsL, turnN, turnB, hopR, hopF, hopTo, h]
theorem turn_23 {r : Rec} (h : r.V = 2) : turnR r 3 = { r with V := 3 } ∧ turnF r 3 = true := by
  unfold turnR turnF
  rw [h]
  simp [stepsL, turnN, turnB, hopR, hopF, hopTo, h]
theorem turn_21 {r : Rec} (h : r.V = 2) : turnF r 1 = emptyF r ∧ (emptyF r = true → turnR r 1 = { emptyR r with V := 1 }) := by
  unfold turnR turnF
  rw [h]
  constructor
  · simp [stepsL, turnB, hopF, hopTo, h]
  · intro hf
    simp [stepsL, turnN, hopF, hopR, hopTo, h, hf]
theorem turn_32 {r : Rec} (h : r.V = 3) : turnF r 2 = plainF r ∧ (plainF r = true → turnR r 2 = { r with V := 2 }) := by
  unfold turnR turnF
  rw [h]
  constructor
  · simp [stepsL, turnB, hopF, hopTo, h]
  · intro hf
    simp [stepsL, turnN, hopF, hopR, hopTo, h, hf]
theorem emptyF_V (r : Rec) (v : Int) : emptyF { r with V := v } = emptyF r := rfl
theorem emptyR_V (r : Rec) (v : Int) (v' : Int) : { emptyR { r with V := v } with V := v' } = { emptyR r with V := v' } := by
  unfold emptyR
  simp only []
  repeat' split
  all_goals rfl
theorem turn_31 {r : Rec} (h : r.V = 3) : turnF r 1 = (plainF r && emptyF r) ∧ (plainF r = true → emptyF r = true → turnR r 1 = { emptyR r with V := 1 }) := by
  unfold turnR turnF
  rw [h]
  constructor
  · cases hp : plainF r <;> simp [stepsL, turnB, hopF, hopR, hopTo, h, hp, emptyF_V]
  · intro hp he
    simp [stepsL, turnN, hopF, hopR, hopTo, h, hp, emptyF_V, he, emptyR_V]
theorem fill_V (r : Rec) (v : Int) : (fillR r).V = r.V := by
  unfold fillR
  repeat' split
  all_goals rfl
theorem fill_Kind (r : Rec) : (fillR r).Kind = r.Kind := by
  unfold fillR
  repeat' split
  all_goals rfl
theorem fill_Saga (r : Rec) : (fillR r).Saga = r.Saga := by
  unfold fillR
  repeat' split
  all_goals rfl
theorem empty_Kind (r : Rec) : (emptyR r).Kind = r.Kind := by
  unfold emptyR
  repeat' split
  all_goals rfl
theorem empty_Saga (r : Rec) : (emptyR r).Saga = r.Saga := by
  unfold emptyR
  repeat' split
  all_goals rfl
/-- Down of up. -/
theorem empty_fill {k : Nat} (hk : 1 ≤ k ∧ k ≤ 7) {r : Rec} (hv : r.V = 1) (hr : r.Kind = k) (h : Valid 1 k r) : emptyF (fillR r) = true ∧ { emptyR (fillR r) with V := 1 } = r ∧ plainF (fillR r) = true := by
  rw [valid_at] at h
  simp only [b3, b4, b5, b6, b7, b8, b9, b10, b11, z3, z4, z5, z6, z7, z8, z9, z10, z11] at h
  obtain ⟨V, K, Sg, St, Tr, At, La, Co, Cn, Pi, Na, Da⟩ := r
  simp only at hv hr
  subst hv hr
  obtain rfl | rfl | rfl | rfl | rfl | rfl | rfl := kind_cases hk
  all_goals
    simp [may, mayAt, mays, Nat.testBit, Nat.shiftRight_eq_div_pow, fillR, emptyR, emptyF, plainF] at h ⊢
    try simp_all
theorem fill_empty {k : Nat} (hk : 1 ≤ k ∧ k ≤ 7) {r : Rec} (hv : r.V = 2) (hr : r.Kind = k) (h : Valid 2 k r) (hf : emptyF r = true) (v : Int) : { fillR { emptyR r with V := v } with V := 2 } = r := by
  rw [valid_at] at h
  simp only [b3, b4, b5, b6, b7, b8, b9, b10, b11, z3, z4, z5, z6, z7, z8, z9, z10, z11] at h
  obtain ⟨V, K, Sg, St, Tr, At, La, Co, Cn, Pi, Na, Da⟩ := r
  simp only at hv hr
  subst hv hr
  by_cases ha : At = 0
  case neg => simp [emptyF, ha] at hf
  obtain rfl | rfl | rfl | rfl | rfl | rfl | rfl := kind_cases hk
  all_goals
    simp [may, mayAt, mays, Nat.testBit, Nat.shiftRight_eq_div_pow, fillR, emptyR, emptyF, plainF, ha] at h hf ⊢
    try simp_all
theorem fill_V3 (r : Rec) (v v' : Int) : { fillR { r with V := v } with V := v' } = { fillR r with V := v' } := by
  unfold fillR
  simp only []
  repeat' split
  all_goals rfl
theorem V_V (r : Rec) (v v' : Int) : ({ ({ r with V := v } : Rec) with V := v' } : Rec) = { r with V := v' } := rfl
theorem V_self {r : Rec} {v : Int} (h : r.V = v) : ({ r with V := v } : Rec) = r := by subst h; rfl
theorem Valid.V3 {k : Nat} {r : Rec} (h : Valid 2 k r) (hk : 1 ≤ k ∧ k ≤ 7) (hv : r.V = 2) (hr : r.Kind = k) : Valid 3 k { r with V := 3 } := valid_stay hk hv hr h
theorem chk_of {v k : Nat} {r : Rec} (hv : r.V = v) (hr : r.Kind = k) (h1 : 1 ≤ v ∧ v ≤ 3) (h2 : 1 ≤ k ∧ k ≤ 7) (hs : 1 ≤ r.Saga) (h : Valid v k r) : r.chk = 0 := (chk_valid r).2 ⟨v, k, hv, hr, h1, h2, hs, h⟩
theorem plainF_V (r : Rec) (v : Int) : plainF { r with V := v } = plainF r := rfl
theorem Rec.eqV {a b : Rec} {v : Int} (h : { a with V := v } = b) (w : Int) : ({ a with V := w } : Rec) = { b with V := w } := by rw [← h]
/-- Up, and down again. -/
theorem up_ok {r : Rec} {to : Int} (h : r.chk = 0) (h1 : r.V ≤ to) (h3 : to ≤ 3) :
    (turnR r to).chk = 0 ∧ (turnR r to).V = to ∧ (turnR r to).Saga = r.Saga ∧ (turnR r to).Kind = r.Kind ∧ turnF (turnR r to) r.V = true ∧ turnR (turnR r to) r.V = r := by
  obtain ⟨v, k, hv, hk, hv1, hk1, hs, hval⟩ := (chk_valid r).1 h
  by_cases heq : r.V = to
  · rw [(turn_self heq).1]
    exact ⟨h, heq, rfl, rfl, (turn_self rfl).2, (turn_self rfl).1⟩
  obtain rfl | rfl | rfl := ver_cases hv1
  · have hv' : r.V = 1 := hv
    obtain ⟨e1, e2, e3⟩ := empty_fill hk1 hv hk hval
    have h2 := valid_fill hk1 hv hk hval
    obtain rfl | rfl : to = 2 ∨ to = 3 := by omega
    · rw [(turn_12 hv').1, hv']
      refine ⟨chk_of (v := 2) rfl ((fill_Kind r).trans hk) (by omega) hk1 ((fill_Saga r).symm ▸ hs) h2, rfl, fill_Saga r, fill_Kind r, ?_, ?_⟩
      · rw [(turn_21 (r := { fillR r with V := 2 }) rfl).1, emptyF_V, e1]
      · rw [(turn_21 (r := { fillR r with V := 2 }) rfl).2 (by rw [emptyF_V, e1]), emptyR_V, e2]
    · rw [(turn_13 hv').1, hv']
      have h3' := h2.V3 hk1 rfl ((fill_Kind r).trans hk)
      refine ⟨chk_of (v := 3) rfl ((fill_Kind r).trans hk) (by omega) hk1 ((fill_Saga r).symm ▸ hs) h3', rfl, fill_Saga r, fill_Kind r, ?_, ?_⟩
      · rw [(turn_31 (r := { fillR r with V := 3 }) rfl).1, emptyF_V, plainF_V, e1, e3]; rfl
      · rw [(turn_31 (r := { fillR r with V := 3 }) rfl).2 (by rw [plainF_V, e3]) (by rw [emptyF_V, e1]), emptyR_V, e2]
  · have hv' : r.V = 2 := hv
    obtain rfl : to = 3 := by omega
    rw [(turn_23 hv').1, hv']
    have hp : plainF r = true := by
      rw [valid_at] at hval
      simp only [b3, b4, b5, b6, b7, b8, b9, b10, b11, z3, z4, z5, z6, z7, z8, z9, z10, z11] at hval
      obtain rfl | rfl | rfl | rfl | rfl | rfl | rfl := kind_cases hk1
      all_goals
        simp [may, mayAt, mays, Nat.testBit, Nat.shiftRight_eq_div_pow, plainF] at hval ⊢
        try simp_all
    refine ⟨chk_of (v := 3) rfl hk (by omega) hk1 hs (hval.V3 hk1 hv hk), rfl, rfl, rfl, ?_, ?_⟩
    · rw [(turn_32 (r := { r with V := 3 }) rfl).1, plainF_V, hp]
    · rw [(turn_32 (r := { r with V := 3 }) rfl).2 (by rw [plainF_V, hp]), V_V, V_self hv']
  · omega
/-- Down, and up again. -/
theorem down_ok {r : Rec} {to : Int} (h : r.chk = 0) (h1 : 1 ≤ to) (h3 : to ≤ r.V) (hf : turnF r to = true) :
    (turnR r to).chk = 0 ∧ (turnR r to).V = to ∧ turnR (turnR r to) r.V = r := by
  obtain ⟨v, k, hv, hk, hv1, hk1, hs, hval⟩ := (chk_valid r).1 h
  by_cases heq : r.V = to
  · rw [(turn_self heq).1]
    exact ⟨h, heq, (turn_self rfl).1⟩
  obtain rfl | rfl | rfl := ver_cases hv1
  · omega
  · have hv' : r.V = 2 := hv
    obtain rfl : to = 1 := by omega
    rw [(turn_21 hv').1] at hf
    rw [(turn_21 hv').2 hf, hv']
    refine ⟨chk_of (v := 1) rfl ((empty_Kind r).trans hk) (by omega) hk1 ((empty_Saga r).symm ▸ hs) (valid_empty hk1 hv hk hval hf), rfl, ?_⟩
    rw [(turn_12 (r := { emptyR r with V := 1 }) rfl).1, fill_empty hk1 hv hk hval hf]
  · have hv' : r.V = 3 := hv
    obtain rfl | rfl : to = 1 ∨ to = 2 := by omega
    · rw [(turn_31 hv').1, Bool.and_eq_true] at hf
      rw [(turn_31 hv').2 hf.1 hf.2, hv']
      have h2 := valid_plain hk1 hv hk hval hf.1
      have h2v := valid_empty (r := { r with V := 2 }) hk1 rfl hk h2 (by rw [emptyF_V]; exact hf.2)
      rw [emptyR_V] at h2v
      refine ⟨chk_of (v := 1) rfl ((empty_Kind r).trans hk) (by omega) hk1 ((empty_Saga r).symm ▸ hs) h2v, rfl, ?_⟩
      rw [(turn_13 (r := { emptyR r with V := 1 }) rfl).1]
      have := fill_empty (r := { r with V := 2 }) hk1 rfl hk h2 (by rw [emptyF_V]; exact hf.2) 1
      rw [emptyR_V] at this
      have := Rec.eqV this 3
      rw [V_V, V_self hv'] at this
      exact this
    · rw [(turn_32 hv').1] at hf
      rw [(turn_32 hv').2 hf, hv']
      refine ⟨chk_of (v := 2) rfl hk (by omega) hk1 hs (valid_plain hk1 hv hk hval hf), rfl, ?_⟩
      rw [(turn_23 (r := { r with V := 2 }) rfl).1, V_V, V_self hv']
/-- The chain downwards. -/
theorem chain_down {r : Rec} (h : r.chk = 0) (hv : r.V = 3) (hf : turnF r 2 = true) : turnF (turnR r 2) 1 = turnF r 1 ∧ (turnF r 1 = true → turnR (turnR r 2) 1 = turnR r 1) := by
  rw [(turn_32 hv).1] at hf
  rw [(turn_32 hv).2 hf, (turn_31 hv).1, hf, (turn_21 (r := { r with V := 2 }) rfl).1, emptyF_V]
  refine ⟨by simp, fun he => ?_⟩
  simp at he
  rw [(turn_31 hv).2 hf he, (turn_21 (r := { r with V := 2 }) rfl).2 (by rw [emptyF_V]; exact he), emptyR_V]
theorem chain_lower {r : Rec} (hv : r.V = 3) (hf : turnF r 1 = true) : turnF r 2 = true := by
  rw [(turn_31 hv).1, Bool.and_eq_true] at hf
  rw [(turn_32 hv).1, hf.1]
theorem chain_up {r : Rec} (hv : r.V = 1) : turnR (turnR r 2) 3 = turnR r 3 := by
  rw [(turn_12 hv).1, (turn_13 hv).1, (turn_23 (r := { fillR r with V := 2 }) rfl).1, V_V]
theorem turn_zero {r : Rec} {to : Int} (hf : turnF r to = false) : turnR r to = Rec.zero := by
  have : ∀ (n : Nat) (r : Rec), turnB n r to = false → turnN n r to = Rec.zero := by
    intro n
    induction n with
    | zero => intro r h; cases h
    | succ n ih =>
      intro r h
      unfold turnB at h
      unfold turnN
      split at h
      · rename_i hh; rw [if_pos hh]; exact ih _ h
      · rename_i hh; rw [if_neg hh]
  exact this _ r hf
/-- The reference's guess. -/
def guessR (r : Rec) (to : Int) : Rec :=
  if 1 < r.V ∧ to = 1 ∧ r.Kind = 1 then { Rec.zero with V := to, Kind := r.Kind, Saga := r.Saga, Step := r.Count, Data := r.Name.data.toList }
  else if to ≤ 1 then { Rec.zero with V := to, Kind := r.Kind, Saga := r.Saga, Step := r.Step, Data := r.Data }
  else if to ≤ 2 then { r with V := to, Code := 0, Pivot := 0 } else { r with V := to }
/-- The reference's way up. -/
def riseR (r : Rec) (to : Int) : Rec := if r.V = 1 ∧ 1 < to then { fillR r with V := to } else { r with V := to }
theorem rise_ok {r : Rec} {to : Int} (h : r.chk = 0) (h1 : r.V ≤ to) (h3 : to ≤ 3) : riseR r to = turnR r to := by
  obtain ⟨v, k, hv, hk, hv1, hk1, hs, hval⟩ := (chk_valid r).1 h
  unfold riseR
  by_cases heq : r.V = to
  · rw [(turn_self heq).1, if_neg (by omega), V_self heq]
  obtain rfl | rfl | rfl := ver_cases hv1
  · have hv' : r.V = 1 := hv
    rw [if_pos (by omega)]
    obtain rfl | rfl : to = 2 ∨ to = 3 := by omega
    · rw [(turn_12 hv').1]
    · rw [(turn_13 hv').1]
  · have hv' : r.V = 2 := hv
    obtain rfl : to = 3 := by omega
    rw [if_neg (by omega), (turn_23 hv').1]
  · omega
theorem guess_ok {r : Rec} {to : Int} (h : r.chk = 0) (h1 : 1 ≤ to) (h3 : to ≤ r.V) (hf : turnF r to = true) : guessR r to = turnR r to := by
  obtain ⟨v, k, hv, hk, hv1, hk1, hs, hval⟩ := (chk_valid r).1 h
  rw [valid_at] at hval
  simp only [b3, b4, b5, b6, b7, b8, b9, b10, b11, z3, z4, z5, z6, z7, z8, z9, z10, z11] at hval
  by_cases heq : r.V = to
  · rw [(turn_self heq).1]
    obtain ⟨V, K, Sg, St, Tr, At, La, Co, Cn, Pi, Na, Da⟩ := r
    simp only at hv hk heq
    subst hv hk
    obtain rfl | rfl | rfl := ver_cases hv1 <;> obtain rfl | rfl | rfl | rfl | rfl | rfl | rfl := kind_cases hk1
    all_goals
      subst heq
      simp [may, mayAt, mays, Nat.testBit, Nat.shiftRight_eq_div_pow, guessR, Rec.zero] at hval ⊢
      try simp_all
  obtain rfl | rfl | rfl := ver_cases hv1
  · omega
  · have hv' : r.V = 2 := hv
    obtain rfl : to = 1 := by omega
    rw [(turn_21 hv').1] at hf
    rw [(turn_21 hv').2 hf]
    obtain ⟨V, K, Sg, St, Tr, At, La, Co, Cn, Pi, Na, Da⟩ := r
    simp only at hv hk
    subst hv hk
    by_cases ha : At = 0
    case neg => simp [emptyF, ha] at hf
    obtain rfl | rfl | rfl | rfl | rfl | rfl | rfl := kind_cases hk1
    all_goals
      simp [may, mayAt, mays, Nat.testBit, Nat.shiftRight_eq_div_pow, guessR, Rec.zero, emptyR, emptyF, ha] at hval hf ⊢
      try simp_all
  · have hv' : r.V = 3 := hv
    obtain rfl | rfl : to = 1 ∨ to = 2 := by omega
    · rw [(turn_31 hv').1, Bool.and_eq_true] at hf
      rw [(turn_31 hv').2 hf.1 hf.2]
      obtain ⟨V, K, Sg, St, Tr, At, La, Co, Cn, Pi, Na, Da⟩ := r
      simp only at hv hk
      subst hv hk
      by_cases ha : At = 0
      case neg => simp [emptyF, ha] at hf
      obtain rfl | rfl | rfl | rfl | rfl | rfl | rfl := kind_cases hk1
      all_goals
        simp [may, mayAt, mays, Nat.testBit, Nat.shiftRight_eq_div_pow, guessR, Rec.zero, emptyR, emptyF, plainF, ha] at hval hf ⊢
        try simp_all
    · rw [(turn_32 hv').1] at hf
      rw [(turn_32 hv').2 hf]
      obtain ⟨V, K, Sg, St, Tr, At, La, Co, Cn, Pi, Na, Da⟩ := r
      simp [plainF] at hf
      simp [guessR, hf]
theorem guess_V (r : Rec) (to : Int) : (guessR r to).V = to := by
  unfold guessR
  repeat' split
  all_goals rfl
/-- What the reference's Down answers. -/
theorem refDown_ok {r : Rec} {to : Int} (h : r.chk = 0) (h1 : 1 ≤ to) (h3 : to ≤ r.V) :
    (turnF r to = true → upE (guessR r to) r.V = 0 ∧ turnR (guessR r to) r.V = r ∧ guessR r to = turnR r to) ∧ (turnF r to = false → upE (guessR r to) r.V = 0 → turnR (guessR r to) r.V ≠ r) := by
  have h4 : 1 ≤ r.V ∧ r.V ≤ 3 := ((chk_ok r).1 h).1
  have hkn : known r.V = true := by unfold known; simp; omega
  constructor
  · intro hf
    have hg := guess_ok h h1 h3 hf
    obtain ⟨d1, d2, d3⟩ := down_ok h h1 h3 hf
    rw [hg]
    refine ⟨?_, d3, rfl⟩
    unfold upE
    rw [if_neg (by rw [d1]; simp), if_neg (by rw [hkn]; simp), if_neg (by omega)]
  · intro hf hu he
    have hc : (guessR r to).chk = 0 := by
      unfold upE at hu
      by_cases hc : (guessR r to).chk = 0
      · exact hc
      · rw [if_pos hc] at hu
        exact hu
    have := (up_ok hc (by rw [guess_V]; exact h3) h4.2).2.2.2.2.1
    rw [he, guess_V, hf] at this
    cases this
def leastR (r : Rec) : Int := if 2 ≤ r.V ∧ turnF r 1 = true then 1 else if 3 ≤ r.V ∧ turnF r 2 = true then 2 else r.V
theorem least_ok {r : Rec} (h : r.chk = 0) : 1 ≤ leastR r ∧ leastR r ≤ r.V ∧ ∀ v, 1 ≤ v → v ≤ r.V → turnF r v = decide (leastR r ≤ v) := by
  have h4 : 1 ≤ r.V ∧ r.V ≤ 3 := ((chk_ok r).1 h).1
  have hself := (turn_self (r := r) rfl).2
  unfold leastR
  obtain hv | hv | hv : r.V = 1 ∨ r.V = 2 ∨ r.V = 3 := by omega
  · rw [hv] at hself ⊢
    simp only [show ¬ ((2 : Int) ≤ 1) by omega, show ¬ ((3 : Int) ≤ 1) by omega, false_and, if_false]
    refine ⟨by omega, by omega, fun v a b => ?_⟩
    obtain rfl : v = 1 := by omega
    simpa using hself
  · rw [hv] at hself ⊢
    simp only [show ((2 : Int) ≤ 2) by omega, show ¬ ((3 : Int) ≤ 2) by omega, false_and, true_and, if_false]
    by_cases h1 : turnF r 1 = true
    · rw [if_pos h1]
      refine ⟨by omega, by omega, fun v a b => ?_⟩
      obtain rfl | rfl : v = 1 ∨ v = 2 := by omega
      · simpa using h1
      · simpa using hself
    · rw [if_neg h1]
      refine ⟨by omega, by omega, fun v a b => ?_⟩
      obtain rfl | rfl : v = 1 ∨ v = 2 := by omega
      · simpa using h1
      · simpa using hself
  · have hl := chain_lower hv
    rw [hv] at hself ⊢
    simp only [show ((2 : Int) ≤ 3) by omega, show ((3 : Int) ≤ 3) by omega, true_and]
    by_cases h1 : turnF r 1 = true
    · rw [if_pos h1]
      refine ⟨by omega, by omega, fun v a b => ?_⟩
      obtain rfl | rfl | rfl : v = 1 ∨ v = 2 ∨ v = 3 := by omega
      · simpa using h1
      · simpa using hl h1
      · simpa using hself
    · rw [if_neg h1]
      by_cases h2 : turnF r 2 = true
      · rw [if_pos h2]
        refine ⟨by omega, by omega, fun v a b => ?_⟩
        obtain rfl | rfl | rfl : v = 1 ∨ v = 2 ∨ v = 3 := by omega
        · simpa using h1
        · simpa using h2
        · simpa using hself
      · rw [if_neg h2]
        refine ⟨by omega, by omega, fun v a b => ?_⟩
        obtain rfl | rfl | rfl : v = 1 ∨ v = 2 ∨ v = 3 := by omega
        · simpa using h1
        · simpa using h2
        · simpa using hself
end Go.Proofs.YtikodgaomhmbmaaDoor
