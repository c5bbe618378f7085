/-
  The check of 32 bits as plain arithmetic on natural numbers: both ways of reckoning (bit by bit; by half bytes and a table) agree, the check of parts, its linearity, and that a burst of at most 32 bits changes it. No condition.
-/
namespace Go.Proofs.YtnfefjlplipeiaaDoor.Crc

def poly : Nat := 3988292384
def full : Nat := 4294967295

/-- one bit -/
def bit (r : Nat) : Nat := if r % 2 = 1 then r / 2 ^^^ 3988292384 else r / 2
def bits (n : Nat) (r : Nat) : Nat := match n with | 0 => r | n + 1 => bits n (bit r)
def slowB (r c : Nat) : Nat := bits 8 (r ^^^ c)
def slow (r : Nat) (l : List Nat) : Nat := l.foldl slowB r

def tab : List Nat := [0, 498536548, 997073096, 651767980, 1994146192, 1802195444, 1303535960, 1342533948, 3988292384, 4027552580, 3604390888, 3412177804, 2607071920, 2262029012, 2685067896, 3183342108]
def half (r : Nat) : Nat := r / 16 ^^^ tab.getD (r % 16) 0
def fastB (r c : Nat) : Nat := half (half (r ^^^ c))
def fast (r : Nat) (l : List Nat) : Nat := l.foldl fastB r

theorem xor_div2 (a b : Nat) : (a ^^^ b) / 2 = a / 2 ^^^ b / 2 := by
  apply Nat.eq_of_testBit_eq; intro i
  simp [← Nat.testBit_succ, Nat.testBit_xor]
theorem xor_mod2 (a b : Nat) : (a ^^^ b) % 2 = (a % 2 + b % 2) % 2 := by
  have h := Nat.testBit_xor a b 0
  simp only [Nat.testBit_zero] at h
  rcases Nat.mod_two_eq_zero_or_one a with ha | ha <;> rcases Nat.mod_two_eq_zero_or_one b with hb | hb <;> rcases Nat.mod_two_eq_zero_or_one (a ^^^ b) with hc | hc <;> simp_all

theorem xor_cancel (a b c : Nat) : a ^^^ c ^^^ (b ^^^ c) = a ^^^ b := by
  apply Nat.eq_of_testBit_eq; intro i
  simp only [Nat.testBit_xor]
  cases a.testBit i <;> cases b.testBit i <;> cases c.testBit i <;> rfl

theorem xor_lcomm (a b c d : Nat) : a ^^^ b ^^^ (c ^^^ d) = a ^^^ c ^^^ (b ^^^ d) := by
  apply Nat.eq_of_testBit_eq; intro i
  simp only [Nat.testBit_xor]
  cases a.testBit i <;> cases b.testBit i <;> cases c.testBit i <;> cases d.testBit i <;> rfl

theorem eq_of_xor {a b : Nat} (h : a ^^^ b = 0) : a = b := by
  have : a ^^^ b ^^^ b = b := by rw [h, Nat.zero_xor]
  rwa [Nat.xor_assoc, Nat.xor_self, Nat.xor_zero] at this

theorem bit_xor (a b : Nat) : bit (a ^^^ b) = bit a ^^^ bit b := by
  unfold bit
  rw [xor_div2, xor_mod2]
  rcases Nat.mod_two_eq_zero_or_one a with ha | ha <;> rcases Nat.mod_two_eq_zero_or_one b with hb | hb <;> simp only [ha, hb]
  · simp
  · simp [Nat.xor_assoc]
  · simp only [if_true, Nat.zero_ne_one, if_false]
    rw [Nat.xor_assoc, Nat.xor_comm (b / 2), ← Nat.xor_assoc]
  · simp only [Nat.reduceAdd, Nat.mod_self, Nat.zero_ne_one, if_false, if_true]
    rw [xor_cancel]

theorem bits_xor (n a b : Nat) : bits n (a ^^^ b) = bits n a ^^^ bits n b := by
  induction n generalizing a b with
  | zero => rfl
  | succ n ih => simp only [bits]; rw [bit_xor, ih]

theorem bits_add (m n r : Nat) : bits (m + n) r = bits n (bits m r) := by
  induction m generalizing r with
  | zero => simp [bits]
  | succ m ih => rw [Nat.succ_add]; simp only [bits]; exact ih (bit r)

theorem bit_double (x : Nat) : bit (2 * x) = x := by
  unfold bit
  rw [if_neg (by omega)]; omega

theorem bits_shift (n x : Nat) : bits n (2 ^ n * x) = x := by
  induction n generalizing x with
  | zero => simp [bits]
  | succ n ih =>
    simp only [bits]
    rw [show 2 ^ (n + 1) * x = 2 * (2 ^ n * x) by rw [Nat.pow_succ]; ac_rfl, bit_double, ih]

theorem xor_or_shift (n x c : Nat) (hc : c < 2 ^ n) : 2 ^ n * x ^^^ c = 2 ^ n * x + c := by
  apply Nat.eq_of_testBit_eq; intro i
  rw [Nat.testBit_xor, Nat.testBit_two_pow_mul_add _ hc]
  by_cases hi : i < n
  · rw [Nat.testBit_two_pow_mul]; simp [hi, show ¬ n ≤ i by omega]
  · have : c.testBit i = false := by
      apply Nat.testBit_lt_two_pow
      exact Nat.lt_of_lt_of_le hc (Nat.pow_le_pow_right (by omega) (by omega))
    rw [this, Nat.testBit_two_pow_mul]; simp [hi, show n ≤ i by omega]

theorem split16 (r : Nat) : r = 2 ^ 4 * (r / 16) ^^^ r % 16 := by
  rw [xor_or_shift 4 _ _ (by omega)]; omega

theorem tab_bits : ∀ k, k < 16 → bits 4 k = tab.getD k 0 := by decide

theorem half_bits (r : Nat) : half r = bits 4 r := by
  have h : bits 4 r = bits 4 (2 ^ 4 * (r / 16) ^^^ r % 16) := by rw [← split16]
  rw [h, bits_xor, bits_shift, tab_bits _ (Nat.mod_lt _ (by omega))]
  rfl

theorem fastB_slowB (r c : Nat) : fastB r c = slowB r c := by
  unfold fastB slowB
  rw [half_bits, half_bits, ← bits_add]

theorem fast_slow (r : Nat) (l : List Nat) : fast r l = slow r l := by
  unfold fast slow
  rw [show fastB = slowB from funext fun r => funext fun c => fastB_slowB r c]

/- bounds -/
theorem bit_lt {r : Nat} (h : r < 4294967296) : bit r < 4294967296 := by
  unfold bit
  have h2 : r / 2 < 2 ^ 32 := by omega
  split
  · exact Nat.xor_lt_two_pow (n := 32) h2 (by omega)
  · omega
theorem bits_lt (n : Nat) {r : Nat} (h : r < 4294967296) : bits n r < 4294967296 := by
  induction n generalizing r with
  | zero => exact h
  | succ n ih => exact ih (bit_lt h)
theorem xor_lt {a b : Nat} (ha : a < 4294967296) (hb : b < 4294967296) : a ^^^ b < 4294967296 := Nat.xor_lt_two_pow (n := 32) ha hb
theorem half_lt {r : Nat} (h : r < 4294967296) : half r < 4294967296 := by rw [half_bits]; exact bits_lt 4 h
theorem tab_lt : ∀ k, k < 16 → tab.getD k 0 < 4294967296 := by decide
theorem slowB_lt {r c : Nat} (h : r < 4294967296) (hc : c < 4294967296) : slowB r c < 4294967296 := bits_lt 8 (xor_lt h hc)
theorem fastB_lt {r c : Nat} (h : r < 4294967296) (hc : c < 4294967296) : fastB r c < 4294967296 := by rw [fastB_slowB]; exact slowB_lt h hc
theorem slow_lt {r : Nat} (l : List Nat) (h : r < 4294967296) (hl : ∀ c ∈ l, c < 256) : slow r l < 4294967296 := by
  induction l generalizing r with
  | nil => exact h
  | cons c l ih => exact ih (slowB_lt h (by have := hl c (by simp); omega)) (fun d hd => hl d (by simp [hd]))
theorem fast_lt {r : Nat} (l : List Nat) (h : r < 4294967296) (hl : ∀ c ∈ l, c < 256) : fast r l < 4294967296 := by rw [fast_slow]; exact slow_lt l h hl

/-- the check, from a check on -/
def upd (s : Nat) (l : List Nat) : Nat := 4294967295 ^^^ fast (4294967295 ^^^ s) l
def sum (l : List Nat) : Nat := upd 0 l
theorem upd_lt {s : Nat} (l : List Nat) (h : s < 4294967296) (hl : ∀ c ∈ l, c < 256) : upd s l < 4294967296 :=
  xor_lt (by omega) (fast_lt l (xor_lt (by omega) h) hl)

theorem upd_append (s : Nat) (a b : List Nat) : upd s (a ++ b) = upd (upd s a) b := by
  unfold upd fast
  rw [List.foldl_append, ← Nat.xor_assoc, Nat.xor_self, Nat.zero_xor]
theorem upd_nil (s : Nat) : upd s [] = s := by
  unfold upd fast
  simp only [List.foldl_nil]
  rw [← Nat.xor_assoc, Nat.xor_self, Nat.zero_xor]

/- linearity -/
theorem slowB_xor (r s c d : Nat) : slowB (r ^^^ s) (c ^^^ d) = slowB r c ^^^ slowB s d := by
  unfold slowB
  rw [← bits_xor, xor_lcomm]

def xors (a b : List Nat) : List Nat := List.zipWith (· ^^^ ·) a b

theorem slow_xors (a b : List Nat) (h : a.length = b.length) (r s : Nat) : slow (r ^^^ s) (xors a b) = slow r a ^^^ slow s b := by
  induction a generalizing b r s with
  | nil => cases b with | nil => rfl | cons _ _ => simp at h
  | cons x a ih =>
    cases b with
    | nil => simp at h
    | cons y b =>
      simp only [xors, List.zipWith_cons_cons, slow, List.foldl_cons]
      rw [slowB_xor]
      exact ih b (by simpa using h) _ _

theorem sum_linear (a b c : List Nat) (h : a.length = b.length) (h' : a.length = c.length) : sum (xors (xors a b) c) = sum a ^^^ sum b ^^^ sum c := by
  have hl : (xors a b).length = c.length := by unfold xors; simp [← h, h']
  unfold sum upd
  rw [Nat.xor_zero, fast_slow, fast_slow, fast_slow, fast_slow]
  have e1 : slow 4294967295 (xors (xors a b) c) = slow (4294967295 ^^^ 4294967295 ^^^ 4294967295) (xors (xors a b) c) := by
    rw [Nat.xor_self, Nat.zero_xor]
  rw [e1, slow_xors _ _ hl, slow_xors _ _ h]
  apply Nat.eq_of_testBit_eq; intro i
  simp only [Nat.testBit_xor]
  cases (4294967295 : Nat).testBit i <;> cases (slow 4294967295 a).testBit i <;> cases (slow 4294967295 b).testBit i <;> cases (slow 4294967295 c).testBit i <;> rfl

/- bursts -/
theorem bit_inj0 {r : Nat} (h : r < 4294967296) (h0 : bit r = 0) : r = 0 := by
  unfold bit at h0
  split at h0
  · rename_i h1
    have h2 : r / 2 = 3988292384 := by
      exact eq_of_xor h0
    omega
  · omega
theorem bits_inj0 (n : Nat) {r : Nat} (h : r < 4294967296) (h0 : bits n r = 0) : r = 0 := by
  induction n generalizing r with
  | zero => exact h0
  | succ n ih => exact bit_inj0 h (ih (bit_lt h) h0)
theorem bits_zero (n : Nat) : bits n 0 = 0 := by
  induction n with
  | zero => rfl
  | succ n ih => simp only [bits]; exact ih

/-- bytes as one number, the lowest first -/
def num : List Nat → Nat
  | [] => 0
  | c :: l => c + 256 * num l

/-- from nothing on, the reckoning of bytes is that many bits of their number -/
theorem bits_slow (r : Nat) (l : List Nat) (hl : ∀ c ∈ l, c < 256) : slow r l = bits (8 * l.length) (r ^^^ num l) := by
  induction l generalizing r with
  | nil => simp [slow, bits, num]
  | cons c l ih =>
    have hc : c < 2 ^ 8 := by have := hl c (by simp); omega
    have e : num (c :: l) = c ^^^ 2 ^ 8 * num l := by
      rw [Nat.xor_comm, xor_or_shift 8 _ _ hc]
      simp only [num]; omega
    show slow (slowB r c) l = _
    rw [ih _ (fun d hd => hl d (by simp [hd])), e, List.length_cons, show 8 * (l.length + 1) = 8 + 8 * l.length by omega, bits_add, ← Nat.xor_assoc, bits_xor 8, bits_shift]
    rfl

/-- a number whose bits lie within 32 side by side is not lost -/
theorem bits_burst (n k x : Nat) (hx : x < 4294967296) (hk : k ≤ n) (h0 : bits n (2 ^ k * x) = 0) : x = 0 := by
  obtain ⟨m, rfl⟩ : ∃ m, n = k + m := ⟨n - k, by omega⟩
  rw [bits_add, bits_shift] at h0
  exact bits_inj0 m hx h0

theorem num_xors (a b : List Nat) (h : a.length = b.length) (ha : ∀ c ∈ a, c < 256) (hb : ∀ c ∈ b, c < 256) : num (xors a b) = num a ^^^ num b := by
  induction a generalizing b with
  | nil => cases b with | nil => rfl | cons _ _ => simp at h
  | cons x a ih =>
    cases b with
    | nil => simp at h
    | cons y b =>
      have ih := ih b (by simpa using h) (fun c hc => ha c (by simp [hc])) (fun c hc => hb c (by simp [hc]))
      have hx : x < 2 ^ 8 := by have := ha x (by simp); omega
      have hy : y < 2 ^ 8 := by have := hb y (by simp); omega
      simp only [xors, List.zipWith_cons_cons, num]
      change (x ^^^ y) + 256 * num (xors a b) = _
      rw [ih]
      apply Nat.eq_of_testBit_eq; intro i
      have hxy : x ^^^ y < 2 ^ 8 := Nat.xor_lt_two_pow hx hy
      rw [Nat.testBit_xor, show (x ^^^ y) + 256 * (num a ^^^ num b) = 2 ^ 8 * (num a ^^^ num b) + (x ^^^ y) by omega, show x + 256 * num a = 2 ^ 8 * num a + x by omega, show y + 256 * num b = 2 ^ 8 * num b + y by omega,
        Nat.testBit_two_pow_mul_add _ hxy, Nat.testBit_two_pow_mul_add _ hx, Nat.testBit_two_pow_mul_add _ hy]
      split
      · rw [Nat.testBit_xor]
      · rw [Nat.testBit_xor]

theorem num_zero (l : List Nat) (h : num l = 0) : ∀ c ∈ l, c = 0 := by
  induction l with
  | nil => intro c hc; cases hc
  | cons x l ih =>
    unfold num at h
    intro c hc
    rcases List.mem_cons.1 hc with rfl | hc
    · omega
    · exact ih (by omega) c hc

theorem xors_zero (a b : List Nat) (h : a.length = b.length) (hz : ∀ c ∈ xors a b, c = 0) : a = b := by
  induction a generalizing b with
  | nil => cases b with | nil => rfl | cons _ _ => simp at h
  | cons x a ih =>
    cases b with
    | nil => simp at h
    | cons y b =>
      have h1 := hz (x ^^^ y) (by simp [xors])
      have h2 := eq_of_xor h1
      rw [h2, ih b (by simpa using h) (fun c hc => hz c (by simp only [xors, List.zipWith_cons_cons]; exact List.mem_cons_of_mem _ hc))]

/-- two lists of bytes whose numbers part only within 32 bits side by side have one check just if they are one -/
theorem sum_burst (a b : List Nat) (h : a.length = b.length) (ha : ∀ c ∈ a, c < 256) (hb : ∀ c ∈ b, c < 256) (k x : Nat) (hx : x < 4294967296) (hk : k ≤ 8 * a.length)
    (hn : num a ^^^ num b = 2 ^ k * x) (he : sum a = sum b) : a = b := by
  unfold sum upd at he
  have e1 : fast (4294967295 ^^^ 0) a = fast (4294967295 ^^^ 0) b := by
    have := congrArg (4294967295 ^^^ ·) he
    simpa only [← Nat.xor_assoc, Nat.xor_self, Nat.zero_xor] using this
  rw [fast_slow, fast_slow] at e1
  have e2 : slow 0 (xors a b) = 0 := by
    have := slow_xors a b h 4294967295 4294967295
    rw [Nat.xor_self] at this
    rw [this]
    simp only [Nat.xor_zero] at e1
    rw [e1, Nat.xor_self]
  have hl : (xors a b).length = a.length := by unfold xors; simp [← h]
  have hxs : ∀ c ∈ xors a b, c < 256 := by
    intro c hc
    unfold xors at hc
    rw [List.zipWith_eq_zipWith_take_min] at hc
    obtain ⟨i, hi, rfl⟩ := List.mem_iff_getElem.1 hc
    rw [List.getElem_zipWith]
    have g1 := ha _ (List.mem_of_mem_take (List.getElem_mem (l := a.take (min a.length b.length)) (by simp at hi ⊢; omega)))
    have g2 := hb _ (List.mem_of_mem_take (List.getElem_mem (l := b.take (min a.length b.length)) (by simp at hi ⊢; omega)))
    exact Nat.xor_lt_two_pow (n := 8) g1 g2
  rw [bits_slow 0 _ hxs, Nat.zero_xor, num_xors a b h ha hb, hn, hl] at e2
  have hx0 := bits_burst _ k x hx hk e2
  subst hx0
  apply xors_zero a b h
  apply num_zero
  rw [num_xors a b h ha hb, hn]; simp

end Go.Proofs.YtnfefjlplipeiaaDoor.Crc
