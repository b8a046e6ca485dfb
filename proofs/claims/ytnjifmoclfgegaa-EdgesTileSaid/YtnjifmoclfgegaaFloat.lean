/- Whole numbers from 0 up to 2^53 are kept by floats: the way to a float and back, and differences, are exact. No condition beside the bounds. -/
import Derived.Laws.FloatArith
namespace Go.Proofs.Ytnjifmoclfgegaa.Fx
open Go Ieee

theorem log2_mul_pow {m : Nat} (hm : m ≠ 0) (e : Nat) : (m * 2 ^ e).log2 = m.log2 + e := by
  have hp := Nat.two_pow_pos e
  rw [Nat.log2_eq_iff (Nat.mul_ne_zero hm (by omega))]
  have h1 := Nat.log2_self_le hm
  have h2 := @Nat.lt_log2_self m
  constructor
  · rw [Nat.pow_add]; exact Nat.mul_le_mul_right _ h1
  · rw [show m.log2 + e + 1 = (m.log2 + 1) + e by omega, Nat.pow_add]; exact Nat.mul_lt_mul_of_pos_right h2 hp

theorem cut_of_gap (way : Toward) (neg : Bool) (n drop q g : Nat) (hg : 1 <<< min drop (n.log2 + 2) = g) (hn : n = q * g) (hp : 0 < g) : way.cut neg n drop = q := by
  unfold Toward.cut
  simp only [hg]
  subst hn
  have e1 : q * g / g = q := Nat.mul_div_cancel _ hp
  have e2 : q * g % g = 0 := Nat.mul_mod_left _ _
  rw [e1, e2]
  cases way <;> simp
  omega

theorem cut_exact (way : Toward) (neg : Bool) (q drop : Nat) (hq : q ≠ 0) : way.cut neg (q * 2 ^ drop) drop = q := by
  refine cut_of_gap way neg _ drop q (2 ^ drop) ?_ rfl (Nat.two_pow_pos _)
  rw [log2_mul_pow hq, Nat.shiftLeft_eq, Nat.one_mul, show min drop (q.log2 + drop + 2) = drop by omega]

/-- a full significand -/
def sig (m : Nat) : Nat := m * 2 ^ (52 - m.log2)

theorem log_lt {m : Nat} (hm : m ≠ 0) (h : m < 2 ^ 53) : m.log2 < 53 := (Nat.log2_lt hm).2 h
theorem sig_ne {m : Nat} (hm : m ≠ 0) : sig m ≠ 0 := Nat.mul_ne_zero hm (by have := Nat.two_pow_pos (52 - m.log2); omega)
theorem sig_log {m : Nat} (hm : m ≠ 0) (h : m < 2 ^ 53) : (sig m).log2 = 52 := by
  have := log_lt hm h
  unfold sig
  rw [log2_mul_pow hm]; omega
theorem sig_bounds {m : Nat} (hm : m ≠ 0) (h : m < 2 ^ 53) : 2 ^ 52 ≤ sig m ∧ sig m < 2 ^ 53 := by
  have h1 := (Nat.log2_eq_iff (sig_ne hm)).1 (sig_log hm h)
  exact h1

/-- what is kept, wherever the point stands -/
theorem kept_eq (neg : Bool) {m : Nat} (hm : m ≠ 0) (h : m < 2 ^ 53) (e : Nat) :
    Toward.even.cut neg ((m * 2 ^ e) <<< (-(e : Int) - ((m.log2 : Int) - 52)).toNat) ((m.log2 : Int) - 52 - -(e : Int)).toNat = sig m := by
  have hl := log_lt hm h
  by_cases hc : m.log2 + e ≤ 52
  · have e1 : (-(e : Int) - ((m.log2 : Int) - 52)).toNat = 52 - m.log2 - e := by omega
    have e2 : ((m.log2 : Int) - 52 - -(e : Int)).toNat = 0 := by omega
    rw [e1, e2, Nat.shiftLeft_eq, Nat.mul_assoc, ← Nat.pow_add]
    have e3 : e + (52 - m.log2 - e) = 52 - m.log2 := by omega
    rw [e3]
    have := cut_exact .even neg (sig m) 0 (sig_ne hm)
    rw [Nat.pow_zero, Nat.mul_one] at this
    exact this
  · have e1 : (-(e : Int) - ((m.log2 : Int) - 52)).toNat = 0 := by omega
    have e2 : ((m.log2 : Int) - 52 - -(e : Int)).toNat = m.log2 + e - 52 := by omega
    rw [e1, e2, Nat.shiftLeft_zero]
    have hspl : m * 2 ^ e = sig m * 2 ^ (m.log2 + e - 52) := by
      unfold sig
      rw [Nat.mul_assoc, ← Nat.pow_add]
      have e3 : 52 - m.log2 + (m.log2 + e - 52) = e := by omega
      rw [e3]
    rw [hspl]
    exact cut_exact .even neg (sig m) _ (sig_ne hm)

theorem least : double.leastPlace = -1074 := by decide
theorem inf : double.infRung = 2047 * double.binade := by decide
theorem bin : double.binade = 2 ^ 52 := by decide
theorem sgn : double.signWeight = 2048 * double.binade := by decide

def rung (m : Nat) : Nat := (m.log2 + 1022) * double.binade + sig m

theorem rung_lt {m : Nat} (hm : m ≠ 0) (h : m < 2 ^ 53) : rung m < double.infRung ∧ double.binade ≤ rung m := by
  have hl := log_lt hm h
  have hs := sig_bounds hm h
  unfold rung
  rw [inf, bin]
  have : (m.log2 + 1022) * 2 ^ 52 ≤ 1074 * 2 ^ 52 := Nat.mul_le_mul_right _ (by omega)
  omega

/-- the word of a positive whole number below 2^53 times 2^e, at the place -e -/
theorem nearest_eq (neg : Bool) {m : Nat} (hm : m ≠ 0) (h : m < 2 ^ 53) (e : Nat) :
    double.nearest neg (m * 2 ^ e) (-(e : Int)) = double.word neg (rung m) := by
  have hl := log_lt hm h
  have hp := Nat.two_pow_pos e
  unfold Format.nearest
  rw [if_neg (Nat.mul_ne_zero hm (by omega))]
  dsimp only
  rw [log2_mul_pow hm]
  have hlast : max (-(e : Int) + ((m.log2 + e : Nat) : Int) - (double.fractionBits : Int)) double.leastPlace = (m.log2 : Int) - 52 := by
    rw [least]; simp only [double]; omega
  rw [hlast, kept_eq neg hm h e, least]
  have hlp : ((m.log2 : Int) - 52 - -1074).toNat = m.log2 + 1022 := by omega
  rw [hlp]
  have := (rung_lt hm h).1
  unfold rung at this ⊢
  rw [Nat.min_eq_left (Nat.le_of_lt this)]

theorem read_word (neg : Bool) {m : Nat} (hm : m ≠ 0) (h : m < 2 ^ 53) :
    double.read (double.word neg (rung m)) = .number neg (sig m) ((m.log2 : Int) - 52) := by
  have hl := log_lt hm h
  have hs := sig_bounds hm h
  have hr := rung_lt hm h
  have hd : rung m / double.binade = m.log2 + 1023 ∧ rung m % double.binade = sig m - double.binade := by
    unfold rung
    rw [bin]
    have := Nat.div_add_mod ((m.log2 + 1022) * 2 ^ 52 + sig m) (2 ^ 52)
    omega
  have hsw := sgn
  have hin := inf
  have hb0 : 0 < double.binade := by rw [bin]; exact Nat.two_pow_pos _
  have hsb : double.binade ≤ sig m := by rw [bin]; exact hs.1
  generalize rung m = r at *
  unfold Format.read Format.word
  rw [hsw] at *
  rw [least]
  generalize double.binade = B at *
  generalize double.infRung = I at *
  have hneg : ((if neg = true then 2048 * B + r else r) / (2048 * B) % 2 == 1) = neg := by
    cases neg
    · rw [if_neg (by simp), Nat.div_eq_of_lt (by omega)]; rfl
    · rw [if_pos rfl, Nat.add_comm, Nat.add_div_right _ (by omega), Nat.div_eq_of_lt (by omega)]; rfl
  have hrung : (if neg = true then 2048 * B + r else r) % (2048 * B) = r := by
    cases neg
    · rw [if_neg (by simp)]; exact Nat.mod_eq_of_lt (by omega)
    · rw [if_pos rfl, Nat.add_comm, Nat.add_mod_right]; exact Nat.mod_eq_of_lt (by omega)
  simp only [hneg, hrung]
  rw [if_neg (by omega), if_pos (by omega), hd.1, hd.2]
  have e1 : B + (sig m - B) = sig m := by omega
  have e2 : (-1074 + ((m.log2 + 1023 - 1 : Nat) : Int)) = (m.log2 : Int) - 52 := by omega
  rw [e1, e2]

theorem fb_pos {m : Nat} (hm : m ≠ 0) (h : m < 2 ^ 53) : floatOfInt .f64 (m : Int) = double.word false (rung m) := by
  have := nearest_eq false hm h 0
  rw [Nat.pow_zero, Nat.mul_one] at this
  unfold floatOfInt FloatKind.nearest FloatKind.encode FloatKind.format Format.write
  rw [← this]
  have e1 : decide ((m : Int) < 0) = false := by simp
  rw [e1, Int.natAbs_natCast]; rfl

theorem fb_zero : floatOfInt .f64 0 = 0 := by decide
theorem read_zero : double.read 0 = .number false 0 (-1074) := by decide

theorem toInt_sig {m : Nat} (hm : m ≠ 0) (h : m < 2 ^ 53) : (Datum.number false (sig m) ((m.log2 : Int) - 52)).toInt .zero = some (m : Int) := by
  have hl := log_lt hm h
  unfold Datum.toInt Datum.integral
  have e1 : ((m.log2 : Int) - 52).toNat = 0 := by omega
  have e2 : (-((m.log2 : Int) - 52)).toNat = 52 - m.log2 := by omega
  simp only [e1, e2, Nat.shiftLeft_zero]
  have hc : Toward.zero.cut false (sig m) (52 - m.log2) = m := by unfold sig; exact cut_exact .zero false m _ hm
  rw [hc]
  simp [signed]

/-- **'int64(float64(n))' is n.** -/
theorem toInt_fb {n : Int} (h0 : 0 ≤ n) (h : n < 2 ^ 53) : (FloatKind.f64.decode (floatOfInt .f64 n)).toInt .zero = some n := by
  obtain ⟨m, rfl⟩ := Int.eq_ofNat_of_zero_le h0
  by_cases hm : m = 0
  · subst hm; decide
  · have hlt : m < 2 ^ 53 := by omega
    rw [fb_pos hm hlt]
    unfold FloatKind.decode FloatKind.format
    simp only [read_word false hm hlt]
    exact toInt_sig hm hlt

theorem floatToInt_fb {n : Int} (h0 : 0 ≤ n) (h : n < 2 ^ 53) : floatToIntVal .f64 (floatOfInt .f64 n) .i64 = some n := by
  unfold floatToIntVal
  rw [toInt_fb h0 h]
  have e1 : IntKind.i64.min = -9223372036854775808 := rfl
  have e2 : IntKind.i64.max = 9223372036854775807 := rfl
  dsimp only
  rw [if_pos (by rw [e1, e2]; omega)]

theorem sig_shift {m q : Nat} (hq : 52 - m.log2 ≤ q) : sig m <<< (q - (52 - m.log2)) = m * 2 ^ q := by
  rw [Nat.shiftLeft_eq]; unfold sig; rw [Nat.mul_assoc, ← Nat.pow_add]
  have : 52 - m.log2 + (q - (52 - m.log2)) = q := by omega
  rw [this]

theorem sum_sig {m n : Nat} (hm : m ≠ 0) (hm' : m < 2 ^ 53) (hn : n ≠ 0) (hn' : n < 2 ^ 53) (hle : n ≤ m) :
    ∃ e : Nat, (Datum.number false (sig m) ((m.log2 : Int) - 52)).sum (Datum.number true (sig n) ((n.log2 : Int) - 52)) = some (.number false ((m - n) * 2 ^ e) (-(e : Int))) := by
  have hl := log_lt hm hm'
  have hk := log_lt hn hn'
  refine ⟨52 - min m.log2 n.log2, ?_⟩
  unfold Datum.sum
  dsimp only
  have hb : min ((m.log2 : Int) - 52) ((n.log2 : Int) - 52) = -((52 - min m.log2 n.log2 : Nat) : Int) := by omega
  rw [hb]
  generalize hq : 52 - min m.log2 n.log2 = q
  have e1 : ((m.log2 : Int) - 52 - -(q : Int)).toNat = q - (52 - m.log2) := by omega
  have e2 : ((n.log2 : Int) - 52 - -(q : Int)).toNat = q - (52 - n.log2) := by omega
  rw [e1, e2]
  unfold signed
  rw [sig_shift (by omega), sig_shift (by omega)]
  have hd : (m - n) * 2 ^ q = m * 2 ^ q - n * 2 ^ q := Nat.sub_mul _ _ _
  have hle' : n * 2 ^ q ≤ m * 2 ^ q := Nat.mul_le_mul_right _ hle
  generalize m * 2 ^ q = a at *
  generalize n * 2 ^ q = b at *
  have ht : ((a : Int) + -(b : Int)) = (((m - n) * 2 ^ q : Nat) : Int) := by omega
  have f1 : (if false = true then -(a : Int) else (a : Int)) = a := rfl
  have f2 : (if true = true then -(b : Int) else (b : Int)) = -b := rfl
  rw [f1, f2, ht, Int.natAbs_natCast]
  have hs : (if (((m - n) * 2 ^ q : Nat) : Int) = 0 then false && true else decide ((((m - n) * 2 ^ q : Nat) : Int) < 0)) = false := by
    by_cases hz : (((m - n) * 2 ^ q : Nat) : Int) = 0
    · rw [if_pos hz]; rfl
    · rw [if_neg hz]; exact decide_eq_false (by omega)
  rw [hs]

theorem sum_zero {a : Nat} (ha0 : a ≠ 0) (ha : a < 2 ^ 53) (p : Nat) (hp : 52 ≤ p) :
    (Datum.number false (sig a) ((a.log2 : Int) - 52)).sum (Datum.number true 0 (-(p : Int))) = some (.number false (a * 2 ^ p) (-(p : Int))) := by
  have hl := log_lt ha0 ha
  unfold Datum.sum
  dsimp only
  have hb : min ((a.log2 : Int) - 52) (-(p : Int)) = -(p : Int) := by omega
  rw [hb]
  have e1 : ((a.log2 : Int) - 52 - -(p : Int)).toNat = p - (52 - a.log2) := by omega
  rw [e1]
  have s1 : signed false (sig a) (p - (52 - a.log2)) = ((a * 2 ^ p : Nat) : Int) := by
    unfold signed
    rw [if_neg (by simp), sig_shift (by omega)]
  have s2 : ∀ k, signed true 0 k = 0 := by intro k; unfold signed; simp
  have hpos : 0 < a * 2 ^ p := Nat.mul_pos (by omega) (Nat.two_pow_pos _)
  rw [s1, s2, Int.add_zero]
  generalize a * 2 ^ p = x at *
  rw [if_neg (by omega), Int.natAbs_natCast, decide_eq_false (by omega)]

/-- **'float64(m) - float64(n)' is 'float64(m - n)'.** -/
theorem sub_fb {m n : Int} (h0 : 0 ≤ n) (h1 : n ≤ m) (h : m < 2 ^ 53) : floatBits .sub .f64 (floatOfInt .f64 m) (floatOfInt .f64 n) = some (floatOfInt .f64 (m - n)) := by
  obtain ⟨b, rfl⟩ := Int.eq_ofNat_of_zero_le h0
  obtain ⟨a, rfl⟩ := Int.eq_ofNat_of_zero_le (Int.le_trans h0 h1)
  have hab : b ≤ a := by omega
  have ha : a < 2 ^ 53 := by omega
  have hsub : ((a : Int) - (b : Int)) = ((a - b : Nat) : Int) := by omega
  rw [hsub]
  unfold floatBits Format.sub
  show Option.map double.write ((double.read (floatOfInt .f64 a)).sum (double.read (floatOfInt .f64 b)).opposite) = _
  by_cases hb : b = 0
  · subst hb
    by_cases ha0 : a = 0
    · subst ha0; decide
    · rw [fb_pos ha0 ha, read_word false ha0 ha]
      have hz : (double.read (floatOfInt .f64 ((0 : Nat) : Int))).opposite = Datum.number true 0 (-((1074 : Nat) : Int)) := by decide
      rw [hz, sum_zero ha0 ha 1074 (by omega)]
      simp only [Option.map_some, Format.write]
      rw [nearest_eq false ha0 ha 1074, Nat.sub_zero, fb_pos ha0 ha]
  · have hb' : b < 2 ^ 53 := by omega
    have ha0 : a ≠ 0 := by omega
    rw [fb_pos ha0 ha, fb_pos hb hb', read_word false ha0 ha, read_word false hb hb']
    obtain ⟨e, he⟩ := sum_sig ha0 ha hb hb' hab
    have hop : (Datum.number false (sig b) ((b.log2 : Int) - 52)).opposite = Datum.number true (sig b) ((b.log2 : Int) - 52) := rfl
    rw [hop, he]
    simp only [Option.map_some, Format.write]
    by_cases hz : a - b = 0
    · rw [hz, Nat.zero_mul]
      unfold Format.nearest
      rw [if_pos rfl]
      decide
    · rw [nearest_eq false hz (by omega) e, fb_pos hz (by omega)]

end Go.Proofs.Ytnjifmoclfgegaa.Fx
