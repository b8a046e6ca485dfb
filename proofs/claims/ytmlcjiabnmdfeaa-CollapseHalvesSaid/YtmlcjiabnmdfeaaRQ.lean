/- The reference's Half and side. -/
import Derived.Test.YtmlcjiabnmdfeaaY
namespace Go.Proofs.Ytmlcjiabnmdfeaa
open Go Go.RowKit Go.Shelf CT
set_option linter.unusedVariables false

theorem c59 (n : Int) (first : Bool) (w : World) (hn : n ≤ 9223372036854775807) : Calls Try.prog 59 #[.int .i64 n, .bool first] w fun e w' => e = .returned (.int .i64 (CT.half n first)) ∧ w = w' := by
  by_cases h : n < 0
  · have hh : CT.half n first = 0 := by unfold CT.half; rw [if_pos h]
    have Hh := Lib.hid hh
    clear hh
    go_enter Try.func59, Try.ntmps59
    go_wp2
    go_ret
    rw [Hh.out]
    exact ⟨rfl, rfl⟩
  · exact CT.c13 n first w (by omega) hn
/-- does an edge lie on one side? -/
def onR (lies : Bool) (line fr to : Int) (x : Edge) : Bool := (x.lies == lies) && (if lies = true then (x.row == line) && (decide (fr ≤ x.col) && decide (x.col < to)) else (x.col == line) && (decide (fr ≤ x.row) && decide (x.row < to)))
def stepR (lies : Bool) (line fr to : Int) (fi : Bool) (m : Int) (x : Edge) : Int := if onR lies line fr to x = true then mx m (CT.half x.width fi) else m
def sideR (l : List Edge) (lies : Bool) (line fr to : Int) (fi : Bool) : Int := l.foldl (stepR lies line fr to fi) 0
theorem hit_on (b : Bx) (x : Edge) : hit b 0 x = onR true b.r b.c b.ce x ∧ hit b 1 x = onR false b.ce b.r b.re x ∧ hit b 2 x = onR true b.re b.c b.ce x ∧ hit b 3 x = onR false b.c b.r b.re x := by
  unfold hit onR inCols inRows
  cases x.lies
  · refine ⟨rfl, ?_, rfl, ?_⟩
    · simp [Bool.and_comm]
    · simp [Bool.and_comm]
  · refine ⟨?_, rfl, ?_, rfl⟩
    · simp [Bool.and_comm]
    · simp [Bool.and_comm]
theorem halves_side (l : List Edge) (b : Bx) (wi : Bool) : halves4 l b wi = ⟨sideR l true b.r b.c b.ce (true == wi), sideR l false b.ce b.r b.re (false == wi), sideR l true b.re b.c b.ce (false == wi), sideR l false b.c b.r b.re (true == wi)⟩ := by
  have key : ∀ k lies line fr to fi, (∀ x, hit b k x = onR lies line fr to x) → (firstS k == wi) = fi → halvesOf l b wi k = sideR l lies line fr to fi := fun k lies line fr to fi h1 h2 => by
    unfold halvesOf sideR
    congr 1
    funext m x
    unfold stepH stepR
    rw [h1, h2]
  unfold halves4
  rw [key 0 true b.r b.c b.ce (true == wi) (fun x => (hit_on b x).1) rfl, key 1 false b.ce b.r b.re (false == wi) (fun x => (hit_on b x).2.1) rfl, key 2 true b.re b.c b.ce (false == wi) (fun x => (hit_on b x).2.2.1) rfl, key 3 false b.c b.r b.re (true == wi) (fun x => (hit_on b x).2.2.2) rfl]
def sideTo (l : List Edge) (lies : Bool) (line fr to : Int) (fi : Bool) (k : Nat) : Int := (l.take k).foldl (stepR lies line fr to fi) 0
theorem sideTo_next {l : List Edge} {lies : Bool} {line fr to : Int} {fi : Bool} {k : Nat} (hk : k < l.length) : sideTo l lies line fr to fi (k + 1) = stepR lies line fr to fi (sideTo l lies line fr to fi k) (l[k]?.getD default) := by
  unfold sideTo
  rw [List.take_add_one, List.getElem?_eq_getElem hk, List.foldl_append]
  rfl

set_option maxRecDepth 100000 in
set_option maxHeartbeats 16000000 in
/-- the reference's side -/
theorem c38 (A : Option Addr) (l : List Edge) (cp : Nat) (lies : Bool) (line fr to : Int) (fi : Bool) (w : World) (hx : GR.Many Edge.cells 10 w A l) (hl : l.length ≤ 1000000) (hw : ∀ x ∈ l, x.width ≤ 9223372036854775807) :
    Calls Try.prog 38 #[.slice A l.length cp, .bool lies, .int .i64 line, .int .i64 fr, .int .i64 to, .bool fi] w fun e w' => e = .returned (.int .i64 (sideR l lies line fr to fi)) ∧ w = w' := by
  have HX := Lib.hid hx
  have HWD := Lib.hid hw
  obtain ⟨n, hn⟩ : ∃ n, l.length = n := ⟨_, rfl⟩
  have HN := Lib.hid hn
  have hn6 : n ≤ 1000000 := by omega
  have HALL : Hid (sideR l lies line fr to fi = sideTo l lies line fr to fi n) := Lib.hid (by unfold sideR sideTo; rw [← hn, List.take_length])
  obtain ⟨SR, hSR⟩ : ∃ x, sideR l lies line fr to fi = x := ⟨_, rfl⟩
  rw [hSR] at HALL ⊢
  rw [hn]
  clear hx hw hl hn hSR
  cases lies with
  | false =>
    go_enter Try.func38, Try.ntmps38
    go_wp2_with (fail)
    go_loopw [13, 14] (fun v a wr => ∃ k : Nat, k ≤ n ∧ a = .int .i64 k ∧ v = .int .i64 (sideTo l false line fr to fi k) ∧ w = wr) (fun _ a _ => n - (intOf a).toNat)
    case atStart => exact ⟨0, Nat.zero_le _, rfl, rfl, rfl⟩
    case round =>
      obtain ⟨k, hk, rfl, rfl, rfl⟩ := hrel
      by_cases hlt : k < n
      · have ti : decide ((k : Int) < (n : Int)) = true := decide_eq_true (by omega)
        obtain ⟨x, b, off, hxk, hA, hat, _⟩ := HX.out.get k (by rw [HN.out]; exact hlt)
        subst hA
        have hnx := sideTo_next (l := l) (lies := false) (line := line) (fr := fr) (to := to) (fi := fi) (k := k) (by rw [HN.out]; exact hlt)
        rw [hxk.out] at hnx
        have hwx : x.width ≤ 9223372036854775807 := HWD.out x (by
          have hlt' : k < l.length := by rw [HN.out]; exact hlt
          have h1 := hxk.out
          rw [List.getElem?_eq_getElem hlt'] at h1
          exact h1 ▸ List.getElem_mem hlt')
        have H59 := Lib.hid fun W => c59 x.width fi W hwx
        obtain ⟨m0, hm0⟩ : ∃ q, sideTo l false line fr to fi k = q := ⟨_, rfl⟩
        rw [hm0] at hnx
        rw [hm0]
        unfold stepR at hnx
        obtain ⟨e0, e1, e2, e3, e4, e5, e6, e7, e8, e9⟩ := x
        dsimp only at hnx H59
        obtain ⟨hh, hhh⟩ : ∃ q, CT.half e4 fi = q := ⟨_, rfl⟩
        rw [hhh] at hnx H59
        have g0 : w.cell? ⟨b, off + k * 10, none⟩ = some (.int .i64 e0) := hat 0 _ rfl
        have g1 : w.cell? ⟨b, off + k * 10 + 1, none⟩ = some (.int .i64 e1) := hat 1 _ rfl
        have g2 : w.cell? ⟨b, off + k * 10 + 2, none⟩ = some (.bool e2) := hat 2 _ rfl
        have g4 : w.cell? ⟨b, off + k * 10 + 4, none⟩ = some (.int .i64 e4) := hat 4 _ rfl
        have f9 : IntKind.i64.wrap ((k : Int) + 1) = (k : Int) + 1 := IntWalk.i64_in _ (by omega)
        have HNX := Lib.hid hnx
        clear hat hxk hnx hwx hm0 hhh
        obtain ⟨b1, hb1⟩ : ∃ q, (e1 == line) = q := ⟨_, rfl⟩
        obtain ⟨b2, hb2⟩ : ∃ q, decide (fr ≤ e0) = q := ⟨_, rfl⟩
        obtain ⟨b3, hb3⟩ : ∃ q, decide (e0 < to) = q := ⟨_, rfl⟩
        have HON : Hid (onR false line fr to ⟨e0, e1, e2, e3, e4, e5, e6, e7, e8, e9⟩ = ((e2 == false) && (b1 && (b2 && b3)))) := Lib.hid (by unfold onR; simp only [hb1, hb2, hb3]; rfl)
        cases e2 with
        | true =>
          clear hb1 hb2 hb3
          have hon : onR false line fr to ⟨e0, e1, true, e3, e4, e5, e6, e7, e8, e9⟩ = false := by rw [HON.out]; rfl
          have hnx := HNX.out
          rw [hon, if_neg (by decide)] at hnx
          have HNX := Lib.hid hnx
          clear hnx hon
          go_wp2_with (fail)
          go_roundw
          case rel => exact ⟨k + 1, by omega, by go_num, by rw [HNX.out], by first | trivial | rfl⟩
          case measure => simp [intOf]; omega
        | false =>
          cases b1 with
          | false =>
            clear hb2 hb3
            have hon : onR false line fr to ⟨e0, e1, false, e3, e4, e5, e6, e7, e8, e9⟩ = false := by rw [HON.out]; rfl
            have hnx := HNX.out
            rw [hon, if_neg (by decide)] at hnx
            have HNX := Lib.hid hnx
            clear hnx hon
            go_wp2_with (fail)
            go_roundw
            case rel => exact ⟨k + 1, by omega, by go_num, by rw [HNX.out], by first | trivial | rfl⟩
            case measure => simp [intOf]; omega
          | true =>
            cases b2 with
            | false =>
              clear hb3
              have hon : onR false line fr to ⟨e0, e1, false, e3, e4, e5, e6, e7, e8, e9⟩ = false := by rw [HON.out]; rfl
              have hnx := HNX.out
              rw [hon, if_neg (by decide)] at hnx
              have HNX := Lib.hid hnx
              clear hnx hon
              go_wp2_with (fail)
              go_roundw
              case rel => exact ⟨k + 1, by omega, by go_num, by rw [HNX.out], by first | trivial | rfl⟩
              case measure => simp [intOf]; omega
            | true =>
              cases b3 with
              | false =>
                have hon : onR false line fr to ⟨e0, e1, false, e3, e4, e5, e6, e7, e8, e9⟩ = false := by rw [HON.out]; rfl
                have hnx := HNX.out
                rw [hon, if_neg (by decide)] at hnx
                have HNX := Lib.hid hnx
                clear hnx hon
                go_wp2_with (fail)
                go_roundw
                case rel => exact ⟨k + 1, by omega, by go_num, by rw [HNX.out], by first | trivial | rfl⟩
                case measure => simp [intOf]; omega
              | true =>
                have hon : onR false line fr to ⟨e0, e1, false, e3, e4, e5, e6, e7, e8, e9⟩ = true := by rw [HON.out]; rfl
                have hnx := HNX.out
                rw [hon, if_pos rfl] at hnx
                have HNX := Lib.hid hnx
                clear hnx hon
                go_wp2_with (fail)
                refine (H59.out w).mono ?_
                rintro e _ ⟨rfl, rfl⟩
                obtain ⟨mm, hmm⟩ : ∃ q, (if m0 < hh then hh else m0) = q := ⟨_, rfl⟩
                have HMM : Hid (mx m0 hh = mm) := Lib.hid hmm
                by_cases hc : m0 < hh
                · have tc : (m0 < hh) = True := eq_true hc
                  obtain rfl : mm = hh := by rw [← hmm, if_pos hc]
                  clear hmm hc
                  go_wp2_with (fail)
                  go_roundw
                  case rel => exact ⟨k + 1, by omega, by go_num, by rw [HNX.out, HMM.out], by first | trivial | rfl⟩
                  case measure => simp [intOf]; omega
                · have tc : (m0 < hh) = False := eq_false hc
                  obtain rfl : mm = m0 := by rw [← hmm, if_neg hc]
                  clear hmm hc
                  go_wp2_with (fail)
                  go_roundw
                  case rel => exact ⟨k + 1, by omega, by go_num, by rw [HNX.out, HMM.out], by first | trivial | rfl⟩
                  case measure => simp [intOf]; omega
      · obtain rfl : k = n := by omega
        have ti : decide ((k : Int) < (k : Int)) = false := decide_eq_false (by omega)
        go_wp2_with (fail)
        go_ret
        exact ⟨by rw [HALL.out]; rfl, rfl⟩
  | true =>
    go_enter Try.func38, Try.ntmps38
    go_wp2_with (fail)
    go_loopw [13, 14] (fun v a wr => ∃ k : Nat, k ≤ n ∧ a = .int .i64 k ∧ v = .int .i64 (sideTo l true line fr to fi k) ∧ w = wr) (fun _ a _ => n - (intOf a).toNat)
    case atStart => exact ⟨0, Nat.zero_le _, rfl, rfl, rfl⟩
    case round =>
      obtain ⟨k, hk, rfl, rfl, rfl⟩ := hrel
      by_cases hlt : k < n
      · have ti : decide ((k : Int) < (n : Int)) = true := decide_eq_true (by omega)
        obtain ⟨x, b, off, hxk, hA, hat, _⟩ := HX.out.get k (by rw [HN.out]; exact hlt)
        subst hA
        have hnx := sideTo_next (l := l) (lies := true) (line := line) (fr := fr) (to := to) (fi := fi) (k := k) (by rw [HN.out]; exact hlt)
        rw [hxk.out] at hnx
        have hwx : x.width ≤ 9223372036854775807 := HWD.out x (by
          have hlt' : k < l.length := by rw [HN.out]; exact hlt
          have h1 := hxk.out
          rw [List.getElem?_eq_getElem hlt'] at h1
          exact h1 ▸ List.getElem_mem hlt')
        have H59 := Lib.hid fun W => c59 x.width fi W hwx
        obtain ⟨m0, hm0⟩ : ∃ q, sideTo l true line fr to fi k = q := ⟨_, rfl⟩
        rw [hm0] at hnx
        rw [hm0]
        unfold stepR at hnx
        obtain ⟨e0, e1, e2, e3, e4, e5, e6, e7, e8, e9⟩ := x
        dsimp only at hnx H59
        obtain ⟨hh, hhh⟩ : ∃ q, CT.half e4 fi = q := ⟨_, rfl⟩
        rw [hhh] at hnx H59
        have g0 : w.cell? ⟨b, off + k * 10, none⟩ = some (.int .i64 e0) := hat 0 _ rfl
        have g1 : w.cell? ⟨b, off + k * 10 + 1, none⟩ = some (.int .i64 e1) := hat 1 _ rfl
        have g2 : w.cell? ⟨b, off + k * 10 + 2, none⟩ = some (.bool e2) := hat 2 _ rfl
        have g4 : w.cell? ⟨b, off + k * 10 + 4, none⟩ = some (.int .i64 e4) := hat 4 _ rfl
        have f9 : IntKind.i64.wrap ((k : Int) + 1) = (k : Int) + 1 := IntWalk.i64_in _ (by omega)
        have HNX := Lib.hid hnx
        clear hat hxk hnx hwx hm0 hhh
        obtain ⟨b1, hb1⟩ : ∃ q, (e0 == line) = q := ⟨_, rfl⟩
        obtain ⟨b2, hb2⟩ : ∃ q, decide (fr ≤ e1) = q := ⟨_, rfl⟩
        obtain ⟨b3, hb3⟩ : ∃ q, decide (e1 < to) = q := ⟨_, rfl⟩
        have HON : Hid (onR true line fr to ⟨e0, e1, e2, e3, e4, e5, e6, e7, e8, e9⟩ = ((e2 == true) && (b1 && (b2 && b3)))) := Lib.hid (by unfold onR; simp only [hb1, hb2, hb3]; rfl)
        cases e2 with
        | false =>
          clear hb1 hb2 hb3
          have hon : onR true line fr to ⟨e0, e1, false, e3, e4, e5, e6, e7, e8, e9⟩ = false := by rw [HON.out]; rfl
          have hnx := HNX.out
          rw [hon, if_neg (by decide)] at hnx
          have HNX := Lib.hid hnx
          clear hnx hon
          go_wp2_with (fail)
          go_roundw
          case rel => exact ⟨k + 1, by omega, by go_num, by rw [HNX.out], by first | trivial | rfl⟩
          case measure => simp [intOf]; omega
        | true =>
          cases b1 with
          | false =>
            clear hb2 hb3
            have hon : onR true line fr to ⟨e0, e1, true, e3, e4, e5, e6, e7, e8, e9⟩ = false := by rw [HON.out]; rfl
            have hnx := HNX.out
            rw [hon, if_neg (by decide)] at hnx
            have HNX := Lib.hid hnx
            clear hnx hon
            go_wp2_with (fail)
            go_roundw
            case rel => exact ⟨k + 1, by omega, by go_num, by rw [HNX.out], by first | trivial | rfl⟩
            case measure => simp [intOf]; omega
          | true =>
            cases b2 with
            | false =>
              clear hb3
              have hon : onR true line fr to ⟨e0, e1, true, e3, e4, e5, e6, e7, e8, e9⟩ = false := by rw [HON.out]; rfl
              have hnx := HNX.out
              rw [hon, if_neg (by decide)] at hnx
              have HNX := Lib.hid hnx
              clear hnx hon
              go_wp2_with (fail)
              go_roundw
              case rel => exact ⟨k + 1, by omega, by go_num, by rw [HNX.out], by first | trivial | rfl⟩
              case measure => simp [intOf]; omega
            | true =>
              cases b3 with
              | false =>
                have hon : onR true line fr to ⟨e0, e1, true, e3, e4, e5, e6, e7, e8, e9⟩ = false := by rw [HON.out]; rfl
                have hnx := HNX.out
                rw [hon, if_neg (by decide)] at hnx
                have HNX := Lib.hid hnx
                clear hnx hon
                go_wp2_with (fail)
                go_roundw
                case rel => exact ⟨k + 1, by omega, by go_num, by rw [HNX.out], by first | trivial | rfl⟩
                case measure => simp [intOf]; omega
              | true =>
                have hon : onR true line fr to ⟨e0, e1, true, e3, e4, e5, e6, e7, e8, e9⟩ = true := by rw [HON.out]; rfl
                have hnx := HNX.out
                rw [hon, if_pos rfl] at hnx
                have HNX := Lib.hid hnx
                clear hnx hon
                go_wp2_with (fail)
                refine (H59.out w).mono ?_
                rintro e _ ⟨rfl, rfl⟩
                obtain ⟨mm, hmm⟩ : ∃ q, (if m0 < hh then hh else m0) = q := ⟨_, rfl⟩
                have HMM : Hid (mx m0 hh = mm) := Lib.hid hmm
                by_cases hc : m0 < hh
                · have tc : (m0 < hh) = True := eq_true hc
                  obtain rfl : mm = hh := by rw [← hmm, if_pos hc]
                  clear hmm hc
                  go_wp2_with (fail)
                  go_roundw
                  case rel => exact ⟨k + 1, by omega, by go_num, by rw [HNX.out, HMM.out], by first | trivial | rfl⟩
                  case measure => simp [intOf]; omega
                · have tc : (m0 < hh) = False := eq_false hc
                  obtain rfl : mm = m0 := by rw [← hmm, if_neg hc]
                  clear hmm hc
                  go_wp2_with (fail)
                  go_roundw
                  case rel => exact ⟨k + 1, by omega, by go_num, by rw [HNX.out, HMM.out], by first | trivial | rfl⟩
                  case measure => simp [intOf]; omega
      · obtain rfl : k = n := by omega
        have ti : decide ((k : Int) < (k : Int)) = false := decide_eq_false (by omega)
        go_wp2_with (fail)
        go_ret
        exact ⟨by rw [HALL.out]; rfl, rfl⟩
end Go.Proofs.Ytmlcjiabnmdfeaa
