/- Chapter 5: the reader over lists of bytes: what text tells what value, and how such a text is read. -/
import Derived.Test.YtciigmlibnpeeaaDoorQx4
namespace Go.Proofs.YtciigmlibnpeeaaDoor.Pl
open Go.RowKit Go.Proofs.YtciigmlibnpeeaaDoor.Q Go.Proofs.YtciigmlibnpeeaaDoor.Sf Go.Proofs.YtciigmlibnpeeaaDoorW.PrintWords Go.Proofs.YtciigmlibnpeeaaDoorW.PrintLast
set_option linter.unusedVariables false
set_option linter.unusedSimpArgs false
def L (s : ByteArray) : List UInt8 := s.data.toList
def B (l : List UInt8) : ByteArray := ⟨l.toArray⟩
theorem L_B (l : List UInt8) : L (B l) = l := by simp [L, B]
theorem B_L (s : ByteArray) : B (L s) = s := by apply ByteArray.ext; simp [L, B]
theorem L_inj {a b : ByteArray} (h : L a = L b) : a = b := by rw [← B_L a, h, B_L]
theorem L_app (a b : ByteArray) : L (a ++ b) = L a ++ L b := by unfold L; simp
theorem size_L (s : ByteArray) : s.size = (L s).length := Lib.size_eq s
theorem L_tl (s : ByteArray) : L (tl s) = (L s).tail := by
  unfold L tl
  rw [Lib.extract_data, Lib.size_eq]
  rw [List.take_of_length_le (by simp), List.drop_one]
theorem bt0 {s : ByteArray} {c : UInt8} {r : List UInt8} (h : L s = c :: r) : bt s 0 = (c.toNat : Int) := by
  have hl : 0 < s.data.toList.length := by show 0 < (L s).length; rw [h]; simp
  have := bt_list s 0 hl
  have e : s.data.toList[0] = c := by
    have h2 : s.data.toList = c :: r := h
    simp [h2]
  rw [e] at this
  exact this
theorem size_pos {s : ByteArray} {c : UInt8} {r : List UInt8} (h : L s = c :: r) : 0 < s.size := by rw [size_L, h]; simp
theorem size_nil {s : ByteArray} (h : L s = []) : ¬ 0 < s.size := by rw [size_L, h]; simp
theorem atF_cons {s : ByteArray} {c : UInt8} {r : List UInt8} (h : L s = c :: r) (n : Int) : atF s n = decide ((c.toNat : Int) = n) := by
  unfold atF; rw [bt0 h]; simp [size_pos h]
theorem atF_nil {s : ByteArray} (h : L s = []) (n : Int) : atF s n = false := by
  unfold atF; simp [size_nil h]
theorem atF_ex {s : ByteArray} {n : Int} (h : atF s n = true) : ∃ c r, L s = c :: r ∧ (c.toNat : Int) = n := by
  cases e : L s with
  | nil => rw [atF_nil e] at h; cases h
  | cons c r => rw [atF_cons e] at h; exact ⟨c, r, rfl, of_decide_eq_true h⟩
theorem L_tak (p : Int → Bool) (s : ByteArray) : L (takB p s) = (L s).takeWhile (fun c => p c.toNat) := tak_data p s
theorem L_drp (p : Int → Bool) (s : ByteArray) : L (drpB p s) = (L s).dropWhile (fun c => p c.toNat) := by
  have h1 : L (drpB p s) = (L s).drop (spanB p s) := by
    unfold L drpB
    rw [Lib.extract_data, Lib.size_eq]
    rw [List.take_of_length_le (by simp)]
  rw [h1]
  have h2 : spanB p s = ((L s).takeWhile (fun c => p c.toNat)).length := rfl
  rw [h2]
  generalize (fun c : UInt8 => p c.toNat) = q
  induction L s with
  | nil => rfl
  | cons x l ih => rw [List.takeWhile_cons, List.dropWhile_cons]; split <;> simp [*]
theorem takeW_app {α : Type} (q : α → Bool) : ∀ (w r : List α), (∀ c ∈ w, q c = true) → (∀ c r', r = c :: r' → q c = false) → (w ++ r).takeWhile q = w ∧ (w ++ r).dropWhile q = r
  | [], r, _, h2 => by
    cases r with
    | nil => exact ⟨rfl, rfl⟩
    | cons c r' => rw [List.nil_append, List.takeWhile_cons, List.dropWhile_cons, h2 c r' rfl]; exact ⟨rfl, rfl⟩
  | x :: w, r, h1, h2 => by
    have ih := takeW_app q w r (fun c hc => h1 c (List.mem_cons_of_mem _ hc)) h2
    rw [List.cons_append, List.takeWhile_cons, List.dropWhile_cons, h1 x (List.mem_cons_self ..)]
    simp only [if_true]
    rw [ih.1, ih.2]; exact ⟨rfl, rfl⟩
theorem span_split {α : Type} (q : α → Bool) (l : List α) : l.takeWhile q ++ l.dropWhile q = l := List.takeWhile_append_dropWhile
theorem dropW_head {α : Type} (q : α → Bool) : ∀ (l : List α) (c : α) (r : List α), l.dropWhile q = c :: r → q c = false
  | x :: l, c, r, h => by
    rw [List.dropWhile_cons] at h
    by_cases hx : q x = true
    · rw [if_pos hx] at h; exact dropW_head q l c r h
    · rw [if_neg hx] at h; obtain ⟨rfl, rfl⟩ := List.cons.inj h; exact Bool.eq_false_iff.mpr hx
theorem allU (P : UInt8 → Bool) (h : (List.range 256).all (fun n => P (UInt8.ofNat n)) = true) (c : UInt8) : P c = true := by
  have hc : c.toNat < 256 := c.toNat_lt
  have := List.all_eq_true.1 h c.toNat (List.mem_range.2 hc)
  simpa using this
/-- A row of digits' number. -/
def numL (l : List UInt8) : Nat := l.foldl (fun a c => a * 10 + (c.toNat - 48)) 0
theorem numV_L (s : ByteArray) : numV s = numL (L s) := rfl
def zerL (n : Nat) : List UInt8 := ([48, 48, 48] : List UInt8).drop n
theorem zer_L (n : Nat) : L (zer n) = zerL n := by
  unfold L zer
  rw [Lib.extract_data]
  show List.take (3 - n) (List.drop n [48, 48, 48]) = zerL n
  rw [List.take_of_length_le (by simp)]; rfl
def dgU (c : UInt8) : Bool := dgP c.toNat
def toU (c : UInt8) : Bool := tokP c.toNat
def baU (c : UInt8) : Bool := baP c.toNat
def keU (c : UInt8) : Bool := keP c.toNat
/-- What bytes between quotes tell what text. -/
inductive QT : List UInt8 → List UInt8 → Prop
  | stop : QT [34] []
  | plain (c : UInt8) (q t : List UInt8) (h1 : 32 ≤ c.toNat) (h2 : c.toNat ≤ 126) (h3 : c.toNat ≠ 34) (h4 : c.toNat ≠ 92) (h : QT q t) : QT (c :: q) (c :: t)
  | esc (c : UInt8) (q t : List UInt8) (h1 : c.toNat = 34 ∨ c.toNat = 92) (h : QT q t) : QT (92 :: c :: q) (c :: t)
def sgV (sg : List UInt8) : Int := if sg = [] then 1 else -1
/-- What text tells what value. -/
inductive VT : List UInt8 → Int → Int → List UInt8 → Prop
  | int (sg w : List UInt8) (h0 : sg = [] ∨ sg = [45]) (h1 : w ≠ []) (h2 : ∀ c ∈ w, dgU c = true) (h3 : w.length ≤ 15) : VT (sg ++ w) 1 (sgV sg * (numL w : Int)) []
  | dec (sg w p : List UInt8) (h0 : sg = [] ∨ sg = [45]) (h1 : w ≠ []) (h2 : ∀ c ∈ w, dgU c = true) (h3 : w.length ≤ 12) (h4 : p ≠ []) (h5 : ∀ c ∈ p, dgU c = true) (h6 : p.length ≤ 3) : VT (sg ++ (w ++ 46 :: p)) 2 (sgV sg * (numL (w ++ (p ++ zerL p.length)) : Int)) []
  | tok (c : UInt8) (w : List UInt8) (h0 : leP c.toNat = true ∨ (c.toNat : Int) = 42) (h1 : ∀ x ∈ c :: w, toU x = true) : VT (c :: w) 4 0 (c :: w)
  | quo (q t : List UInt8) (h : QT q t) : VT (34 :: q) 3 0 t
  | byt (w : List UInt8) (h : ∀ c ∈ w, baU c = true) : VT (58 :: (w ++ [58])) 5 0 w
  | one : VT [63, 49] 6 1 []
  | zero : VT [63, 48] 6 0 []
/-- What text tells what key. -/
def KT (k : List UInt8) : Prop := ∃ c w, k = c :: w ∧ (smP c.toNat = true ∨ (c.toNat : Int) = 42) ∧ ∀ x ∈ k, keU x = true
/-- A rest behind which nothing is lost. -/
def Ends (r : List UInt8) : Prop := ∀ c r', r = c :: r' → c = 59
theorem Ends.nil : Ends [] := fun _ _ h => by cases h
theorem Ends.semi (r : List UInt8) : Ends (59 :: r) := fun _ _ h => by cases h; rfl
theorem Ends.not {q : UInt8 → Bool} {r : List UInt8} (h : Ends r) (hq : q 59 = false) : ∀ c r', r = c :: r' → q c = false := fun c r' e => by rw [h c r' e]; exact hq
theorem Ends.app {a b : List UInt8} (ha : Ends a) (hb : Ends b) : Ends (a ++ b) := by
  intro c r' e
  cases a with
  | nil => exact hb c r' e
  | cons x a => simp only [List.cons_append, List.cons.injEq] at e; obtain ⟨rfl, _⟩ := e; exact ha _ _ rfl
set_option maxRecDepth 100000 in
theorem digU_59 : dgU 59 = false := by decide
set_option maxRecDepth 100000 in
theorem tokU_59 : toU 59 = false := by decide +kernel
set_option maxRecDepth 100000 in
theorem keyU_59 : keU 59 = false := by decide +kernel
theorem dg_ne {c : UInt8} (h : dgU c = true) : 48 ≤ c.toNat ∧ c.toNat ≤ 57 := by
  unfold dgU dgP at h; have := of_decide_eq_true h; omega
/-! ### Numbers -/
theorem number_read (sg w r : List UInt8) (s : ByteArray) (h0 : sg = [] ∨ sg = [45]) (h1 : w ≠ []) (h2 : ∀ c ∈ w, dgU c = true) (hr : ∀ c r', r = c :: r' → dgU c = false) (e : L s = sg ++ (w ++ r)) :
    sgn s = sgV sg ∧ L (takB dgP (atR s 45)) = w ∧ L (drpB dgP (atR s 45)) = r := by
  have key : ∀ t : ByteArray, L t = w ++ r → L (takB dgP t) = w ∧ L (drpB dgP t) = r := fun t et => by
    rw [L_tak, L_drp, et]
    exact takeW_app (fun c : UInt8 => dgP c.toNat) w r h2 hr
  rcases h0 with rfl | rfl
  · obtain ⟨c, w', rfl⟩ := List.exists_cons_of_ne_nil h1
    have hc := dg_ne (h2 c (List.mem_cons_self ..))
    have e1 : L s = c :: (w' ++ r) := e
    have e2 : atF s 45 = false := by rw [atF_cons e1]; exact decide_eq_false (by omega)
    have e3 : atR s 45 = s := by unfold atR; rw [e2]; rfl
    refine ⟨by unfold sgn; rw [e2]; rfl, ?_⟩
    rw [e3]; exact key s e
  · have e1 : L s = 45 :: (w ++ r) := e
    have e2 : atF s 45 = true := by rw [atF_cons e1]; rfl
    have e3 : atR s 45 = tl s := by unfold atR; rw [e2]; rfl
    refine ⟨by unfold sgn; rw [e2]; rfl, ?_⟩
    rw [e3]; exact key (tl s) (by rw [L_tl, e1]; rfl)
theorem int_read (sg w r : List UInt8) (s : ByteArray) (h0 : sg = [] ∨ sg = [45]) (h1 : w ≠ []) (h2 : ∀ c ∈ w, dgU c = true) (h3 : w.length ≤ 15) (hr : ∀ c r', r = c :: r' → dgU c = false) (hp : ∀ c r', r = c :: r' → c.toNat ≠ 46) (e : L s = sg ++ (w ++ r)) :
    rdNumber s = some ((1, sgV sg * (numL w : Int), ⟨#[]⟩), B r) := by
  obtain ⟨a, b, c⟩ := number_read sg w r s h0 h1 h2 hr e
  have a' : (if atF s 45 = true then (-1 : Int) else 1) = sgV sg := a
  unfold rdNumber
  simp only []
  have hw : ¬ (takB dgP (atR s 45)).size = 0 := by rw [size_L, b]; simpa using h1
  have hd : atF (drpB dgP (atR s 45)) 46 = false := by
    cases r with
    | nil => exact atF_nil c 46
    | cons x r' => rw [atF_cons c]; exact decide_eq_false (by have := hp x r' rfl; omega)
  have hl : ¬ (takB dgP (atR s 45)).size > 15 := by rw [size_L, b]; omega
  rw [if_neg hw, hd, if_neg (by decide), if_neg hl, a', numV_L, b]
  have : drpB dgP (atR s 45) = B r := L_inj (by rw [c, L_B])
  rw [this]
theorem dec_read (sg w p r : List UInt8) (s : ByteArray) (h0 : sg = [] ∨ sg = [45]) (h1 : w ≠ []) (h2 : ∀ c ∈ w, dgU c = true) (h3 : w.length ≤ 12) (h4 : p ≠ []) (h5 : ∀ c ∈ p, dgU c = true) (h6 : p.length ≤ 3)
    (hr : ∀ c r', r = c :: r' → dgU c = false) (e : L s = sg ++ (w ++ (46 :: (p ++ r)))) :
    rdNumber s = some ((2, sgV sg * (numL (w ++ (p ++ zerL p.length)) : Int), ⟨#[]⟩), B r) := by
  obtain ⟨a, b, c⟩ := number_read sg w (46 :: (p ++ r)) s h0 h1 h2 (fun c r' h => by cases h; decide) e
  have a' : (if atF s 45 = true then (-1 : Int) else 1) = sgV sg := a
  have hw : ¬ (takB dgP (atR s 45)).size = 0 := by rw [size_L, b]; simpa using h1
  have hd : atF (drpB dgP (atR s 45)) 46 = true := by rw [atF_cons c]; rfl
  have ht : L (tl (drpB dgP (atR s 45))) = p ++ r := by rw [L_tl, c]; rfl
  have hp := takeW_app (fun c : UInt8 => dgP c.toNat) p r h5 hr
  have f1 : L (takB dgP (tl (drpB dgP (atR s 45)))) = p := by rw [L_tak, ht]; exact hp.1
  have f2 : L (drpB dgP (tl (drpB dgP (atR s 45)))) = r := by rw [L_drp, ht]; exact hp.2
  have hn : ¬ ((takB dgP (atR s 45)).size > 12 ∨ (takB dgP (tl (drpB dgP (atR s 45)))).size = 0 ∨ (takB dgP (tl (drpB dgP (atR s 45)))).size > 3) := by
    rw [size_L, size_L, b, f1]
    have : p.length ≠ 0 := by simpa using h4
    omega
  unfold rdNumber
  simp only []
  rw [if_neg hw, hd, if_pos rfl, if_neg hn, a', numV_L, L_app, L_app, zer_L, b, f1, size_L, f1]
  have : drpB dgP (tl (drpB dgP (atR s 45))) = B r := L_inj (by rw [f2, L_B])
  rw [this]
/-! ### Texts in quotes -/
theorem wiQ (c : UInt8) : wiP c.toNat ⟨#[34, 92]⟩ = decide (c.toNat = 34 ∨ c.toNat = 92) := by
  have := allU (fun c : UInt8 => wiP c.toNat ⟨#[34, 92]⟩ == decide (c.toNat = 34 ∨ c.toNat = 92)) (by decide +kernel) c
  exact beq_iff_eq.1 this
theorem le_not (c : UInt8) (h : leP c.toNat = true ∨ (c.toNat : Int) = 42) : ¬ ((c.toNat : Int) = 45 ∨ dgP c.toNat = true) := by
  have := allU (fun c : UInt8 => !(leP c.toNat || decide ((c.toNat : Int) = 42)) || !(decide ((c.toNat : Int) = 45) || dgP c.toNat)) (by decide +kernel) c
  simp only [Bool.or_eq_true, Bool.not_eq_true', Bool.or_eq_false_iff, decide_eq_false_iff_not] at this
  rcases this with ⟨a, b⟩ | ⟨a, b⟩
  · rcases h with h | h
    · rw [h] at a; cases a
    · exact absurd h b
  · rintro (h | h)
    · exact a h
    · rw [h] at b; cases b
theorem num_app (l : List Int) (c : UInt8) (t : List UInt8) (h : L (strOfNums l) = t) : L (strOfNums (l ++ [(c.toNat : Int)])) = t ++ [c] := by
  subst h
  unfold L strOfNums
  simp
theorem q_read : ∀ (q t : List UInt8), QT q t → ∀ (d : Nat) (s : ByteArray) (r : List UInt8) (xs : List Int) (x0 : List UInt8), q.length ≤ d → L s = q ++ r → L (strOfNums xs) = x0 → qF d s xs = some (B (x0 ++ t), B r) := by
  intro q t h
  induction h with
  | stop =>
    intro d s r xs x0 hd e hx
    obtain ⟨d, rfl⟩ : ∃ d', d = d' + 1 := ⟨d - 1, by simp at hd; omega⟩
    have e1 : L s = 34 :: r := e
    rw [qF, if_pos (size_pos e1), bt0 e1, if_pos (by decide)]
    have a1 : strOfNums xs = B (x0 ++ []) := L_inj (by rw [hx, L_B]; simp)
    have a2 : tl s = B r := L_inj (by rw [L_tl, e1, L_B]; rfl)
    rw [a1, a2]
  | plain c q t h1 h2 h3 h4 h ih =>
    intro d s r xs x0 hd e hx
    obtain ⟨d, rfl⟩ : ∃ d', d = d' + 1 := ⟨d - 1, by simp at hd; omega⟩
    have e1 : L s = c :: (q ++ r) := e
    have e2 : L (tl s) = q ++ r := by rw [L_tl, e1]; rfl
    rw [qF, if_pos (size_pos e1), bt0 e1, if_neg (by omega), if_neg (by omega), if_neg (by omega)]
    rw [ih d (tl s) r (xs ++ [(c.toNat : Int)]) (x0 ++ [c]) (by simp at hd; omega) e2 (num_app xs c x0 hx)]
    simp
  | esc c q t h1 h ih =>
    intro d s r xs x0 hd e hx
    obtain ⟨d, rfl⟩ : ∃ d', d = d' + 1 := ⟨d - 1, by simp at hd; omega⟩
    have e1 : L s = 92 :: (c :: (q ++ r)) := e
    have e2 : L (tl s) = c :: (q ++ r) := by rw [L_tl, e1]; rfl
    have e3 : L (tl (tl s)) = q ++ r := by rw [L_tl, e2]; rfl
    have hc : wiP (bt (tl s) 0) ⟨#[34, 92]⟩ = true := by rw [bt0 e2, wiQ]; exact decide_eq_true h1
    rw [qF, if_pos (size_pos e1), bt0 e1, if_neg (by decide), if_neg (by
      rintro (h | h | ⟨_, h⟩)
      · exact absurd h (by decide)
      · exact absurd h (by decide)
      · exact h ⟨size_pos e2, hc⟩), if_pos (by decide), bt0 e2]
    rw [ih d (tl (tl s)) r (xs ++ [(c.toNat : Int)]) (x0 ++ [c]) (by simp at hd; omega) e3 (num_app xs c x0 hx)]
    simp
theorem quoted_read (q t r : List UInt8) (h : QT q t) (s : ByteArray) (e : L s = q ++ r) : rdQuoted s = some ((3, 0, B t), B r) := by
  unfold rdQuoted
  rw [q_read q t h (s.size + 1) s r [] [] (by rw [size_L, e]; simp; omega) e rfl]
  rfl
/-! ### Values -/
theorem value_read {u : List UInt8} {n i : Int} {t : List UInt8} (h : VT u n i t) (r : List UInt8) (hr : Ends r) (s : ByteArray) (e : L s = u ++ r) : rdValue s = some ((n, i, B t), B r) := by
  unfold rdValue
  cases h with
  | int sg w h0 h1 h2 h3 =>
    have e' : L s = sg ++ (w ++ r) := by rw [e]; simp
    have hp : 0 < s.size ∧ (bt s 0 = 45 ∨ dgP (bt s 0) = true) := by
      rcases h0 with rfl | rfl
      · obtain ⟨c, w', rfl⟩ := List.exists_cons_of_ne_nil h1
        have e1 : L s = c :: (w' ++ r) := e'
        exact ⟨size_pos e1, Or.inr (by rw [bt0 e1]; exact h2 c (List.mem_cons_self ..))⟩
      · have e1 : L s = 45 :: (w ++ r) := e'
        exact ⟨size_pos e1, Or.inl (by rw [bt0 e1]; rfl)⟩
    rw [if_pos hp.1, if_pos hp.2]
    exact int_read sg w r s h0 h1 h2 h3 (hr.not digU_59) (fun c r' h => by rw [hr c r' h]; decide) e'
  | dec sg w p h0 h1 h2 h3 h4 h5 h6 =>
    have e' : L s = sg ++ (w ++ (46 :: (p ++ r))) := by rw [e]; simp
    have hp : 0 < s.size ∧ (bt s 0 = 45 ∨ dgP (bt s 0) = true) := by
      rcases h0 with rfl | rfl
      · obtain ⟨c, w', rfl⟩ := List.exists_cons_of_ne_nil h1
        have e1 : L s = c :: (w' ++ (46 :: (p ++ r))) := e'
        exact ⟨size_pos e1, Or.inr (by rw [bt0 e1]; exact h2 c (List.mem_cons_self ..))⟩
      · have e1 : L s = 45 :: (w ++ (46 :: (p ++ r))) := e'
        exact ⟨size_pos e1, Or.inl (by rw [bt0 e1]; rfl)⟩
    rw [if_pos hp.1, if_pos hp.2]
    exact dec_read sg w p r s h0 h1 h2 h3 h4 h5 h6 (hr.not digU_59) e'
  | tok c w h0 h1 =>
    have e1 : L s = c :: (w ++ r) := e
    have hn := le_not c h0
    rw [if_pos (size_pos e1), bt0 e1, if_neg hn, if_pos h0]
    have k := takeW_app (fun c : UInt8 => tokP c.toNat) (c :: w) r h1 (hr.not tokU_59)
    have a1 : takB tokP s = B (c :: w) := L_inj (by rw [L_tak, e, L_B]; exact k.1)
    have a2 : drpB tokP s = B r := L_inj (by rw [L_drp, e, L_B]; exact k.2)
    rw [a1, a2]
  | quo q t h =>
    have e1 : L s = 34 :: (q ++ r) := e
    rw [if_pos (size_pos e1), bt0 e1, if_neg (by decide), if_neg (by decide +kernel), if_pos (by decide)]
    exact quoted_read q t r h (tl s) (by rw [L_tl, e1]; rfl)
  | byt _ h =>
    have e1 : L s = 58 :: (t ++ (58 :: r)) := by rw [e]; simp
    rw [if_pos (size_pos e1), bt0 e1, if_neg (by decide), if_neg (by decide +kernel), if_neg (by decide), if_pos (by decide)]
    have e2 : L (tl s) = t ++ (58 :: r) := by rw [L_tl, e1]; rfl
    have k := takeW_app (fun c : UInt8 => baP c.toNat) t (58 :: r) h (fun c r' h => by cases h; decide +kernel)
    have a1 : takB baP (tl s) = B t := L_inj (by rw [L_tak, e2, L_B]; exact k.1)
    have a2 : L (drpB baP (tl s)) = 58 :: r := by rw [L_drp, e2]; exact k.2
    have a3 : tl (drpB baP (tl s)) = B r := L_inj (by rw [L_tl, a2, L_B]; rfl)
    unfold rdBytes
    rw [if_pos (by rw [atF_cons a2]; rfl), a1, a3]
  | one =>
    have e1 : L s = 63 :: 49 :: r := e
    have e2 : L (tl s) = 49 :: r := by rw [L_tl, e1]; rfl
    have a3 : tl (tl s) = B r := L_inj (by rw [L_tl, e2, L_B]; rfl)
    rw [if_pos (size_pos e1), bt0 e1, if_neg (by decide), if_neg (by decide +kernel), if_neg (by decide), if_neg (by decide), if_pos (by decide)]
    unfold rdBool
    rw [if_pos (by rw [atF_cons e2]; rfl), a3]; rfl
  | zero =>
    have e1 : L s = 63 :: 48 :: r := e
    have e2 : L (tl s) = 48 :: r := by rw [L_tl, e1]; rfl
    have a3 : tl (tl s) = B r := L_inj (by rw [L_tl, e2, L_B]; rfl)
    rw [if_pos (size_pos e1), bt0 e1, if_neg (by decide), if_neg (by decide +kernel), if_neg (by decide), if_neg (by decide), if_pos (by decide)]
    unfold rdBool
    rw [if_neg (by rw [atF_cons e2]; decide), if_pos (by rw [atF_cons e2]; rfl), a3]; rfl
end Go.Proofs.YtciigmlibnpeeaaDoor.Pl
