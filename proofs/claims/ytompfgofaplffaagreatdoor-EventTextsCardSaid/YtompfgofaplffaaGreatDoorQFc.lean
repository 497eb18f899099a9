/- Plain: both ways to read an event's text come to the same. -/
import Derived.IntWalk
import Derived.Test.YtompfgofaplffaaGreatDoorQPa
import Derived.Laws.EntriesVeiled
import Derived.WalkKit
import Derived.Test.YtompfgofaplffaaGreatDoorQEd
import Derived.Test.YtompfgofaplffaaGreatDoorQEa
import Derived.Test.YtompfgofaplffaaGreatDoorQOnce
import Derived.Maps.AppendAt
set_option linter.unusedSimpArgs false
set_option linter.unusedVariables false
namespace Go.Proofs.YtompfgofaplffaaGreatDoor
open Go Go.Lib Num

/- the program's way -/
def atoiV (d : List UInt8) : Option Int := match atoiAll d with | .ok v => some v | _ => none
theorem atoiV_itoa {v : Int} (h : InI v) : atoiV (itoa v) = some v := by unfold atoiV; rw [atoi_itoa h]
theorem atoiV_in {d : List UInt8} {v : Int} (h : atoiV d = some v) : InI v := by
  unfold atoiV at h
  split at h
  · rename_i u hu
    cases h
    exact atoiAll_bounds hu
  · cases h
theorem atoiV_none {d : List UInt8} (h : atoiV d = none) : ∀ v, InI v → itoa v ≠ d := fun v hv e => by
  rw [← e, atoiV_itoa hv] at h; cases h
/-- What is made of the numbers: of two: the first, and the time; of three: the second one, too. -/
def evOf (k : Int) (s : List UInt8) (n0 n1 n2 : Int) : Ev := if (wds s).length = 4 then madeE k n1 n0 0 else madeE k n2 n0 n1
/-- The words are such as an event's. -/
def fits (s : List UInt8) : Prop := (∃ k, idxK ((wds s).getD 0 []) = some k) ∧ ((wds s).length = 4 ∨ (wds s).length = 5) ∧ (wds s).getD ((wds s).length - 2) [] = wAt
theorem madeE_any {k t a b : Int} (hk : 1 ≤ k ∧ k ≤ 4) (ht : InI t) (ha : InI a) (hb : InI b) : Clean (madeE k t a b) := by
  by_cases h3 : k = 3
  · have e : madeE k t a b = madeE k t a 0 := by subst h3; rfl
    rw [e]
    exact (madeE_clean hk ht ha ⟨by decide, by decide⟩ (fun _ => rfl)).1
  · exact (madeE_clean hk ht ha hb (fun h => absurd h h3)).1
theorem clean_made {x : Ev} (h : Clean x) : x = madeE x.kind x.at_ x.id (secE x) := h.2.2
theorem sec_three {x : Ev} (h : x.kind = 3) : secE x = 0 := by unfold secE; rw [if_neg (by omega), if_pos h]
theorem numW_len {s : List UInt8} (h : (wds s).length = 4 ∨ (wds s).length = 5) : (numW s).length = (wds s).length - 2 := by
  unfold numW
  simp only [List.length_append, List.length_take, List.length_drop, List.length_singleton]
  omega
/-- The program's reading. -/
theorem reads_p {s : List UInt8} {k n0 n1 n2 : Int} (hk : idxK ((wds s).getD 0 []) = some k) (hl : (wds s).length = 4 ∨ (wds s).length = 5)
    (h0 : atoiV ((numW s).getD 0 []) = some n0) (h1 : atoiV ((numW s).getD 1 []) = some n1) (h2 : (wds s).length = 5 → atoiV ((numW s).getD 2 []) = some n2) :
    Reads s (if textE (evOf k s n0 n1 n2) = s then some (evOf k s n0 n1 n2) else none) := by
  have hk' := (idxK_some hk).1
  have hcl : Clean (evOf k s n0 n1 n2) := by
    unfold evOf
    split
    · exact madeE_any hk' (atoiV_in h1) (atoiV_in h0) ⟨by decide, by decide⟩
    · exact madeE_any hk' (atoiV_in (h2 (by omega))) (atoiV_in h0) (atoiV_in h1)
  by_cases ht : textE (evOf k s n0 n1 n2) = s
  · rw [if_pos ht]
    exact ⟨fun x hx => (by cases hx; exact ⟨hcl, ht⟩), fun hx => (by cases hx)⟩
  · rw [if_neg ht]
    refine ⟨fun x hx => (by cases hx), fun _ x hc e => ht ?_⟩
    have hs := secE_in hc.2.1
    have hw := wds_text hc.1
    have hn := numW_text hc.1
    rw [e] at hw hn
    obtain ⟨_, it, ii, _, _⟩ := hc.2.1
    have hk2 : k = x.kind := by
      rw [hw] at hk
      have : (wordsE x).getD 0 [] = wordK x.kind := by unfold wordsE; split <;> rfl
      rw [this, idxK_word hc.1] at hk
      cases hk; rfl
    have : evOf k s n0 n1 n2 = x := by
      unfold evOf
      rw [hw, hk2]
      by_cases h3 : x.kind = 3
      · rw [if_pos h3] at hn
        have e0 : (numW s).getD 0 [] = itoa x.id := by rw [hn]; rfl
        have e1 : (numW s).getD 1 [] = itoa x.at_ := by rw [hn]; rfl
        rw [e0, atoiV_itoa ii] at h0
        rw [e1, atoiV_itoa it] at h1
        cases h0; cases h1
        rw [if_pos (by unfold wordsE; rw [if_pos h3]; rfl)]
        conv => rhs; rw [clean_made hc, sec_three h3]
      · rw [if_neg h3] at hn
        have h5 : (wds s).length = 5 := by rw [hw]; unfold wordsE; rw [if_neg h3]; rfl
        have h2' := h2 h5
        have e0 : (numW s).getD 0 [] = itoa x.id := by rw [hn]; rfl
        have e1 : (numW s).getD 1 [] = itoa (secE x) := by rw [hn]; rfl
        have e2 : (numW s).getD 2 [] = itoa x.at_ := by rw [hn]; rfl
        rw [e0, atoiV_itoa ii] at h0
        rw [e1, atoiV_itoa hs] at h1
        rw [e2, atoiV_itoa it] at h2'
        cases h0; cases h1; cases h2'
        rw [if_neg (by rw [← hw, h5]; decide)]
        exact (clean_made hc).symm
    rw [this]; exact e

/- the reference's way -/
def nstep (n : Int) (c : UInt8) : Int := if c.toNat = 45 then n else IntKind.i64.wrap (IntKind.i64.wrap (10 * n) - ((c.toNat : Int) - 48))
def numN (s : List UInt8) : Int := s.foldl nstep 0
def numSg (s : List UInt8) : Int := s.foldl (fun g c => if c.toNat = 45 then 1 else g) (-1)
def numR (s : List UInt8) : Int := IntKind.i64.wrap (numSg s * numN s)
theorem wrap_in (x : Int) : InI (IntKind.i64.wrap x) := by
  rw [IntKind.wrap_i64]
  unfold InI; omega
theorem numN_snoc (s : List UInt8) (c : UInt8) : numN (s ++ [c]) = nstep (numN s) c := by unfold numN; rw [List.foldl_append]; rfl
theorem numSg_snoc (s : List UInt8) (c : UInt8) : numSg (s ++ [c]) = if c.toNat = 45 then 1 else numSg s := by unfold numSg; rw [List.foldl_append]; rfl
theorem numSg_or (s : List UInt8) : numSg s = 1 ∨ numSg s = -1 := by
  unfold numSg
  have : ∀ (l : List UInt8) (g : Int), (g = 1 ∨ g = -1) → (l.foldl (fun g c => if c.toNat = 45 then (1 : Int) else g) g = 1 ∨ l.foldl (fun g c => if c.toNat = 45 then (1 : Int) else g) g = -1) := by
    intro l
    induction l with
    | nil => intro g h; exact h
    | cons c l ih => intro g h; rw [List.foldl_cons]; refine ih _ ?_; split <;> simp [h]
  exact this s (-1) (.inr rfl)
theorem fold_negs : ∀ (l : List UInt8) (acc v : Int), (∀ c ∈ l, 48 ≤ c.toNat ∧ c.toNat ≤ 57) → -9223372036854775808 ≤ acc → acc ≤ 0 → negs acc l = some v → l.foldl nstep acc = v
  | [], acc, v, _, _, _, h => by simpa [negs] using h
  | c :: r, acc, v, hd, h0, h1, h => by
    have hc := hd c (by simp)
    simp only [negs] at h
    split at h
    · cases h
    · rename_i hn
      have e1 : IntKind.i64.wrap (10 * acc) = 10 * acc := IntWalk.i64_in _ (by omega)
      have e2 : IntKind.i64.wrap (10 * acc - ((c.toNat : Int) - 48)) = 10 * acc - ((c.toNat : Int) - 48) := IntWalk.i64_in _ (by omega)
      rw [List.foldl_cons]
      have : nstep acc c = 10 * acc - ((c.toNat : Int) - 48) := by unfold nstep; rw [if_neg (by omega), e1, e2]
      rw [this]
      exact fold_negs r _ v (fun x hx => hd x (List.mem_cons_of_mem _ hx)) (by omega) (by omega) h
theorem sg_digits : ∀ (l : List UInt8) (g : Int), (∀ c ∈ l, 48 ≤ c.toNat ∧ c.toNat ≤ 57) → l.foldl (fun g c => if c.toNat = 45 then (1 : Int) else g) g = g
  | [], _, _ => rfl
  | c :: r, g, hd => by
    have hc := hd c (by simp)
    rw [List.foldl_cons, if_neg (by omega)]
    exact sg_digits r g fun x hx => hd x (List.mem_cons_of_mem _ hx)
theorem numR_itoa {v : Int} (h : InI v) : numR (itoa v) = v := by
  obtain ⟨h0, h1⟩ := h
  by_cases hn : v < 0
  · have e : itoa v = 45 :: decDigits v.natAbs := by unfold itoa; rw [if_pos hn]
    have hd := dec_digits v.natAbs
    have hg := negs_dec v.natAbs (by omega)
    have eN : numN (itoa v) = v := by
      rw [e]; unfold numN; rw [List.foldl_cons]
      have : nstep 0 45 = 0 := rfl
      rw [this, fold_negs _ _ _ hd (by omega) (by omega) hg]; omega
    have eS : numSg (itoa v) = 1 := by
      rw [e]; unfold numSg; rw [List.foldl_cons]
      have : (if (45 : UInt8).toNat = 45 then (1 : Int) else -1) = 1 := rfl
      rw [this, sg_digits _ _ hd]
    unfold numR
    rw [eN, eS, Int.one_mul]
    exact IntWalk.i64_in _ (by omega)
  · have e : itoa v = decDigits v.toNat := by unfold itoa; rw [if_neg hn]
    have hd := dec_digits v.toNat
    have hg := negs_dec v.toNat (by omega)
    have eN : numN (itoa v) = -v := by
      rw [e]; unfold numN
      rw [fold_negs _ _ _ hd (by omega) (by omega) hg]; omega
    have eS : numSg (itoa v) = -1 := by rw [e]; unfold numSg; rw [sg_digits _ _ hd]
    unfold numR
    rw [eN, eS, show (-1 : Int) * -v = v by omega]
    exact IntWalk.i64_in _ (by omega)
theorem numN_in (s : List UInt8) : InI (numN s) := by
  unfold numN
  have : ∀ (l : List UInt8) (g : Int), InI g → InI (l.foldl nstep g) := by
    intro l
    induction l with
    | nil => intro g h; exact h
    | cons c l ih =>
      intro g h
      rw [List.foldl_cons]
      refine ih _ ?_
      unfold nstep
      split
      · exact h
      · exact wrap_in _
  exact this s 0 ⟨by decide, by decide⟩
/-- The kind that the reference takes. -/
def kindR (w : List UInt8) : Int := (idxK w).getD 0
def evR (s : List UInt8) : Ev :=
  ⟨kindR ((wds s).getD 0 []), numR ((wds s).getD ((wds s).length - 1) []), numR ((wds s).getD 1 []), if kindR ((wds s).getD 0 []) = 2 ∨ kindR ((wds s).getD 0 []) = 4 then numR ((wds s).getD 2 []) else 0, if kindR ((wds s).getD 0 []) = 1 then numR ((wds s).getD 2 []) else 0⟩
def badR (s : List UInt8) : Prop := kindR ((wds s).getD 0 []) = 0 ∨ (wds s).length < 4 ∨ 5 < (wds s).length ∨ (decide ((wds s).length = 4) != decide (kindR ((wds s).getD 0 []) = 3)) = true
theorem kindR_text {x : Ev} (h : 1 ≤ x.kind ∧ x.kind ≤ 4) : kindR ((wordsE x).getD 0 []) = x.kind := by
  have : (wordsE x).getD 0 [] = wordK x.kind := by unfold wordsE; split <;> rfl
  unfold kindR
  rw [this, idxK_word h]; rfl
theorem kindR_range (w : List UInt8) : kindR w = 0 ∨ (1 ≤ kindR w ∧ kindR w ≤ 4) := by
  unfold kindR
  cases h : idxK w with
  | none => exact .inl rfl
  | some k => exact .inr (idxK_some h).1
theorem reads_bad {s : List UInt8} (h : badR s) : Reads s none := by
  refine ⟨fun x hx => (by cases hx), fun _ x hc e => ?_⟩
  have hw := wds_text hc.1
  rw [e] at hw
  unfold badR at h
  rw [hw, kindR_text hc.1] at h
  have hk := hc.1
  by_cases h3 : x.kind = 3
  · have hl : (wordsE x).length = 4 := by unfold wordsE; rw [if_pos h3]; rfl
    rw [hl, h3] at h
    revert h; decide
  · have hl : (wordsE x).length = 5 := by unfold wordsE; rw [if_neg h3]; rfl
    rw [hl] at h
    rcases h with h | h | h | h
    · omega
    · omega
    · omega
    · simp [h3] at h
theorem reads_r {s : List UInt8} (h : ¬ badR s) : Reads s (if textE (evR s) = s then some (evR s) else none) := by
  unfold badR at h
  simp only [not_or] at h
  obtain ⟨hk0, hl1, hl2, h3⟩ := h
  have hk := (kindR_range ((wds s).getD 0 [])).resolve_left hk0
  have hz : InI 0 := ⟨by decide, by decide⟩
  have em : evR s = madeE (kindR ((wds s).getD 0 [])) (numR ((wds s).getD ((wds s).length - 1) [])) (numR ((wds s).getD 1 [])) (numR ((wds s).getD 2 [])) := by
    unfold evR madeE
    generalize kindR ((wds s).getD 0 []) = k at *
    by_cases k1 : k = 1
    · subst k1; rfl
    · rw [if_neg k1, if_neg k1]
      split <;> rfl
  have hcl : Clean (evR s) := by rw [em]; exact madeE_any hk (wrap_in _) (wrap_in _) (wrap_in _)
  by_cases ht : textE (evR s) = s
  · rw [if_pos ht]
    exact ⟨fun x hx => (by cases hx; exact ⟨hcl, ht⟩), fun hx => (by cases hx)⟩
  · rw [if_neg ht]
    refine ⟨fun x hx => (by cases hx), fun _ x hc e => ht ?_⟩
    have hs := secE_in hc.2.1
    have hw := wds_text hc.1
    rw [e] at hw
    obtain ⟨_, it, ii, _, _⟩ := hc.2.1
    have : evR s = x := by
      rw [em, hw, kindR_text hc.1]
      conv => rhs; rw [clean_made hc]
      by_cases h3 : x.kind = 3
      · have e1 : (wordsE x) = [wordK x.kind, itoa x.id, wAt, itoa x.at_] := by unfold wordsE; rw [if_pos h3]
        rw [e1]
        show madeE x.kind (numR (itoa x.at_)) (numR (itoa x.id)) (numR wAt) = _
        rw [numR_itoa it, numR_itoa ii, h3]; rfl
      · have e1 : (wordsE x) = [wordK x.kind, itoa x.id, itoa (secE x), wAt, itoa x.at_] := by unfold wordsE; rw [if_neg h3]
        rw [e1]
        show madeE x.kind (numR (itoa x.at_)) (numR (itoa x.id)) (numR (itoa (secE x))) = _
        rw [numR_itoa it, numR_itoa ii, numR_itoa hs]
    rw [this]; exact e
/-- The words, byte by byte. -/
theorem wds_blank (s : List UInt8) : wds (s ++ [32]) = wds s ++ [[]] := by
  induction s with
  | nil => rfl
  | cons c r ih =>
    rw [List.cons_append, wds, ih]
    conv => rhs; rw [wds]
    split
    · rfl
    · cases h : wds r with
      | nil => exact absurd h (wds_ne r)
      | cons p ps => rfl
theorem wds_byte (s : List UInt8) {c : UInt8} (hc : ¬ c = 32) : ∃ l p, wds s = l ++ [p] ∧ wds (s ++ [c]) = l ++ [p ++ [c]] := by
  induction s with
  | nil => exact ⟨[], [], rfl, by show wds [c] = _; unfold wds; rw [if_neg hc]; rfl⟩
  | cons d r ih =>
    obtain ⟨l, p, e1, e2⟩ := ih
    rw [List.cons_append]
    have f1 : wds (d :: r) = if d = 32 then [] :: wds r else match wds r with
      | [] => [[d]]
      | p :: ps => (d :: p) :: ps := rfl
    have f2 : wds (d :: (r ++ [c])) = if d = 32 then [] :: wds (r ++ [c]) else match wds (r ++ [c]) with
      | [] => [[d]]
      | p :: ps => (d :: p) :: ps := rfl
    rw [f1, f2, e1, e2]
    by_cases hd : d = 32
    · rw [if_pos hd, if_pos hd]
      exact ⟨[] :: l, p, rfl, rfl⟩
    · rw [if_neg hd, if_neg hd]
      cases l with
      | nil => exact ⟨[], d :: p, rfl, rfl⟩
      | cons q qs => exact ⟨(d :: q) :: qs, p, rfl, rfl⟩
end Go.Proofs.YtompfgofaplffaaGreatDoor

namespace Go.Proofs.YtompfgofaplffaaGreatDoor
open Go.RowKit Hach

def Ev.cells (e : Ev) : List Value := [.int .i64 e.kind, .int .i64 e.at_, .int .i64 e.id, .int .i64 e.other, .int .i64 e.n]
theorem infoEv : (Tryz.prog.info? 23).map (fun i => (i.zero, i.size, i.bytes)) = some (some (.agg #[.int .i64 0, .int .i64 0, .int .i64 0, .int .i64 0, .int .i64 0]), 5, 40) := by kernel_rfl
theorem evs_len (us : List Ev) : (us.map Ev.cells).flatten.length = us.length * 5 := by
  induction us with
  | nil => rfl
  | cons u us ih => simp only [List.map_cons, List.flatten_cons, List.length_append, ih, List.length_cons]; simp [Ev.cells]; omega
theorem evs_at (us : List Ev) (j : Nat) (hj : j < us.length) (i : Nat) (hi : i < 5) : (us.map Ev.cells).flatten[j * 5 + i]? = (us[j].cells)[i]? := by
  induction us generalizing j with
  | nil => simp at hj
  | cons u us ih =>
    have hc : u.cells.length = 5 := rfl
    simp only [List.map_cons, List.flatten_cons]
    cases j with
    | zero => rw [List.getElem?_append_left (by omega)]; simp
    | succ j =>
      rw [List.getElem?_append_right (by omega), show (j + 1) * 5 + i - u.cells.length = j * 5 + i by omega]
      exact ih j (by simpa using hj)
theorem ev_one (us : List Ev) : ∀ u ∈ (us.map Ev.cells).flatten, u.oneCell' = true := by
  intro u hu
  obtain ⟨l, hl, hu⟩ := List.mem_flatten.1 hu
  obtain ⟨e, _, rfl⟩ := List.mem_map.1 hl
  simp [Ev.cells] at hu
  rcases hu with rfl | rfl | rfl | rfl | rfl <;> rfl
/-- Events in a block. -/
def EvRow (W : World) (g : Nat) (us : List Ev) : Prop := ∀ j u, (us.map Ev.cells).flatten[j]? = some u → W.cell? ⟨g, j, none⟩ = some u
theorem EvRow.keep {W W' : World} {g : Nat} {us : List Ev} (h : EvRow W g us) (hE : Ext W W') : EvRow W' g us := fun j u hu => cell_ext hE (h j u hu)
def evG (us : List Ev) (j : Nat) : Ev := us.getD j zeroEv
theorem EvRow.cell {W : World} {g : Nat} {us : List Ev} (h : EvRow W g us) {j i : Nat} {u : Value} (hj : j < us.length) (hu : (evG us j).cells[i]? = some u) : W.cell? ⟨g, j * 5 + i, none⟩ = some u := by
  have hi : i < 5 := (List.getElem?_eq_some_iff.1 hu).1
  refine h _ _ ?_
  rw [evs_at us j hj i hi]
  unfold evG at hu
  rw [List.getD_eq_getElem?_getD, List.getElem?_eq_getElem hj] at hu
  exact hu

/-- One event in a block of its own. -/
def EvBlk (w : World) (b : Nat) (e : Ev) : Prop := w.heap[b]? = some (.cells #[.int .i64 e.kind, .int .i64 e.at_, .int .i64 e.id, .int .i64 e.other, .int .i64 e.n] 23 (0, 0))
theorem EvBlk.ext {w w' : World} {b : Nat} {e : Ev} (h : EvBlk w b e) (hE : Ext w w') : EvBlk w' b e := blk_ext h hE
theorem EvBlk.get {w : World} {b : Nat} {e : Ev} (h : EvBlk w b e) : w.cell? ⟨b, 0, none⟩ = some (.int .i64 e.kind) ∧ w.cell? ⟨b, 1, none⟩ = some (.int .i64 e.at_) ∧ w.cell? ⟨b, 2, none⟩ = some (.int .i64 e.id) ∧ w.cell? ⟨b, 3, none⟩ = some (.int .i64 e.other) ∧ w.cell? ⟨b, 4, none⟩ = some (.int .i64 e.n) :=
  ⟨cells_of h 0 _ rfl, cells_of h 1 _ rfl, cells_of h 2 _ rfl, cells_of h 3 _ rfl, cells_of h 4 _ rfl⟩
theorem results_E {fn : Func} {t : Tmp} (hr : fn.results = #[.cell t 23]) {w : World} {b : Nat} {e : Ev} (h : EvBlk w b e) (tmps : Array Value) (ht : tmps.getD t undef = .pointer (some ⟨b, 0, none⟩)) :
    (results fn tmps).run Tryz.prog w = .ok (.agg #[.int .i64 e.kind, .int .i64 e.at_, .int .i64 e.id, .int .i64 e.other, .int .i64 e.n]) w := by
  obtain ⟨p0, p1, p2, p3, p4⟩ := h.get
  clear h
  rw [Array.getD_eq_getD_getElem?] at ht
  simp only [results, hr]
  go_simp
theorem results_Eb {fn : Func} {t u : Tmp} (hr : fn.results = #[.cell t 23, .tmp u]) {w : World} {b : Nat} {e : Ev} (h : EvBlk w b e) (tmps : Array Value) (v : Value) (ht : tmps.getD t undef = .pointer (some ⟨b, 0, none⟩)) (hu : tmps.getD u undef = v) :
    (results fn tmps).run Tryz.prog w = .ok (.tuple #[.agg #[.int .i64 e.kind, .int .i64 e.at_, .int .i64 e.id, .int .i64 e.other, .int .i64 e.n], v]) w := by
  obtain ⟨p0, p1, p2, p3, p4⟩ := h.get
  clear h
  rw [Array.getD_eq_getD_getElem?] at ht hu
  simp only [results, hr]
  go_simp
def fnV (n : Nat) : Value := .func (.func n) #[] #[]
/-- A kind of events: its word, and five functions. -/
def kindC (k : Nat) : List Value := [
  [.string ⟨#[100, 114, 111, 112]⟩, fnV 34, fnV 35, fnV 36, fnV 37, fnV 38],
  [.string ⟨#[102, 117, 115, 101]⟩, fnV 39, fnV 40, fnV 41, fnV 42, fnV 43],
  [.string ⟨#[116, 104, 105, 110]⟩, fnV 44, fnV 45, fnV 47, fnV 49, fnV 51],
  [.string ⟨#[103, 97, 116, 104, 101, 114]⟩, fnV 39, fnV 52, fnV 53, fnV 54, fnV 55]].getD k []
def kindsO : Obj := .cells (kindC 0 ++ kindC 1 ++ kindC 2 ++ kindC 3).toArray 53
set_option maxRecDepth 100000 in
set_option maxHeartbeats 1000000 in
theorem kinds_any (w : World) : Calls Tryz.prog 17 #[] w fun e w' => e = .returned (.slice (some ⟨w.heap.size, 0, none⟩) 4 4) ∧ w' = w.alloc kindsO := by
  go_enter Tryz.func17, Tryz.ntmps17
  go_wp2_with fail
  go_ret
  exact ⟨rfl, rfl⟩
set_option maxRecDepth 100000 in
set_option maxHeartbeats 1000000 in
theorem made_any (k t a b : Int) (w : World) : Calls Tryz.prog 26 #[.int .i64 k, .int .i64 t, .int .i64 a, .int .i64 b] w fun e w' => e = .returned (.agg (madeE k t a b).cells.toArray) ∧ Ext w w' := by
  by_cases h1 : k = 1
  · subst h1
    go_enter Tryz.func26, Tryz.ntmps26
    go_wp2_with fail
    refine bodyPost_ret (results_E (e := madeE 1 t a b) rfl (blk_ext (Go.heap_alloc_new _ _) (Ext.alloc _ _)) _ rfl) rfl ?_
    exact ⟨rfl, Ext.trans (Ext.alloc _ _) (Ext.alloc _ _)⟩
  · by_cases h2 : k = 2
    · subst h2
      go_enter Tryz.func26, Tryz.ntmps26
      go_wp2_with fail
      refine bodyPost_ret (results_E (e := madeE 2 t a b) rfl (blk_ext (Go.heap_alloc_new _ _) (Ext.alloc _ _)) _ rfl) rfl ?_
      exact ⟨rfl, Ext.trans (Ext.alloc _ _) (Ext.alloc _ _)⟩
    · by_cases h4 : k = 4
      · subst h4
        go_enter Tryz.func26, Tryz.ntmps26
        go_wp2_with fail
        refine bodyPost_ret (results_E (e := madeE 4 t a b) rfl (blk_ext (Go.heap_alloc_new _ _) (Ext.alloc _ _)) _ rfl) rfl ?_
        exact ⟨rfl, Ext.trans (Ext.alloc _ _) (Ext.alloc _ _)⟩
      · have t1 : (k == 1) = false := by simpa using h1
        have t2 : (k == 2) = false := by simpa using h2
        have t4 : (k == 4) = false := by simpa using h4
        have em : madeE k t a b = ⟨k, t, a, 0, 0⟩ := by unfold madeE; rw [if_neg h1, if_neg (by omega)]
        rw [em]
        go_enter Tryz.func26, Tryz.ntmps26
        go_wp2_with fail
        refine bodyPost_ret (results_E (e := ⟨k, t, a, 0, 0⟩) rfl (blk_ext (Go.heap_alloc_new _ _) (Ext.alloc _ _)) _ rfl) rfl ?_
        exact ⟨rfl, Ext.trans (Ext.alloc _ _) (Ext.alloc _ _)⟩
theorem index_any (e : Ev) (w : World) : Calls Tryz.prog 34 #[.agg #[.int .i64 e.kind, .int .i64 e.at_, .int .i64 e.id, .int .i64 e.other, .int .i64 e.n]] w fun r w' => r = .returned (.int .i64 e.n) ∧ Ext w w' := by
  have hB := Go.heap_alloc_new w (.cells #[.int .i64 e.kind, .int .i64 e.at_, .int .i64 e.id, .int .i64 e.other, .int .i64 e.n] 58)
  have c4 := cells_of hB 4 _ rfl
  clear hB
  go_enter Tryz.func34, Tryz.ntmps34
  go_wp2_with fail
  go_ret
  exact ⟨rfl, Ext.alloc _ _⟩
theorem other_any (e : Ev) (w : World) : Calls Tryz.prog 39 #[.agg #[.int .i64 e.kind, .int .i64 e.at_, .int .i64 e.id, .int .i64 e.other, .int .i64 e.n]] w fun r w' => r = .returned (.int .i64 e.other) ∧ Ext w w' := by
  have hB := Go.heap_alloc_new w (.cells #[.int .i64 e.kind, .int .i64 e.at_, .int .i64 e.id, .int .i64 e.other, .int .i64 e.n] 58)
  have c4 := cells_of hB 3 _ rfl
  clear hB
  go_enter Tryz.func39, Tryz.ntmps39
  go_wp2_with fail
  go_ret
  exact ⟨rfl, Ext.alloc _ _⟩
theorem none_any (e : Ev) (w : World) : Calls Tryz.prog 44 #[.agg #[.int .i64 e.kind, .int .i64 e.at_, .int .i64 e.id, .int .i64 e.other, .int .i64 e.n]] w fun r w' => r = .returned (.int .i64 0) ∧ Ext w w' := by
  go_enter Tryz.func44, Tryz.ntmps44
  go_wp2_with fail
  go_ret
  exact ⟨rfl, Ext.alloc _ _⟩
end Go.Proofs.YtompfgofaplffaaGreatDoor

namespace Go.Proofs.YtompfgofaplffaaGreatDoor
open Go.RowKit Hach

def OwnE (w : World) (base : Nat) (v : Value) (us : List Ev) : Prop := w.ownsRow base 23 5 v us.length (us.map Ev.cells).flatten
theorem OwnE.nil (w : World) (base : Nat) : OwnE w base (.slice none 0 0) [] := World.ownsRow_nil w base _ 5
theorem OwnE.ext {w w' : World} {base : Nat} {v : Value} {us : List Ev} (h : OwnE w base v us) (hE : Ext w w') : OwnE w' base v us := World.ownsRow.kept h (grownE hE none) (by cases v.ownBlock <;> simp)
theorem OwnE.base_ {w : World} {base base' : Nat} {v : Value} {us : List Ev} (h : OwnE w base v us) (hb : base' ≤ base) : OwnE w base' v us := by
  refine ⟨h.1, ?_⟩
  rcases h.2 with hn | ⟨g, cap, cur, e, hg, r⟩
  · exact .inl hn
  · exact .inr ⟨g, cap, cur, e, Nat.le_trans hb hg, r⟩
theorem OwnE.lt {w : World} {base : Nat} {v : Value} {us : List Ev} (h : OwnE w base v us) : ∀ g, v.ownBlock = some g → base ≤ g ∧ g < w.heap.size := World.ownsRow.lt h
theorem OwnE.form {w : World} {base : Nat} {v : Value} {us : List Ev} (h : OwnE w base v us) : (us = [] ∧ v = .slice none 0 0) ∨ ∃ g c, v = .slice (some ⟨g, 0, none⟩) us.length c ∧ base ≤ g ∧ g < w.heap.size ∧ us.length ≤ c ∧ EvRow w g us := by
  rcases h.2 with ⟨e, hn⟩ | ⟨g, cap, cur, rfl, hb, hg, hn, hm, hs, ht⟩
  · exact .inl ⟨List.length_eq_zero_iff.1 hn, e⟩
  · refine .inr ⟨g, cap, rfl, hb, (Array.getElem?_eq_some_iff.1 hg).1, hn, fun j u hu => ?_⟩
    have h1 := World.ownsRow.cells h (g := g) rfl j u hu
    simpa [Addr.add_lit] using h1
theorem app_E {ops : Array Oper} {rest : List Oper} {o : Oper} {a : Act} {w : World} {Q : Exit → Act → World → Prop} (hgd : o.guard = none) (s x : Tmp)
    (ho : o.op = .call { callee := .builtin .append, args := #[.tmp s, .tmp x], argTypes := #[28, 28] }) (base : Nat) (v : Value) (us : List Ev) (hs : a.eval (.tmp s) = v) (hown : OwnE w base v us)
    (g m c : Nat) (ts : List Ev) (hm : m = ts.length) (hx : a.eval (.tmp x) = .slice (some ⟨g, 0, none⟩) m c) (hc : EvRow w g ts) (hl : us.length + ts.length < 4294967296) (hbase : base ≤ w.heap.size)
    (h : ∀ v' w', OwnE w' base v' (us ++ ts) → w.grownBy w' v.ownBlock → wpList Tryz.prog ops Q rest (a.put o.dst v') w') : wpList Tryz.prog ops Q (o :: rest) a w := by
  obtain ⟨i0, hi, hz0, hz1, hz2⟩ := info_parts infoEv
  refine wpList_append_own_at w hgd _ _ _ ho base 23 i0 _ 5 40 Tryz.underlying28 hi hz0 hz1 hz2 rfl (by decide) v us.length (us.map Ev.cells).flatten hs hown ⟨g, 0, none⟩ m c (ts.map Ev.cells).flatten hx (by rw [evs_len, hm]) ?_ (ev_one ts) ?_ ?_ hbase ?_
  · intro j u hu
    have e : (⟨g, 0, none⟩ : Addr).add j = ⟨g, j, none⟩ := by cases j <;> simp [Addr.add]
    rw [e]
    exact hc j u hu
  · simp only [maxLen]; omega
  · omega
  · intro v' w' h2 h3 _ _
    refine h v' w' ?_ h3
    unfold OwnE
    rw [List.map_append, List.flatten_append, List.length_append, ← hm]
    exact h2
end Go.Proofs.YtompfgofaplffaaGreatDoor

namespace Go.Proofs.YtompfgofaplffaaGreatDoor
open Go.RowKit Hach

def lenV : Value → Nat
  | .slice _ n _ => n
  | _ => 0
theorem OwnI.lenV {w : World} {base : Nat} {v : Value} {zs : List Int} (h : OwnI w base v zs) : lenV v = zs.length := by
  rcases h.form with ⟨rfl, rfl⟩ | ⟨g, c, rfl, _⟩ <;> rfl
theorem nodup_len {vis : List Nat} {n : Nat} (hn : vis.Nodup) (hl : ∀ i ∈ vis, i < n) : vis.length ≤ n := by
  have h := List.Nodup.length_le_of_subset (l₁ := vis) (l₂ := List.range n) hn (fun i hi => List.mem_range.2 (hl i hi))
  simpa using h
/-- The ids, sorted. -/
def idsF (fs : List Fa) : List Int := (fs.map (·.id)).mergeSort fun x y => decide (x ≤ y)
theorem kn_ids (b o : Nat) (fs : List Fa) : (knF b o fs fs.length).map (·.1) = fs.map (·.id) := by
  unfold knF
  rw [List.map_map]
  apply List.ext_getElem (by simp)
  intro i h1 h2
  have hi : i < fs.length := by simpa using h1
  simp [fa, List.getD_eq_getElem?_getD, hi]
theorem ids_mem {fs : List Fa} {x : Int} (h : x ∈ idsF fs) : ∃ i, i < fs.length ∧ (fa fs i).id = x := by
  have h2 : x ∈ fs.map (·.id) := (List.mergeSort_perm _ _).mem_iff.1 h
  obtain ⟨f, hf, rfl⟩ := List.mem_map.1 h2
  obtain ⟨i, hi, e⟩ := List.getElem_of_mem hf
  exact ⟨i, hi, by unfold fa; rw [List.getD_eq_getElem?_getD, List.getElem?_eq_getElem hi]; simp [e]⟩
theorem ids_len (fs : List Fa) : (idsF fs).length = fs.length := by unfold idsF; rw [List.length_mergeSort, List.length_map]
def wtF (fs : List Fa) (x : Int) : Int := ((fs.find? fun f => f.id == x).map (·.weight)).getD 0
theorem wt_of {fs : List Fa} (hap : Apart fs) {i : Nat} (hi : i < fs.length) : wtF fs (fa fs i).id = (fa fs i).weight := by
  have : fs.find? (fun f => f.id == (fa fs i).id) = some (fa fs i) := by
    rw [List.find?_eq_some_iff_getElem]
    refine ⟨by simp, i, hi, ?_, fun j hj => ?_⟩
    · unfold fa; rw [List.getD_eq_getElem?_getD, List.getElem?_eq_getElem hi]; rfl
    · have := hap j i hj hi
      have e : fa fs j = fs[j] := by unfold fa; rw [List.getD_eq_getElem?_getD, List.getElem?_eq_getElem (by omega)]; rfl
      rw [e] at this
      simpa using fun h => this h.symm
  unfold wtF
  rw [this]; rfl
/-- Whom a face can be united with. -/
def othF (es : List Ed) (zs : List Int) (x : Int) : List Int := zs.filter fun y => !(canF es x y != 0)
def evF (es : List Ed) (fs : List Fa) (zs : List Int) (x : Int) : List Ev :=
  if (othF es zs x).length = 0 then [] else [⟨2, max 1 (4 * wtF fs x), x, bestF (fun y => sumB es x y es.length) (othF es zs x) (othF es zs x).length, 0⟩]
def allF (es : List Ed) (fs : List Fa) (zs : List Int) : Nat → List Ev
  | 0 => []
  | k + 1 => allF es fs zs k ++ evF es fs zs (zs.getD k 0)
theorem allF_len (es : List Ed) (fs : List Fa) (zs : List Int) : ∀ k, (allF es fs zs k).length ≤ k
  | 0 => Nat.le_refl _
  | k + 1 => by
    have := allF_len es fs zs k
    have h1 : (evF es fs zs (zs.getD k 0)).length ≤ 1 := by unfold evF; split <;> simp
    show (allF es fs zs k ++ evF es fs zs (zs.getD k 0)).length ≤ k + 1
    rw [List.length_append]; omega
/-- What is asked of a map for fuse.All to be reckoned so. -/
structure FuseOk (m : Mp) (d : Int) : Prop where
  ap : Apart m.faces
  dis : ∀ i, i < m.faces.length → (fa m.faces i).district = d
  pos : 1 ≤ d
  some_ : 0 < m.faces.length
  few : m.faces.length < 1000000
  elen : m.edges.length < 1000000000
  nm : ∀ i j, i < m.faces.length → j < m.faces.length → bors m.edges (fa m.faces i).id (fa m.faces j).id m.edges.length = [] ∨ (fa m.faces i).name = [] ∨ (fa m.faces j).name = []
  wt : ∀ i, i < m.faces.length → 0 ≤ (fa m.faces i).weight ∧ (fa m.faces i).weight ≤ 1000000
  ln : ∀ k, k < m.edges.length → (ed m.edges k).line.all rightP = true ∧ (ed m.edges k).line.length < 1000000000
  sum : ∀ x y k, k ≤ m.edges.length → 0 ≤ sumB m.edges x y k ∧ sumB m.edges x y k ≤ 4611686018427387904
theorem Ext.grow_ge {u w w' : World} {g : Option Nat} (h : Ext u w) (hg : w.grownBy w' g) (hv : ∀ b, g = some b → u.heap.size ≤ b) : Ext u w' := Below.trans h (below_rowE hg h.sz hv)
theorem IterI.kept {w w' : World} {q r : Nat} {l : List (Int × Value)} {vis : List Nat} {g : Option Nat} (h : IterI w q r l vis) (hg : w.grownBy w' g) (hq : g ≠ some q) : IterI w' q r l vis := by
  have hlt : q < w.heap.size := (Array.getElem?_eq_some_iff.1 h).1
  exact (hg.block q hlt (fun e => hq e.symm)).trans h
theorem OwnI.kept {w w' : World} {base : Nat} {v : Value} {zs : List Int} {g : Nat} (h : OwnI w base v zs) (hg : w.grownBy w' (some g)) (hb : g < base) : OwnI w' base v zs :=
  World.ownsRow.kept h hg (by
    cases hv : v.ownBlock with
    | none => simp
    | some b => have := (h.lt b hv).1; simp; omega)
def slE (us : List Ev) : SP := ⟨fun v W => ∃ g, v = .slice (some ⟨g, 0, none⟩) us.length us.length ∧ EvRow W g us, fun h hE => by
  obtain ⟨g, e, h1⟩ := h
  exact ⟨g, e, h1.keep hE⟩⟩
theorem fdel_any (m : Mp) (a : Ma) (b o r i Bm C X gb cb : Nat) (d : Int) (w0 W : World) (zs : List Int) (hm : MpAt w0 a m) (hA : a.fa = some ⟨b, o, none⟩) (hok : FuseOk m d) (hM : MapI w0 r (knF b o m.faces m.faces.length)) (hi : i < m.faces.length)
    (hB : w0.heap[Bm]? = some (.cells (a.cells m).toArray 41 (0, 0))) (hC : w0.cell? ⟨C, 0, none⟩ = some (.map (some r))) (hX : w0.cell? ⟨X, 0, none⟩ = some (.int .i64 (fa m.faces i).id))
    (hz : ∀ x ∈ zs, ∃ j, j < m.faces.length ∧ (fa m.faces j).id = x) (hE : Ext w0 W) (hgb : w0.heap.size ≤ gb) (hlt : gb < W.heap.size) (hH : HoldI W gb zs.toArray) (hn : zs.length < 1000000) (hcap : zs.length ≤ cb) :
    Calls Tryz.prog 87 #[.slice (some ⟨gb, 0, none⟩) zs.length cb, .func (.func 89) #[] #[.pointer (some ⟨Bm, 0, none⟩), .pointer (some ⟨C, 0, none⟩), .pointer (some ⟨X, 0, none⟩)]] W fun e w' =>
      e = .returned (.slice (some ⟨gb, 0, none⟩) (othF m.edges zs (fa m.faces i).id).length cb) ∧ (IntsAt w' (some ⟨gb, 0, none⟩) (othF m.edges zs (fa m.faces i).id) ∧ W.grownBy w' (some gb)) := by
  have h := delF_any (fun y => canF m.edges (fa m.faces i).id y != 0) 89 #[.pointer (some ⟨Bm, 0, none⟩), .pointer (some ⟨C, 0, none⟩), .pointer (some ⟨X, 0, none⟩)] (fun args w => by go_simp) gb cb zs.toArray W hlt hH (by simp; omega) (by simpa using hcap) (fun V j hg hj => by
    have hj' : j < zs.length := by simpa using hj
    have e1 : zs.toArray[j]! = zs[j] := by rw [getElem!_pos zs.toArray j hj]; simp
    rw [e1]
    obtain ⟨k, hk, ek⟩ := hz zs[j] (List.getElem_mem hj')
    have hV : Ext w0 V := Ext.grow_ge hE hg (fun b e => by simp only [Option.some.injEq] at e; omega)
    have := fnot_any m a b o r i k Bm C X V (hm.keep hV) hA hok.ap (hM.keep hV) hi hk hok.elen (by rw [hok.dis i hi, hok.dis k hk]) (by rw [hok.dis k hk]; exact hok.pos) (hok.nm i k hi hk) (blk_ext hB hV) (cell_ext hV hC) (cell_ext hV hX)
    rw [ek] at this
    exact this)
  exact h
theorem flong_any (m : Mp) (a : Ma) (i Bm X gb cb : Nat) (d : Int) (w0 W : World) (zs : List Int) (hm : MpAt w0 a m) (hok : FuseOk m d)
    (hB : w0.heap[Bm]? = some (.cells (a.cells m).toArray 41 (0, 0))) (hX : w0.cell? ⟨X, 0, none⟩ = some (.int .i64 (fa m.faces i).id)) (hE : Ext w0 W) (hA : IntsAt W (some ⟨gb, 0, none⟩) zs) (hn : zs.length < 1000000) :
    Calls Tryz.prog 92 #[.slice (some ⟨gb, 0, none⟩) zs.length cb, .func (.func 90) #[] #[.pointer (some ⟨Bm, 0, none⟩), .pointer (some ⟨X, 0, none⟩)]] W fun e w' =>
      e = .returned (.tuple #[.int .i64 (bestF (fun y => sumB m.edges (fa m.faces i).id y m.edges.length) zs zs.length), .bool (decide (0 < zs.length))]) ∧ Ext W w' := by
  exact longest_any (fun y => sumB m.edges (fa m.faces i).id y m.edges.length) zs (some ⟨gb, 0, none⟩) cb 90 _ (fun args w => by go_simp) W (by omega) hA (fun V z hV hz => by
    have hV' := Ext.trans hE hV
    exact fbord_any m a (fa m.faces i).id z Bm X V (hm.keep hV') (blk_ext hB hV') (cell_ext hV' hX) (fun k hk => hok.ln k hk) (fun k hk => hok.sum _ _ k hk))
theorem fclone_any (g c : Nat) (zs : List Int) (W : World) (hc : ∀ j, j < zs.length → W.cell? ⟨g, j, none⟩ = some (.int .i64 (zs.getD j 0))) (hn : zs.length < 1000000) (h0 : 0 < zs.length) :
    Calls Tryz.prog 88 #[.slice (some ⟨g, 0, none⟩) zs.length c] W fun e w' => (∃ gb cb, e = .returned (.slice (some ⟨gb, 0, none⟩) zs.length cb) ∧ W.heap.size ≤ gb ∧ gb < w'.heap.size ∧ zs.length ≤ cb ∧ HoldI w' gb zs.toArray) ∧ Ext W w' := by
  refine (Tryz.slices_Clone_int g 0 zs.length c zs W (Nat.le_refl _) (by omega) (fun j hj => by rw [Nat.zero_add]; exact hc j hj)).mono ?_
  rintro e w' ⟨v', rfl, hO, _, hE⟩
  rw [List.take_of_length_le (Nat.le_refl _)] at hO
  rcases (show OwnI w' W.heap.size v' zs from hO).form with ⟨h1, _⟩ | ⟨gb, cb, rfl, h1, h2, h3, _, hH⟩
  · rw [h1] at h0; simp at h0
  · exact ⟨⟨gb, cb, rfl, h1, h2, h3, fun j hj => by have := hH j hj; rw [Nat.zero_add] at this; exact this⟩, hE⟩
set_option maxRecDepth 100000 in
set_option maxHeartbeats 8000000 in
theorem fall_any (m : Mp) (a : Ma) (b o : Nat) (d : Int) (w : World) (hm : MpAt w a m) (hA : a.fa = some ⟨b, o, none⟩) (hok : FuseOk m d) :
    Calls Tryz.prog 43 #[.agg (a.cells m).toArray, .int .i64 d] w fun e w' => (∃ v, e = .returned v ∧ OwnE w' w.heap.size v (allF m.edges m.faces (idsF m.faces) m.faces.length)) ∧ Ext w w' := by
  have hap := hok.ap
  have hE1 := Ext.alloc w (.cells (a.cells m).toArray 41)
  have hB := Go.heap_alloc_new w (.cells (a.cells m).toArray 41)
  have HK : Hid (Calls Tryz.prog 83 #[.agg #[.slice a.ea m.edges.length a.ec, .slice a.fa m.faces.length a.fc, .slice a.wa m.ways.length a.wc, .slice a.pa m.places.length a.pc]] (w.alloc (.cells (a.cells m).toArray 41)) fun e w' => ∃ r, e = .returned (.map (some r)) ∧ (w.alloc (.cells (a.cells m).toArray 41)).heap.size ≤ r ∧ MapI w' r (knF b o m.faces m.faces.length) ∧ Ext (w.alloc (.cells (a.cells m).toArray 41)) w') := Lib.hid (known_any m a b o _ (hm.keep hE1) hA hap)
  obtain ⟨z0, z1, z2, z3⟩ := Ma.box hB
  have HE := Lib.hid hE1
  have HBx := Lib.hid (fun W h => blk_ext hB (show Ext (w.alloc (.cells (a.cells m).toArray 41)) W from h))
  have hkl : (knF b o m.faces m.faces.length).length = m.faces.length := by unfold knF; simp
  have hki := kn_ids b o m.faces
  clear hB hE1
  obtain ⟨kl, hkn⟩ : ∃ kl, knF b o m.faces m.faces.length = kl := ⟨_, rfl⟩
  rw [hkn] at HK hkl hki
  have HKL := Lib.hid hkl
  have HKI := Lib.hid hki
  have HL2 : Hid (kl.length < 1000000) := Lib.hid (by have := hok.few; omega)
  have HHM := Lib.hid (fun W (h : Ext w W) => hm.keep h)
  have HOK := Lib.hid hok
  clear hkl hok hm hap hki
  have HA := Lib.hid hA
  have HN := Lib.hid hkn
  clear hA hkn
  go_enter Tryz.func43, Tryz.ntmps43
  go_wp2_with fail
  refine HK.out.mono ?_
  rintro e w' ⟨r, rfl, hr, hM, hE'⟩
  clear z0 z1 z2 z3
  have HM := Lib.hid hM
  have HR := Lib.hid hr
  have HE' := Lib.hid (Ext.trans HE.out hE')
  have HBw := Lib.hid (HBx.out w' hE')
  clear hM hr hE'
  have hb5 := Go.heap_alloc_new w' (.cells #[.map (some r)] 126)
  have hc5 := cells_of hb5 0 _ rfl
  have HB5 := Lib.hid hb5
  have HE5 := Lib.hid (Ext.alloc w' (.cells #[.map (some r)] 126))
  have HM5 := Lib.hid (HM.out.keep HE5.out)
  have HS5 : Hid ((w'.alloc (.cells #[.map (some r)] 126)).heap.size = w'.heap.size + 1) := Lib.hid (World.size_alloc _ _)
  clear hb5
  go_wp2_with (refine rg_I rfl (.tmp 17) rfl r kl rfl HM5.out ?_)
  have hI0 : IterI ((w'.alloc (.cells #[.map (some r)] 126)).alloc (.mapIter (some r) kl.length #[] kl.length)) (w'.alloc (.cells #[.map (some r)] 126)).heap.size r kl [] := Go.heap_alloc_new _ _
  have hE6 := Ext.alloc (w'.alloc (.cells #[.map (some r)] 126)) (.mapIter (some r) kl.length #[] kl.length)
  rw [World.size_alloc] at hI0
  have HI0 := Lib.hid hI0
  have HE6 := Lib.hid hE6
  have HS6 : Hid (((w'.alloc (.cells #[.map (some r)] 126)).alloc (.mapIter (some r) kl.length #[] kl.length)).heap.size = w'.heap.size + 2) := Lib.hid (by rw [World.size_alloc, World.size_alloc])
  clear hc5 hI0 hE6
  simp only [Act.put, List.setIfInBounds_toArray, List.set_cons_succ, List.set_cons_zero, World.size_alloc]
  generalize (w'.alloc (.cells #[.map (some r)] 126)).alloc (.mapIter (some r) kl.length #[] kl.length) = W0 at *
  generalize w'.alloc (.cells #[.map (some r)] 126) = wC at *
  go_loopw [6] (fun s6 wr => ∃ vis : List Nat, Hid (IterI wr (w'.heap.size + 1) r kl vis) ∧ Hid (vis.Nodup) ∧ Hid (∀ i ∈ vis, i < kl.length) ∧ Hid (OwnI wr (w'.heap.size + 2) s6 (vis.map (keyAt kl))) ∧ Hid (Ext wC wr)) (fun s6 _ => kl.length - lenV s6)
  case atStart => exact ⟨[], HI0, Lib.hid List.nodup_nil, Lib.hid (fun i h => absurd h (by simp)), Lib.hid (OwnI.nil _ _), HE6⟩
  case round =>
    obtain ⟨vis, hI, hnd, hlt, hO, hE⟩ := hrel
    have HM7 := Lib.hid (HM5.out.keep hE.out)
    have HLEN := Lib.hid (nodup_len hnd.out hlt.out)
    have hlv := Lib.hid (hO.out.lenV)
    have HOLT := Lib.hid (hO.out.lt)
    go_wp2_with (refine nx_I rfl (.tmp 18) rfl (w'.heap.size + 1) r kl vis rfl hI.out HM7.out ?last ?more)
    case last =>
      intro hall
      have HIDS : Hid ((vis.map (keyAt kl)).mergeSort (fun x y => decide (x ≤ y)) = idsF m.faces) := Lib.hid (by
        unfold idsF
        rw [← HKI.out]
        exact sort_perm (keys_sorted hnd.out hlt.out hall))
      have HSO := Lib.hid (sortI_any _ _ (vis.map (keyAt kl)) wr hO.out (by rw [List.length_map]; have := HLEN.out; have := HL2.out; omega))
      clear hall HI0 HE6 hlt hnd hI
      go_wp2_with fail
      refine HSO.out.mono ?_
      rintro e ws ⟨rfl, hOs, hgs⟩
      rw [HIDS.out] at hOs
      have hES : Ext wC ws := Ext.grow_ge hE.out hgs (fun g e => by have := (HOLT.out g e).1; have := HS5.out; omega)
      have hzl := ids_len m.faces
      rcases hOs.form with ⟨h0, _⟩ | ⟨g, c, hv, hbg, hgs2, hcc, hcm, hHs⟩
      · have := HOK.out.some_
        rw [h0] at hzl; simp at hzl; omega
      rw [hzl] at hv
      subst hv
      have HIC := Lib.hid (fun W (h : Ext ws W) j (hj : j < (idsF m.faces).length) => (show W.cell? ⟨g, j, none⟩ = some (.int .i64 ((idsF m.faces).getD j 0)) from by
        have := (hHs j (by simpa using hj)).1
        rw [Nat.zero_add, getElem!_pos (idsF m.faces).toArray j (by simpa using hj)] at this
        rw [cell_ext h this]
        simp [List.getD_eq_getElem?_getD, hj]))
      have HZM := Lib.hid (fun x (hx : x ∈ idsF m.faces) => ids_mem hx)
      have HWT := Lib.hid (fun i (hi : i < m.faces.length) => wt_of HOK.out.ap hi)
      have HES := Lib.hid hES
      have HZL := Lib.hid hzl
      clear hOs hgs hES hzl hbg hgs2 hcc hcm hHs HSO hO HOLT hlv HLEN hE HM7 HIDS HKI
      generalize hzs : idsF m.faces = zs at *
      have HZS := Lib.hid hzs
      clear hzs
      obtain ⟨n, hn⟩ : ∃ n, m.faces.length = n := ⟨_, rfl⟩
      have HNF := Lib.hid hn
      rw [hn] at HZL
      simp only [hn]
      have hnm : n < 1000000 := by have := HOK.out.few; omega
      have hzn : zs.length = n := HZL.out
      clear hn
      go_wp2_with fail
      go_loopw [8, 31] (fun s8 s31 wl => ∃ k : Nat, k ≤ n ∧ s31 = .int .i64 k ∧ Hid (OwnE wl ws.heap.size s8 (allF m.edges m.faces zs k)) ∧ Hid (Ext ws wl)) (fun _ s31 _ => n - (intOf s31).toNat)
      case atStart => exact ⟨0, Nat.zero_le _, rfl, Lib.hid (OwnE.nil _ _), Lib.hid (Ext.refl _)⟩
      case round =>
        obtain ⟨k, hk, rfl, hO, hE⟩ := hrel
        by_cases hlt : k < n
        · have hmem : zs.getD k 0 ∈ zs := by rw [List.getD_eq_getElem?_getD, List.getElem?_eq_getElem (by omega)]; exact List.getElem_mem _
          obtain ⟨i, hi, hx⟩ := HZM.out _ hmem
          have q := HIC.out wr hE.out k (by omega)
          rw [← hx] at q
          have hE1 := Ext.alloc wr (.cells #[.int .i64 (fa m.faces i).id] 3)
          have hsX : Ext ws (wr.alloc (.cells #[.int .i64 (fa m.faces i).id] 3)) := Ext.trans hE.out hE1
          have hcX : Ext wC (wr.alloc (.cells #[.int .i64 (fa m.faces i).id] 3)) := Ext.trans HES.out hsX
          have hpX : Ext w' (wr.alloc (.cells #[.int .i64 (fa m.faces i).id] 3)) := Ext.trans HE5.out hcX
          have hwX : Ext w (wr.alloc (.cells #[.int .i64 (fa m.faces i).id] 3)) := Ext.trans HE'.out hpX
          have hmX := HHM.out _ hwX
          have hMX := HM5.out.keep hcX
          have hBX := blk_ext HBw.out hpX
          have hCX := cells_of (blk_ext HB5.out hcX) 0 _ rfl
          have hXX := cells_of (Go.heap_alloc_new wr (.cells #[.int .i64 (fa m.faces i).id] 3)) 0 _ rfl
          have HEV : Hid (allF m.edges m.faces zs (k + 1) = allF m.edges m.faces zs k ++ evF m.edges m.faces zs (fa m.faces i).id) := Lib.hid (by rw [hx]; rfl)
          have HCLN := Lib.hid (fun W (h : Ext ws W) => fclone_any g c zs W (HIC.out W h) (by omega) (by omega))
          rw [hzn] at HCLN
          have HDEL := Lib.hid (fun W gb cb h1 h2 h3 h4 h5 => fdel_any m a b o r i w.heap.size w'.heap.size wr.heap.size gb cb d _ W zs hmX HA.out HOK.out (by rw [HN.out]; exact hMX) hi hBX hCX hXX HZM.out h1 h2 h3 h4 (by omega) h5)
          rw [hzn] at HDEL
          have HLNG := Lib.hid (fun W gb cb os h1 h2 h3 => flong_any m a i w.heap.size wr.heap.size gb cb d _ W os hmX HOK.out hBX hXX h1 h2 h3)
          have hrowf := hmX.faces
          unfold FasAt at hrowf
          rw [HA.out] at hrowf
          have qd := RowAt.cell hrowf (j := i) (i := 4) hi rfl
          have qw := RowAt.cell hrowf (j := i) (i := 3) hi rfl
          rw [HOK.out.dis i hi] at qd
          have HG := getF_kn (b := b) (o := o) HOK.out.ap hi (Nat.le_refl _)
          rw [HN.out] at HG
          have HGX := Lib.hid HG
          have HMX := Lib.hid (fun W (h : Ext (wr.alloc (.cells #[.int .i64 (fa m.faces i).id] 3)) W) => hMX.keep h)
          have HQX := Lib.hid (fun W (h : Ext (wr.alloc (.cells #[.int .i64 (fa m.faces i).id] 3)) W) => And.intro (cell_ext h hCX) (And.intro (cell_ext h hXX) (cell_ext h qw)))
          have HM1 := Lib.hid (hMX)
          have HXX := Lib.hid (hXX)
          have hwb := HOK.out.wt i hi
          have HWI := Lib.hid (HWT.out i hi)
          have hd1 : decide (d < 1) = false := by have := HOK.out.pos; simp; omega
          have HEl := hE
          have HEX := Lib.hid hE1
          have HSX := Lib.hid hsX
          clear hmem hE1 hsX hcX hpX hwX hmX hMX hBX HIC HZM HWT hrowf HG hx hE qw
          generalize (fa m.faces i).id = x at *
          generalize (fa m.faces i).weight = wt at *
          clear hi
          go_wp2_with fail
          rw [run_lookup_I _ r kl x HM1.out, HGX.out]
          go_wp2_with fail
          have HZN := Lib.hid hzn
          clear hzn
          refine (HCLN.out _ HSX.out).mono ?_
          rintro e wk ⟨⟨gb, cb, rfl, lo, hi2, hcb, hHk⟩, hEk⟩
          rw [World.size_alloc] at lo
          have HDE := Lib.hid (HDEL.out wk gb cb hEk (by rw [World.size_alloc]; exact lo) hi2 hHk hcb)
          have HEK := Lib.hid hEk
          clear hHk HCLN HDEL hi2 hcb hEk
          go_wp2_with fail
          refine HDE.out.mono ?_
          rintro e wd ⟨rfl, hIA, hgd⟩
          have HXD := Lib.hid (Ext.grow_ge HEK.out hgd (fun b e => by simp only [Option.some.injEq] at e; rw [World.size_alloc]; omega))
          clear hgd HDE
          obtain ⟨os, hos⟩ : ∃ os, othF m.edges zs x = os := ⟨_, rfl⟩
          have hol : os.length < 1000000 := by
            have : os.length ≤ zs.length := by rw [← hos]; exact List.length_filter_le _ _
            have := HZN.out
            omega
          rw [hos] at hIA
          rw [hos]
          have HOS := Lib.hid hos
          have HLN := Lib.hid (HLNG.out wd gb cb os HXD.out hIA hol)
          have HWB := Lib.hid hwb
          have HNM := Lib.hid hnm
          have HEF : Hid (evF m.edges m.faces zs x = if os.length = 0 then [] else [⟨2, max 1 (4 * wt), x, bestF (fun y => sumB m.edges x y m.edges.length) os os.length, 0⟩]) := Lib.hid (by unfold evF; rw [HOS.out, HWI.out])
          clear hos hIA HLNG lo q qd hCX hXX hwb hd1 hol hnm
          go_wp2_with fail
          refine HLN.out.mono ?_
          rintro e wl ⟨rfl, hEl2⟩
          have HXL := Lib.hid (Ext.trans HXD.out hEl2)
          have HSL := Lib.hid (Ext.trans HSX.out HXL.out)
          clear hEl2 HLN
          have hnm := HNM.out
          generalize bestF (fun y => sumB m.edges x y m.edges.length) os os.length = best at *
          by_cases h0 : os.length = 0
          · have t0 : decide (0 < os.length) = false := decide_eq_false (by omega)
            have HEV2 : Hid (allF m.edges m.faces zs (k + 1) = allF m.edges m.faces zs k) := Lib.hid (by rw [HEV.out, HEF.out, if_pos h0, List.append_nil])
            clear h0
            go_wp2_with fail
            go_roundw
            case rel => exact ⟨k + 1, by omega, by go_num, Lib.hid (by rw [HEV2.out]; exact hO.out.ext (Ext.trans HEX.out HXL.out)), HSL⟩
            case measure => simp [intOf]; omega
          · have t0 : decide (0 < os.length) = true := decide_eq_true (by omega)
            have HEV2 : Hid (allF m.edges m.faces zs (k + 1) = allF m.edges m.faces zs k ++ [⟨2, max 1 (4 * wt), x, best, 0⟩]) := Lib.hid (by rw [HEV.out, HEF.out, if_neg h0])
            clear h0
            have HQ := Lib.hid (fun W (h : Ext wl.drew W) => HQX.out W (Ext.trans HXL.out (Ext.trans (Ext.drew wl) h)))
            have HMW := Lib.hid (fun W (h : Ext wl.drew W) => HMX.out W (Ext.trans HXL.out (Ext.trans (Ext.drew wl) h)))
            have HOW := Lib.hid (fun W (h : Ext wl.drew W) => hO.out.ext (Ext.trans HEX.out (Ext.trans HXL.out (Ext.trans (Ext.drew wl) h))))
            have HLW := Lib.hid (allF_len m.edges m.faces zs k)
            have HWW : Hid (4 * wt ≤ 4000000 ∧ 0 ≤ 4 * wt) := Lib.hid (by have := HWB.out; omega)
            have e4 : IntKind.i64.wrap (4 * wt) = 4 * wt := IntWalk.i64_in _ (by have := HWW.out; omega)
            obtain ⟨mx, hmx⟩ : ∃ mx, max 1 (4 * wt) = mx := ⟨_, rfl⟩
            rw [hmx] at HEV2
            go_wp2_with fail
            apply wp_region_seq (l := [_, _, _, _, _, _, _, _, _, _, _, _, _]) (t := [_, _]) [some 59, some 60, some 61, some 62, some 63, some 64, some 65, some 66, some 67, some 68, some 69, some 70, some 71, some 72, some 8] [[], [], [], [1, 2], [3], [4], [5], [6], [7], [], [], [8, 9, 10], [11], [0, 12], [13]] [13, 3, 3, 4, 5, 6, 7, 8, 11, 11, 11, 12, 13] [eqv _, eqv _, eqv _, (eqv (.pointer (some ⟨b, o + i * 5, none⟩))), eqv _, eqv _, (eqv (.int .i64 wt)), (eqv (.int .i64 (4 * wt))), (eqv (.int .i64 mx)), eqv _, eqv _, (eqv (.agg #[.int .i64 2, .int .i64 mx, .int .i64 x, .int .i64 best, .int .i64 0])), (slE [⟨2, mx, x, best, 0⟩])] (by kernel_rfl) (by kernel_rfl) ⟨?o0, ?o1, ?o2, ?o3, ?o4, ?o5, ?o6, ?o7, ?o8, ?o9, ?o10, ?o11, ?o12, trivial⟩ ?last
            case o0 => -- Op.move (Operand.tmp 8)
              intro xv W hE _
              simp only [putD, List.foldl_nil, List.getD_cons_zero]
              refine OpGoal.plain ?_
              go_wp2_with fail
              exact ⟨rfl, Ext.refl _, rfl⟩
            case o1 => -- Op.load 126 (Operand.tmp 5)
              intro xv W hE _
              obtain ⟨c0, c1, c2⟩ := HQ.out W hE
              simp only [putD, List.foldl_nil, List.getD_cons_zero, List.getD_cons_succ]
              refine OpGoal.plain ?_
              go_wp2_with fail
              exact ⟨rfl, Ext.refl _, rfl⟩
            case o2 => -- Op.load 3 (Operand.tmp 10)
              intro xv W hE _
              obtain ⟨c0, c1, c2⟩ := HQ.out W hE
              simp only [putD, List.foldl_nil, List.getD_cons_zero, List.getD_cons_succ]
              refine OpGoal.plain ?_
              go_wp2_with fail
              exact ⟨rfl, Ext.refl _, rfl⟩
            case o3 => -- Op.lookup 126 (Operand.tmp 60) (Operand.tmp 61) false
              intro xv W hE hp
              have r1 : xv 1 = _ := hp.1
              have r2 : xv 2 = _ := hp.2.1
              clear hp
              simp only [putD, List.foldl_nil, List.foldl_cons, List.getD_cons_zero, List.getD_cons_succ, Act.put, List.setIfInBounds_toArray, List.set_cons_zero, List.set_cons_succ]
              refine OpGoal.plain ?_
              simp only [r1, r2]
              refine lk_I rfl (.tmp 60) (.tmp 61) rfl r _ x rfl rfl (HMW.out W hE) ?_
              rw [HGX.out]
              go_wp2_with fail
              exact ⟨rfl, Ext.refl _, rfl⟩
            case o4 => -- Op.nilCheck (Operand.tmp 62)
              intro xv W hE hp
              have r3 : xv 3 = _ := hp.1
              clear hp
              simp only [putD, List.foldl_nil, List.foldl_cons, List.getD_cons_zero, List.getD_cons_succ, Act.put, List.setIfInBounds_toArray, List.set_cons_zero, List.set_cons_succ]
              refine OpGoal.plain ?_
              go_wp2_with fail
              exact ⟨rfl, Ext.refl _, rfl⟩
            case o5 => -- Op.fieldAddr 79 (Operand.tmp 63) 3
              intro xv W hE hp
              have r4 : xv 4 = _ := hp.1
              clear hp
              simp only [putD, List.foldl_nil, List.foldl_cons, List.getD_cons_zero, List.getD_cons_succ, Act.put, List.setIfInBounds_toArray, List.set_cons_zero, List.set_cons_succ]
              refine OpGoal.plain ?_
              go_wp2_with fail
              exact ⟨rfl, Ext.refl _, rfl⟩
            case o6 => -- Op.load 3 (Operand.tmp 64)
              intro xv W hE hp
              have r5 : xv 5 = _ := hp.1
              clear hp
              obtain ⟨c0, c1, c2⟩ := HQ.out W hE
              simp only [putD, List.foldl_nil, List.foldl_cons, List.getD_cons_zero, List.getD_cons_succ, Act.put, List.setIfInBounds_toArray, List.set_cons_zero, List.set_cons_succ]
              refine OpGoal.plain ?_
              go_wp2_with fail
              exact ⟨rfl, Ext.refl _, rfl⟩
            case o7 => -- Op.binOp BinOp.mul 3 (Operand.const (Value.int IntKind.i64 4)) (Operand.tmp 65) 
              intro xv W hE hp
              have r6 : xv 6 = _ := hp.1
              clear hp
              simp only [putD, List.foldl_nil, List.foldl_cons, List.getD_cons_zero, List.getD_cons_succ, Act.put, List.setIfInBounds_toArray, List.set_cons_zero, List.set_cons_succ]
              refine OpGoal.plain ?_
              go_wp2_with fail
              exact ⟨rfl, Ext.refl _, rfl⟩
            case o8 => -- Op.call { callee := Callee.builtin Builtin.max, args := #[Operand.const (Value.i
              intro xv W hE hp
              have r7 : xv 7 = _ := hp.1
              clear hp
              simp only [putD, List.foldl_nil, List.foldl_cons, List.getD_cons_zero, List.getD_cons_succ, Act.put, List.setIfInBounds_toArray, List.set_cons_zero, List.set_cons_succ]
              refine OpGoal.plain ?_
              go_wp2_with fail
              exact ⟨rfl, Ext.refl _, rfl⟩
            case o9 => -- Op.load 3 (Operand.tmp 10)
              intro xv W hE _
              obtain ⟨c0, c1, c2⟩ := HQ.out W hE
              simp only [putD, List.foldl_nil, List.getD_cons_zero, List.getD_cons_succ]
              refine OpGoal.plain ?_
              go_wp2_with fail
              exact ⟨rfl, Ext.refl _, rfl⟩
            case o10 => -- Op.move (Operand.tmp 13)
              intro xv W hE _
              simp only [putD, List.foldl_nil, List.getD_cons_zero, List.getD_cons_succ]
              refine OpGoal.plain ?_
              go_wp2_with fail
              exact ⟨rfl, Ext.refl _, rfl⟩
            case o11 => -- Op.build 23 #[(0, Operand.const (Value.int IntKind.i64 2)), (1, Operand.tmp 67),
              intro xv W hE hp
              have r8 : xv 8 = _ := hp.1
              have r9 : xv 9 = _ := hp.2.1
              have r10 : xv 10 = _ := hp.2.2.1
              clear hp
              simp only [putD, List.foldl_nil, List.foldl_cons, List.getD_cons_zero, List.getD_cons_succ, Act.put, List.setIfInBounds_toArray, List.set_cons_zero, List.set_cons_succ]
              refine OpGoal.plain ?_
              go_wp2_with fail
              exact ⟨rfl, Ext.refl _, rfl⟩
            case o12 => -- Op.buildSlice 28 1 #[(0, Operand.tmp 70)]
              intro xv W hE hp
              have r11 : xv 11 = _ := hp.1
              clear hp
              simp only [putD, List.foldl_nil, List.foldl_cons, List.getD_cons_zero, List.getD_cons_succ, Act.put, List.setIfInBounds_toArray, List.set_cons_zero, List.set_cons_succ]
              refine OpGoal.plain ?_
              go_wp2_with fail
              exact ⟨rfl, Ext.alloc _ _, W.heap.size, rfl, fun j u hu => by
                have hb := Go.heap_alloc_new W (.cells #[.int .i64 2, .int .i64 mx, .int .i64 x, .int .i64 best, .int .i64 0] 23)
                exact cells_of hb j u (by simpa [Ev.cells] using hu)⟩
            case last =>
              intro xv W hE hp
              have r0 : xv 0 = _ := hp.1
              have r1 : xv 1 = _ := hp.2.1
              have r2 : xv 2 = _ := hp.2.2.1
              have r3 : xv 3 = _ := hp.2.2.2.1
              have r4 : xv 4 = _ := hp.2.2.2.2.1
              have r5 : xv 5 = _ := hp.2.2.2.2.2.1
              have r6 : xv 6 = _ := hp.2.2.2.2.2.2.1
              have r7 : xv 7 = _ := hp.2.2.2.2.2.2.2.1
              have r8 : xv 8 = _ := hp.2.2.2.2.2.2.2.2.1
              have r9 : xv 9 = _ := hp.2.2.2.2.2.2.2.2.2.1
              have r10 : xv 10 = _ := hp.2.2.2.2.2.2.2.2.2.2.1
              have r11 : xv 11 = _ := hp.2.2.2.2.2.2.2.2.2.2.2.1
              obtain ⟨g1, r12, h12⟩ := hp.2.2.2.2.2.2.2.2.2.2.2.2.1
              clear hp
              simp only [putD, List.foldl_nil, List.foldl_cons, List.getD_cons_zero, List.getD_cons_succ, Act.put, List.length_cons, List.length_nil, List.range_succ, List.range_zero, List.nil_append, List.cons_append, List.setIfInBounds_toArray, List.set_cons_zero, List.set_cons_succ]
              have HX2 := Lib.hid (Ext.trans HSL.out (Ext.trans (Ext.drew wl) hE))
              have HO2 := Lib.hid (HOW.out W hE)
              have HR2 := Lib.hid h12
              have HOL := Lib.hid (HO2.out.lt)
              have HLL : Hid ((allF m.edges m.faces zs k).length + ([⟨2, mx, x, best, 0⟩] : List Ev).length < 4294967296) := Lib.hid (by have := HLW.out; have := HNM.out; simp only [List.length_singleton]; omega)
              have HSS := Lib.hid HX2.out.sz
              simp only [r0, r12]
              clear r0 r1 r2 r3 r4 r5 r6 r7 r8 r9 r10 r11 r12 h12 hE
              go_wp2_with (refine app_E rfl 59 71 rfl ws.heap.size _ _ rfl HO2.out g1 1 1 [⟨2, mx, x, best, 0⟩] rfl rfl HR2.out HLL.out HSS.out ?_; intro v3 w3 hO3 hg3)
              go_roundw
              case rel => exact ⟨k + 1, by omega, by go_num, Lib.hid (by rw [HEV2.out]; exact hO3), Lib.hid (Ext.grow_ge HX2.out hg3 (fun g e => (HOL.out g e).1))⟩
              case measure => simp [intOf]; omega
        · obtain rfl : k = n := by omega
          have t : decide (k < k) = false := by simp
          go_wp2_with fail
          go_ret
          have hEww := Ext.trans HE'.out (Ext.trans HE5.out (Ext.trans HES.out hE.out))
          exact ⟨⟨_, rfl, OwnE.base_ (by rw [HZS.out, HNF.out]; exact hO.out) (Ext.trans HE'.out (Ext.trans HE5.out HES.out)).sz⟩, hEww⟩
    case more =>
      intro i v W1 hi hni hI1 hM1 hg1
      have HO1 := Lib.hid (hO.out.kept hg1 (by omega))
      have HEW := Lib.hid (Ext.grow_ge hE.out hg1 (fun g e => by simp only [Option.some.injEq] at e; have := HS5.out; omega))
      have HI1 := Lib.hid hI1
      have HM1 := Lib.hid (HM5.out.keep HEW.out)
      have HNI := Lib.hid hni
      have HG1 := Lib.hid hg1.size
      have HHI := Lib.hid hi
      clear hni hI1 hM1 hg1 hi HI0 HE6 hI
      have hbx := cells_of (Go.heap_alloc_new W1 (.cells #[.int .i64 (keyAt kl i)] 3)) 0 _ rfl
      have HBX := Lib.hid hbx
      clear hbx
      have HO2 := Lib.hid (HO1.out.ext (Ext.alloc W1 (.cells #[.int .i64 (keyAt kl i)] 3)))
      have HBS : Hid (w'.heap.size + 2 ≤ (W1.alloc (.cells #[.int .i64 (keyAt kl i)] 3)).heap.size) := Lib.hid (by
        rw [World.size_alloc]
        have := HEW.out.sz
        have := HS5.out
        omega)
      have HLL : Hid ((vis.map (keyAt kl)).length < 4294967296) := Lib.hid (by rw [List.length_map]; have := HLEN.out; have := HL2.out; omega)
      go_wp2_with (first | (refine en_I rfl (.tmp 18) rfl (w'.heap.size + 1) r i kl vis HHI.out rfl HI1.out HM1.out ?_; intro v2) | (refine app_I rfl 23 25 rfl (w'.heap.size + 2) _ (vis.map (keyAt kl)) rfl HO2.out W1.heap.size (keyAt kl i) rfl HBX.out HLL.out HBS.out ?_; intro v3 w3 hO3 hg3))
      go_roundw
      case rel =>
        refine ⟨vis ++ [i], Lib.hid (IterI.kept (blk_ext HI1.out (Ext.alloc _ _)) hg3 (fun e => by have := (HOLT.out _ e).1; omega)), Lib.hid ?_, Lib.hid ?_, Lib.hid (by rw [List.map_append]; exact hO3), Lib.hid (Ext.grow_ge (Ext.trans HEW.out (Ext.alloc _ _)) hg3 (fun g e => by have := (HOLT.out g e).1; have := HS5.out; omega))⟩
        · rw [List.nodup_append]
          exact ⟨hnd.out, by simp, fun a ha c hc => by
            obtain rfl : c = i := by simpa using hc
            exact fun e => HNI.out (e ▸ ha)⟩
        · intro j hj
          rcases List.mem_append.1 hj with h | h
          · exact hlt.out j h
          · obtain rfl : j = i := by simpa using h
            exact HHI.out
      case measure =>
        have e1 := hO3.lenV
        have e2 := hlv.out
        have e3 := nodup_len (vis := vis ++ [i]) (n := kl.length) (by
          rw [List.nodup_append]
          exact ⟨hnd.out, by simp, fun a ha c hc => by
            obtain rfl : c = i := by simpa using hc
            exact fun e => HNI.out (e ▸ ha)⟩) (fun j hj => by
          rcases List.mem_append.1 hj with h | h
          · exact hlt.out j h
          · obtain rfl : j = i := by simpa using h
            exact HHI.out)
        simp only [List.length_append, List.length_map, List.length_singleton] at e1 e2 e3
        omega
end Go.Proofs.YtompfgofaplffaaGreatDoor
