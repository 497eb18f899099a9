/- The frame of a law that changes nothing: its arguments read behind the call as before. -/
import Derived.Test.YthppcmejffdicaaGreatDoorRows
import Derived.ProofKit
import Derived.ShutString
import Derived.OpenShut
import Derived.Carry
import Derived.Lib.SmallJoins
import Derived.SliceStrings
import Derived.Test.YthppcmejffdicaaGreatDoorQA
import Derived.Test.YthppcmejffdicaaGreatDoorQJzr
import Derived.LaidMore
import Derived.Stop.LaidErr
import Derived.Lib.LaidTab
import Derived.HandedShaped
import Derived.MakeChecks

set_option linter.unusedSimpArgs false
set_option linter.unusedVariables false
namespace Go.Proofs.YthppcmejffdicaaGreatDoor
open Go.RowKit Hach
open Go.ChangeShapes Go.WideShapes Go.ChangeAt

theorem laid : laidOutB Tryz.prog = true := by kernel_rfl
theorem trodAll_back {P : Program} (hl : laidOutB P = true) {H : Type} {enc : TypeId × Value → H} {W W' : World} (hb : Below W.heap.size W W') : ∀ (ts : List TypeId) (vs : List Value) (ds : List (DataW H)) (ps : List MemPlace), (∀ t ∈ ts, P.readableRec t = true ∧ t < P.types.size) →
    DataW.TrodAll enc P W 0 (fun _ => true) true ts vs ds ps → (∀ x ∈ ps, x.block < W.heap.size) → DataW.TrodAll enc P W' 0 (fun b => decide (b < W.heap.size)) true ts vs ds ps
  | [], vs, ds, ps, _, h, _ => by
    obtain ⟨rfl, rfl, rfl⟩ := trodAll_nil h
    exact trodAll_mk0
  | t :: ts, vs, ds, ps, ht, h, hlt => by
    obtain ⟨v, vs', d, ds', p, q, rfl, rfl, rfl, h0, r0⟩ := trodAll_cons h
    have h1 := ht t (List.mem_cons_self ..)
    exact trodAll_cons_mk (Below.trod hl h1.1 h1.2 h0 hb (fun x hx => hlt x (List.mem_append_left _ hx)))
      (trodAll_back hl hb ts vs' ds' q (fun u hu => ht u (List.mem_cons_of_mem _ hu)) r0 (fun x hx => hlt x (List.mem_append_right _ hx)))
theorem args_back {P : Program} (hl : laidOutB P = true) {H : Type} {enc : TypeId × Value → H} {W W' : World} (hb : Below W.heap.size W W') (ts : List TypeId) (vs : List Value) (ds : List (DataW H)) (ps : List MemPlace) (ht : (ts.all fun t => P.readableRec t && decide (t < P.types.size)) = true)
    (hA : DataW.TrodAll enc P W 0 (fun _ => true) true ts vs ds ps) (hlt : ∀ x ∈ ps, x.block < W.heap.size) : DataW.TrodAll enc P W' 0 (fun b => decide (b < W.heap.size)) true ts vs ds ps :=
  trodAll_back hl hb ts vs ds ps (fun t h => by
    have := List.all_eq_true.1 ht t h
    rw [Bool.and_eq_true] at this
    exact ⟨this.1, of_decide_eq_true this.2⟩) hA hlt
end Go.Proofs.YthppcmejffdicaaGreatDoor

/- The contracts of the laws' own small functions: opens, hex. -/
namespace Go.Proofs.YthppcmejffdicaaGreatDoor
open Go.RowKit Hach Num Jn

theorem KB.below {S : List Nat} {w w' : World} {B : Nat} (h : KB S w w') (hB : B ≤ w.heap.size) (hS : ∀ k ∈ S, B ≤ k) : Below B w w' :=
  ⟨h.os, h.tape, h.output, h.size, fun k hk => h.block k (by omega) fun hm => by have := hS k hm; omega⟩
theorem KB.dk {S : List Nat} {w w' : World} {T : TypeId} {b : Nat} {d : Dk} (h : KB S w w') (hD : DkAt T w b d) (hb : b ∉ S) : DkAt T w' b d := (h.block b hD.lt hb).trans hD
theorem KB.lg {S : List Nat} {w w' : World} {T : TypeId} {b n : Nat} {d : Option Nat} {br : Bool} (h : KB S w w') (hL : LgAt T w b d n br) (hb : b ∉ S) : LgAt T w' b d n br := (h.block b hL.lt hb).trans hL
theorem KB.more {S S' : List Nat} {w w' : World} (h : KB S w w') (hS : ∀ k ∈ S, k ∈ S' ∨ w.heap.size ≤ k) : KB S' w w' :=
  ⟨h.os, h.tape, h.output, h.size, fun i hi h' => h.block i hi fun hm => (hS i hm).elim h' fun hge => by omega⟩
theorem RowT.kb {S : List Nat} {w w' : World} {A : Option Addr} {n : Nat} {xs : List (List UInt8)} {B : Nat} (h : RowT w B A n xs) (hk : KB S w w') (hB : B ≤ w.heap.size) (hS : ∀ k ∈ S, B ≤ k) : RowT w' B A n xs :=
  ⟨h.1, fun h0 => by
    obtain ⟨b, o, e, hb, hc⟩ := h.2 h0
    exact ⟨b, o, e, hb, fun j hj => ((hk.below hB hS).cell (p := ⟨b, o + j, none⟩) hb).trans (hc j hj)⟩⟩
theorem RowT.kbs {S : List Nat} {w w' : World} {A : Option Addr} {n : Nat} {xs : List (List UInt8)} {B : Nat} (h : RowT w B A n xs) (hk : KB S w w') (hB : B ≤ w.heap.size) (hS : ∀ b o, A = some ⟨b, o, none⟩ → b ∉ S) : RowT w' w'.heap.size A n xs :=
  ⟨h.1, fun h0 => by
    obtain ⟨b, o, e, hb, hc⟩ := h.2 h0
    exact ⟨b, o, e, by have := hk.size; omega, fun j hj => (World.cell?_of_block (a := ⟨b, o + j, none⟩) (hk.block b (by omega) (hS b o e))).trans (hc j hj)⟩⟩

theorem hexL_any (s : List UInt8) (hs : s.length < 16777216) (w : World) : Calls Tryz.prog 35 #[.string ⟨s.toArray⟩] w fun e w' => e = .returned (.string ⟨(hexl (dgl s)).toArray⟩) ∧ Ext w w' := by
  go_enter Tryz.func35, Tryz.ntmps35
  go_wp2_with fail
  refine (Of_any ⟨s.toArray⟩ w (by rw [toArr_size]; omega)).mono ?_
  rintro e w1 ⟨rfl, hE1⟩
  rw [dg_list]
  go_wp2_with fail
  refine (hexR_any (dgl s) (by rw [dgl_length]; omega) w1).mono ?_
  rintro e w2 ⟨rfl, hE2⟩
  go_wp2_with fail
  go_ret
  exact ⟨rfl, Ext.trans hE1 hE2⟩

theorem open_len (d : Dk) : d.open_.2.text.length ≤ d.text.length + 1 := by
  unfold Dk.open_
  split
  · exact Nat.le_succ _
  · split
    · exact Nat.le_succ _
    · exact put_len d
/- a disk opens with just these records -/
def opens (d : Dk) (want : List (List UInt8)) : Bool := d.open_.1 && decide (recs d.open_.2.text = want)
set_option maxHeartbeats 1000000 in
theorem opens_any (b n c : Nat) (A : Option Addr) (d : Dk) (want : List (List UInt8)) (w : World) (hD : DkAt 65 w b d) (hk : DkOk d) (ht : d.text.length < 8388608) (hT : Tabs w) (hb6 : 6 ≤ b) (hW : RowT w w.heap.size A n want) (hA : ∀ k o, A = some ⟨k, o, none⟩ → k ≠ b) (hn : n < 1048576) :
    Calls Tryz.prog 33 #[.pointer (some ⟨b, 0, none⟩), .slice A n c] w fun e w' => e = .returned (.bool (opens d want)) ∧ DkAt 65 w' b d.open_.2 ∧ KB [b] w w' := by
  go_enter Tryz.func33, Tryz.ntmps33
  go_wp2_with fail
  refine (openP_any b d w hD hk ht hT hb6).mono ?_
  rintro e w1 ⟨hD1, hK1, ⟨ho, rfl⟩ | ⟨ho, g, v, rfl, hg, hgl, hL, hO⟩⟩
  · have hr : opens d want = false := by unfold opens; rw [ho]; rfl
    go_wp2_with fail
    go_ret
    exact ⟨by rw [hr]; rfl, hD1, hK1⟩
  · obtain ⟨Av, cv, rfl, hR⟩ := hO.form
    have hW1 := hW.kbs hK1 (Nat.le_refl _) (fun k o e => by have := hA k o e; simp; omega)
    have hr : opens d want = decide (recs d.open_.2.text = want) := by unfold opens; rw [ho]; rfl
    have hlen : (recs d.open_.2.text).length < 16777216 := by have h1 := recs_count _ d.open_.2.text (Nat.le_refl _); have h2 := open_len d; omega
    go_wp2_with fail
    refine (same_T Av A _ n cv c (recs d.open_.2.text) want w1 hR hW1 (by omega) (by omega)).mono ?_
    rintro e w2 ⟨rfl, hE2⟩
    have hL2 := hL.ext hE2
    by_cases hq : recs d.open_.2.text = want
    · have hnn : (recs d.open_.2.text).length = n := by rw [hq]; exact hW.1
      rw [decide_eq_true hq] at hr ⊢
      have HR := Lib.hid hr
      clear hr hq
      go_wp2_with fail
      refine (count_p g _ (some b) false w2 hL2).mono ?_
      rintro e w3 ⟨rfl, rfl⟩
      rw [hnn]
      go_wp2_with fail
      go_ret
      exact ⟨by rw [HR.out]; simp, hD1.ext hE2, hK1.trans (KB.ext hE2)⟩
    · rw [decide_eq_false hq] at hr ⊢
      go_wp2_with fail
      go_ret
      exact ⟨by rw [hr]; rfl, hD1.ext hE2, hK1.trans (KB.ext hE2)⟩
end Go.Proofs.YthppcmejffdicaaGreatDoor

/- A log on a disk in memory, and what Append and Open make of it. -/
namespace Go.Proofs.YthppcmejffdicaaGreatDoor
open Go.RowKit Hach Num Jn

theorem sync_ok {d : Dk} (h : DkOk d) : DkOk d.sync.2 := by
  have hw := works_ok h
  unfold Dk.sync
  split
  · exact ⟨Nat.zero_le _, hw.text, hw.lo, hw.hi, hw.go⟩
  · exact hw
theorem put_ok {d : Dk} (h : DkOk d) {s : List UInt8} (hs : d.text.length + s.length < 281474976710656) : DkOk (d.put s).2 := by
  have hw := write_ok h hs
  unfold Dk.put
  split
  · exact sync_ok hw
  · exact hw
theorem open_ok {d : Dk} (h : DkOk d) (hs : d.text.length < 281474976710655) : DkOk d.open_.2 := by
  unfold Dk.open_
  split
  · exact h
  · split
    · exact h
    · exact put_ok h (by simp; omega)
theorem crash_ok {d : Dk} (h : DkOk d) (k : Nat) : DkOk (d.crash k) := by
  unfold Dk.crash
  exact ⟨Nat.zero_le _, by simp only [List.length_take]; have := h.text; omega, by simp, by simp, by simp⟩
theorem fail_ok {d : Dk} (h : DkOk d) (n : Int) (h1 : -9223372036854775808 ≤ n) (h2 : n ≤ 9223372036854775807) : DkOk (d.fail n) := by
  unfold Dk.fail
  exact ⟨h.pend, h.text, h1, h2, fun e => by simpa using e⟩
theorem new_ok : DkOk Dk.new := ⟨Nat.le_refl _, by simp [Dk.new], by simp [Dk.new], by simp [Dk.new], by simp [Dk.new]⟩
theorem put_le (d : Dk) (s : List UInt8) : (d.put s).2.text.length ≤ d.text.length + s.length := by
  obtain ⟨t1, _, _⟩ := works_cases d
  have hw : (d.write s).2.text.length ≤ d.text.length + s.length := by
    unfold Dk.write
    split
    · simp [t1]
    · rw [t1]; omega
  unfold Dk.put
  split
  · have hs : (d.write s).2.sync.2.text = (d.write s).2.text := by
      obtain ⟨t2, _, _⟩ := works_cases (d.write s).2
      unfold Dk.sync
      split
      · simpa using t2
      · exact t2
    rw [hs]; exact hw
  · exact hw
theorem crash_le (d : Dk) (k : Nat) : (d.crash k).text.length ≤ d.text.length := by
  unfold Dk.crash; simp only [List.length_take]; omega

/- a log on a disk -/
structure PS (w : World) (b g : Nat) (d : Dk) (n : Nat) (br : Bool) : Prop where
  dk : DkAt 65 w b d
  lg : LgAt 62 w g (some b) n br
  ok : DkOk d
  ne : g ≠ b
  b6 : 6 ≤ b
  g6 : 6 ≤ g
  tabs : Tabs w
theorem PS.ext {w w' : World} {b g n : Nat} {d : Dk} {br : Bool} (h : PS w b g d n br) (hE : Ext w w') : PS w' b g d n br := ⟨h.dk.ext hE, h.lg.ext hE, h.ok, h.ne, h.b6, h.g6, h.tabs.ext hE⟩
theorem PS.app {w : World} {b g n : Nat} {d : Dk} {br : Bool} (h : PS w b g d n br) (s : List UInt8) (hs : s.length < 16777216) (ht : d.text.length < 1073741824) (hn : n < 1073741824) (S : ByteArray) (hS : S = ⟨s.toArray⟩) :
    Calls Tryz.prog 25 #[.pointer (some ⟨g, 0, none⟩), .string S] w fun e w' => e = .returned (.int .i64 (appRes d n br (line s)).1) ∧ PS w' b g (appRes d n br (line s)).2.1 (appRes d n br (line s)).2.2.1 (appRes d n br (line s)).2.2.2 ∧ KB [g, b] w w' := by
  subst hS
  refine (appendP_any g b n d br s w h.lg h.dk h.ne h.ok hs ht hn h.tabs).mono ?_
  rintro e w' ⟨rfl, hD, hL, hK⟩
  have hll := line_lt s hs
  have ho : DkOk (appRes d n br (line s)).2.1 := by
    unfold appRes
    split
    · exact h.ok
    · split
      · exact h.ok
      · split
        · exact put_ok h.ok (by omega)
        · exact put_ok h.ok (by omega)
  exact ⟨rfl, ⟨hD, hL, ho, h.ne, h.b6, h.g6, h.tabs.kb hK (by simp; exact ⟨h.g6, h.b6⟩)⟩, hK⟩
theorem openPS {w : World} {b : Nat} {d d' : Dk} {rs : List (List UInt8)} (hD : DkAt 65 w b d) (hk : DkOk d) (ht : d.text.length < 8388608) (hT : Tabs w) (hb6 : 6 ≤ b) (ho : d.open_ = (true, d')) (hr : recs d'.text = rs) :
    Calls Tryz.prog 22 #[.pointer (some ⟨b, 0, none⟩)] w fun e w' => ∃ g A c, e = .returned (.tuple #[.pointer (some ⟨g, 0, none⟩), .slice A rs.length c]) ∧ w.heap.size ≤ g ∧ PS w' b g d' rs.length false ∧ OwnT w' w.heap.size (.slice A rs.length c) rs ∧ KB [b] w w' := by
  refine (openP_any b d w hD hk ht hT hb6).mono ?_
  intro e w' h
  unfold OpenEnd at h
  rw [ho] at h
  simp only at h
  rw [hr] at h
  obtain ⟨hD2, hK2, ⟨hc, _⟩ | ⟨_, g, v, rfl, hg, hgl, hL2, hO2⟩⟩ := h
  · cases hc
  · obtain ⟨A, c, rfl⟩ := own_form hO2
    have hbl := hD.lt
    have hok := open_ok hk (by omega)
    rw [ho] at hok
    exact ⟨g, A, c, rfl, hg, ⟨hD2, hL2, hok, by omega, hb6, by have := hT.sz; omega, hT.kb hK2 (by simp; omega)⟩, hO2, hK2⟩
theorem openNo {w : World} {b : Nat} {d d' : Dk} (hD : DkAt 65 w b d) (hk : DkOk d) (ht : d.text.length < 8388608) (hT : Tabs w) (hb6 : 6 ≤ b) (ho : d.open_ = (false, d')) :
    Calls Tryz.prog 22 #[.pointer (some ⟨b, 0, none⟩)] w fun e w' => e = .returned (.tuple #[.pointer none, .slice none 0 0]) ∧ DkAt 65 w' b d' ∧ Tabs w' ∧ KB [b] w w' := by
  refine (openP_any b d w hD hk ht hT hb6).mono ?_
  intro e w' h
  unfold OpenEnd at h
  rw [ho] at h
  simp only at h
  obtain ⟨hD2, hK2, ⟨_, rfl⟩ | ⟨hc, _⟩⟩ := h
  · exact ⟨rfl, hD2, hT.kb hK2 (by simp; omega), hK2⟩
  · cases hc
/- Append where the disk works without bounds -/
theorem appRes_calm {d : Dk} (h : d.calm) (n : Nat) (ln : List UInt8) (hl : d.text.length + ln.length ≤ 262144) : appRes d n false ln = (0, { d with text := d.text ++ ln, pend := 0 }, n + 1, false) := by
  unfold appRes
  rw [put_calm h, if_neg (by simp), if_neg (by omega)]
  rfl

/- the states of the examples -/
def sa : List UInt8 := [97, 98]
def sc : List UInt8 := [97, 10, 92]
def T3 : List UInt8 := line sa ++ line [] ++ line sc
def q1 : Dk := ⟨line sa, 0, false, false, 0⟩
def q2 : Dk := ⟨line sa ++ line [], 0, false, false, 0⟩
def q3 : Dk := ⟨T3, 0, false, false, 0⟩
def q4 : Dk := ⟨T3, 0, false, true, 1⟩
def q5 : Dk := ⟨T3 ++ line [120], (line [120]).length, true, true, 0⟩
def q6 : Dk := ⟨T3 ++ (line [120]).take 3, 0, false, false, 0⟩
def q7 : Dk := ⟨T3 ++ ((line [120]).take 3 ++ [10]), 0, false, false, 0⟩
def q8 : Dk := ⟨T3 ++ ((line [120]).take 3 ++ [10]) ++ line [121], 0, false, false, 0⟩
theorem line_small (s : List UInt8) (hs : s.length < 10) : (line s).length ≤ 60 := by
  have h1 := esc_len s
  have h2 := head_len (s := s) (by omega)
  have h3 : (hexl (dgl s)).length = 16 := by rw [hexl_len, dgl_length]
  unfold line
  simp only [List.length_append, List.length_cons, List.length_nil, h3]; omega
theorem T3_len : T3.length ≤ 180 := by
  have h1 := line_small sa (by decide)
  have h2 := line_small [] (by decide)
  have h3 := line_small sc (by decide)
  unfold T3
  simp only [List.length_append]; omega

theorem calm0 (t : List UInt8) (p : Nat) (a : Int) : (⟨t, p, false, false, a⟩ : Dk).calm := ⟨rfl, rfl⟩
theorem F0 : Dk.new.open_ = (true, Dk.new) := by unfold Dk.open_; simp [Dk.new]
theorem F0r : recs Dk.new.text = [] := rfl
theorem F1 : appRes Dk.new 0 false (line sa) = (0, q1, 1, false) := by
  have := line_small sa (by decide)
  rw [appRes_calm (show Dk.new.calm from ⟨rfl, rfl⟩) 0 _ (by show 0 + _ ≤ _; omega)]
  simp [q1, Dk.new]
theorem F2 : appRes q1 1 false (line []) = (0, q2, 2, false) := by
  have := line_small sa (by decide)
  have := line_small [] (by decide)
  rw [appRes_calm (show q1.calm from ⟨rfl, rfl⟩) 1 _ (by show (line sa).length + _ ≤ _; omega)]
  simp [q1, q2]
theorem F3 : appRes q2 2 false (line sc) = (0, q3, 3, false) := by
  have h := T3_len
  rw [appRes_calm (show q2.calm from ⟨rfl, rfl⟩) 2 _ (by show (line sa ++ line []).length + _ ≤ _; unfold T3 at h; rw [List.length_append] at h; omega)]
  simp [q2, q3, T3]
theorem F4 : q3.fail 1 = q4 := rfl
theorem F5 : appRes q4 3 false (line [120]) = (63, q5, 3, true) := by
  have h := T3_len
  have h2 := line_small [120] (by decide)
  unfold appRes
  rw [if_neg (by simp), if_neg (by show ¬ 262144 < T3.length + _; omega)]
  simp [Dk.put, Dk.write, Dk.sync, Dk.works, q4, q5]
theorem F6 : appRes q5 3 true (line [120]) = (63, q5, 3, true) := rfl
theorem F7 : q5.open_ = (false, q5) := rfl
theorem F8 : q5.crash 3 = q6 := by
  have h3 : 3 ≤ (line [120]).length := by
    have := head_len (s := [120]) (by decide)
    have h3 : (hexl (dgl [120])).length = 16 := by rw [hexl_len, dgl_length]
    unfold line; simp only [List.length_append, List.length_cons, List.length_nil, h3]; omega
  unfold Dk.crash q5 q6
  simp only [List.length_append]
  rw [show T3.length + (line [120]).length - (line [120]).length + min 3 (line [120]).length = T3.length + 3 by omega, List.take_length_add_append]
theorem take3 : (line [120]).take 3 = [49, 32, hexd ((dgl [120]).getD 0 0 |>.toNat |> (· / 16))] := by
  have e : head [120] = [49] := by unfold head; simp [Lib.itoa, Lib.decDigits_one]
  unfold line
  rw [e]
  have : hexl (dgl [120]) = hexd ((dgl [120]).getD 0 0 |>.toNat |> (· / 16)) :: (hexl (dgl [120])).tail := by
    unfold dgl b4l hexl; rfl
  rw [this]; rfl
theorem hexd_no (n : Nat) (h : n < 16) : hexd n ≠ 10 ∧ hexd n ≠ 32 := by
  have := hexd_toNat h
  constructor <;> (intro e; rw [e] at this; simp at this)
theorem x16 : (dgl [120]).getD 0 0 |>.toNat |> (· / 16) |> (· < 16) := by
  have := UInt8.toNat_lt ((dgl [120]).getD 0 0)
  show ((dgl [120]).getD 0 0).toNat / 16 < 16
  omega
theorem F9 : q6.open_ = (true, q7) := by
  have hx := hexd_no _ x16
  unfold Dk.open_
  rw [if_neg (by simp [q6]), if_neg]
  · rw [put_calm (show q6.calm from ⟨rfl, rfl⟩)]
    simp [q6, q7]
  · unfold q6
    simp only [take3]
    intro h
    rcases h with h | h
    · simp at h
    · simp at h
      exact hx.1 h
theorem rec_torn : recs ((line [120]).take 3 ++ [10]) = [] := by
  have hx := hexd_no _ x16
  rw [take3]
  have hn : (10 : UInt8) ∉ [49, 32, hexd ((dgl [120]).getD 0 0 |>.toNat |> (· / 16))] := by
    simp
    exact fun e => hx.1 e.symm
  rw [recs_piece hn []]
  have hb : body ([49, 32, hexd ((dgl [120]).getD 0 0 |>.toNat |> (· / 16))] ++ [10]) = none := by
    unfold body
    rw [List.dropLast_concat]
    simp [cut32]
    exact hx.2
  rw [recOf_no hb]
  rfl
theorem torn_nl : ∃ a, (line [120]).take 3 ++ [10] = a ++ [10] ∧ (10 : UInt8) ∉ a := ⟨_, rfl, by
  have hx := hexd_no _ x16
  rw [take3]; simp; exact fun e => hx.1 e.symm⟩
theorem T3_flat : T3 = ([sa, [], sc].map line).flatten := by simp [T3]
theorem F10 : recs q7.text = [sa, [], sc] := by
  unfold q7
  simp only
  rw [T3_flat, recs_lines, rec_torn]; rfl
theorem F11 : q7.open_ = (true, q7) := by
  unfold Dk.open_
  rw [if_neg (by simp [q7]), if_pos]
  right; unfold q7; simp
theorem F12 : appRes q7 3 false (line [121]) = (0, q8, 4, false) := by
  have h := T3_len
  have h2 := line_small [121] (by decide)
  rw [appRes_calm (show q7.calm from ⟨rfl, rfl⟩) 3 _ (by show (T3 ++ ((line [120]).take 3 ++ [10])).length + _ ≤ _; simp only [List.length_append, List.length_take, List.length_cons, List.length_nil]; omega)]
  simp [q7, q8]
theorem F13 : opens q8 [sa, [], sc, [121]] = true := by
  have ho : q8.open_ = (true, q8) := by
    unfold Dk.open_
    rw [if_neg (by simp [q8]), if_pos]
    right; show (T3 ++ ((line [120]).take 3 ++ [10]) ++ line [121]).getLast? = some 10; rw [line_front [121], ← List.append_assoc, List.getLast?_concat]
  unfold opens
  rw [ho]
  unfold q8
  simp only [Bool.true_and, decide_eq_true_eq]
  rw [T3_flat, List.append_assoc, recs_lines]
  obtain ⟨a, ha, hn⟩ := torn_nl
  have hr := rec_torn
  rw [ha] at hr ⊢
  rw [show a ++ [10] ++ line [121] = a ++ 10 :: line [121] by simp, recs_piece hn]
  rw [show a ++ [10] = a ++ 10 :: [] from rfl, recs_piece hn [], recs_nil, List.append_nil] at hr
  rw [show a ++ [10] = a ++ 10 :: [] from rfl, hr, List.nil_append]
  have := recs_line [121] []
  rw [List.append_nil] at this
  rw [this]; rfl
theorem F14 : opens q6 [sa, [], sc] = true := by
  unfold opens
  rw [F9, F10]; simp
theorem F15 : opens q7 [sa, [], sc] = true := by
  unfold opens
  rw [F11, F10]; simp
end Go.Proofs.YthppcmejffdicaaGreatDoor

/- The examples of the chapter: sanity answers true. -/
namespace Go.Proofs.YthppcmejffdicaaGreatDoor
open Go.RowKit Hach Num Jn

theorem PS.app2 {w : World} {b g n n' : Nat} {d d' : Dk} {br br' : Bool} {r : Int} {s : List UInt8} (h : PS w b g d n br) (hr : appRes d n br (line s) = (r, d', n', br')) (hs : s.length < 16777216) (ht : d.text.length < 1073741824) (hn : n < 1073741824) {S : ByteArray} (hS : S = ⟨s.toArray⟩) :
    Calls Tryz.prog 25 #[.pointer (some ⟨g, 0, none⟩), .string S] w fun e w' => e = .returned (.int .i64 r) ∧ PS w' b g d' n' br' ∧ KB [g, b] w w' := by
  have h1 := h.app s hs ht hn S hS
  rw [hr] at h1
  exact h1

theorem hx_len (s : List UInt8) : (hexl (dgl s)).length = 16 := by rw [hexl_len, dgl_length]
theorem whole_eq : ((((((⟨#[50, 32]⟩ : ByteArray) ++ ⟨(hexl (dgl sa)).toArray⟩) ++ ⟨#[32, 97, 98, 10, 48, 32]⟩) ++ ⟨(hexl (dgl [])).toArray⟩) ++ ⟨#[32, 10, 51, 32]⟩) ++ ⟨(hexl (dgl sc)).toArray⟩) ++ ⟨#[32, 97, 92, 110, 92, 92, 10]⟩ = ⟨T3.toArray⟩ := by
  have e2 : head sa = [50] := by unfold head; simp [sa, Lib.itoa, Lib.decDigits_one]
  have e0 : head [] = [48] := by unfold head; simp [Lib.itoa, Lib.decDigits_one]
  have e3 : head sc = [51] := by unfold head; simp [sc, Lib.itoa, Lib.decDigits_one]
  have x1 : esc sa = [97, 98] := by decide
  have x2 : esc [] = [] := rfl
  have x3 : esc sc = [97, 92, 110, 92, 92] := by decide
  apply ba_ext
  unfold T3 line
  rw [e2, e0, e3, x1, x2, x3]
  simp only [data_append]
  simp

theorem torn_eq : ((((⟨T3.toArray⟩ : ByteArray) ++ ⟨#[49, 32]⟩) ++ (⟨(hexl (dgl [120] ++ [32])).toArray⟩ : ByteArray).extract 0 1) ++ ⟨#[10]⟩) = ⟨q7.text.toArray⟩ := by
  apply ba_ext
  unfold q7
  simp only [data_append, take3]
  have : hexl (dgl [120] ++ [32]) = hexd ((dgl [120]).getD 0 0 |>.toNat |> (· / 16)) :: (hexl (dgl [120] ++ [32])).tail := by
    unfold dgl b4l hexl; rfl
  rw [this, ByteArray.data_extract]
  simp
theorem PS.own {w w' : World} {b g n : Nat} {d d' : Dk} {br : Bool} (h : PS w b g d n br) (hD : DkAt 65 w' b d') (hg : w.grownBy w' (some b)) (hk : DkOk d') : PS w' b g d' n br :=
  ⟨hD, h.lg.own hg (by simp; exact h.ne), hk, h.ne, h.b6, h.g6, h.tabs.kb (KB.grown (S := [b]) hg (by simp)) (by simp; exact h.b6)⟩
theorem row_lit (w : World) (xs : List (List UInt8)) (t : TypeId) (n : Nat) (cs : Array Value) (hcs : cs = (xs.map txv).toArray) (hn : n = xs.length) : RowT (w.alloc (.cells cs t)) (w.alloc (.cells cs t)).heap.size (some ⟨w.heap.size, 0, none⟩) n xs := by
  subst hcs hn
  refine ⟨rfl, fun _ => ⟨w.heap.size, 0, rfl, by rw [show (World.alloc w _).heap.size = _ from Array.size_push _]; omega, fun j hj => ?_⟩⟩
  rw [World.cell?_alloc_mark]
  simp [List.getD, List.getElem?_eq_getElem hj]

set_option maxRecDepth 100000 in
set_option maxHeartbeats 4000000 in
theorem sanity_any (w : World) (hT : Tabs w) : Calls Tryz.prog 9 #[] w fun e w' => e = .returned (.bool true) ∧ Ext w w' := by
  have h6 := hT.sz
  go_enter Tryz.func9, Tryz.ntmps9
  go_wp2_with fail
  refine (new_p w).mono ?_
  rintro e w1 ⟨rfl, hD1, hE1⟩
  have hT1 := hT.ext hE1
  obtain ⟨b, hb⟩ : ∃ b, b = w.heap.size := ⟨_, rfl⟩
  rw [← hb] at hD1 ⊢
  have hb6 : 6 ≤ b := by omega
  have HB := Lib.hid hb
  clear hb
  go_wp2_with fail
  refine (openPS hD1 new_ok (Nat.zero_lt_succ _) hT1 hb6 F0 F0r).mono ?_
  rintro e w2 ⟨g, Av, cv, rfl, hg, P0, hO2, K2⟩
  have HO := Lib.hid hO2
  clear hD1 hT1 hO2
  go_wp2_with fail
  have l1 := line_small sa (by decide)
  have l2 := line_small [] (by decide)
  have l3 := T3_len
  have X1 := fun W (h : PS W b g Dk.new 0 false) => PS.app2 (S := ⟨#[97, 98]⟩) h F1 (by decide) (by decide) (by decide) rfl
  have X2 := fun W (h : PS W b g q1 1 false) => PS.app2 (S := ⟨#[]⟩) h F2 (by decide) (by show (line sa).length < _; omega) (by decide) rfl
  have X3 := fun W (h : PS W b g q2 2 false) => PS.app2 (S := ⟨#[97, 10, 92]⟩) h F3 (by decide) (by show (line sa ++ line []).length < _; rw [List.length_append]; omega) (by decide) rfl
  have HX1 := Lib.hid X1
  have HX2 := Lib.hid X2
  have HX3 := Lib.hid X3
  clear X1 X2 X3
  refine (HX1.out _ P0).mono ?_
  rintro e w3 ⟨rfl, P1, K3⟩
  go_wp2_with fail
  refine (HX2.out _ P1).mono ?_
  rintro e w4 ⟨rfl, P2, K4⟩
  go_wp2_with fail
  refine (HX3.out _ P2).mono ?_
  rintro e w5 ⟨rfl, P3, K5⟩
  go_wp2_with fail
  refine (count_p g 3 (some b) false w5 P3.lg).mono ?_
  rintro e w5' ⟨rfl, rfl⟩
  rename World => w5
  have Y1 := fun W => hexL_any sa (by decide) W
  have Y2 := fun W => hexL_any [] (by decide) W
  have Y3 := fun W => hexL_any sc (by decide) W
  have hWH := whole_eq
  have z1 : (⟨(hexl (dgl sa)).toArray⟩ : ByteArray).size = 16 := by rw [toArr_size, hx_len]
  have z2 : (⟨(hexl (dgl [])).toArray⟩ : ByteArray).size = 16 := by rw [toArr_size, hx_len]
  have z3 : (⟨(hexl (dgl sc)).toArray⟩ : ByteArray).size = 16 := by rw [toArr_size, hx_len]
  generalize (⟨(hexl (dgl sa)).toArray⟩ : ByteArray) = Ha at Y1 hWH z1
  generalize (⟨(hexl (dgl [])).toArray⟩ : ByteArray) = Hb at Y2 hWH z2
  generalize (⟨(hexl (dgl sc)).toArray⟩ : ByteArray) = Hc at Y3 hWH z3
  have HWH := Lib.hid hWH
  have HY1 := Lib.hid Y1
  have HY2 := Lib.hid Y2
  have HY3 := Lib.hid Y3
  clear Y1 Y2 Y3 hWH
  go_wp2_with fail
  refine (HY1.out w5).mono ?_
  rintro e w6 ⟨rfl, hE6⟩
  go_wp2_with fail
  refine (HY2.out w6).mono ?_
  rintro e w7 ⟨rfl, hE7⟩
  go_wp2_with fail
  refine (HY3.out w7).mono ?_
  rintro e w8 ⟨rfl, hE8⟩
  have P4 := ((P3.ext hE6).ext hE7).ext hE8
  go_wp2_with fail
  rw [HWH.out]
  have hTE := torn_eq
  have RD := fun W (h : DkAt 65 W b q3) => read_p b q3 W h
  have e3 : (⟨q3.text.toArray⟩ : ByteArray) = ⟨T3.toArray⟩ := rfl
  rw [e3] at RD
  have zT : (⟨T3.toArray⟩ : ByteArray).size ≤ 180 := by rw [toArr_size]; exact T3_len
  generalize (⟨T3.toArray⟩ : ByteArray) = TV at RD hTE zT ⊢
  have HTE := Lib.hid hTE
  have HRD := Lib.hid RD
  clear hTE RD e3
  refine (HRD.out w8 P4.dk).mono ?_
  rintro e w8' ⟨rfl, rfl⟩
  rename World => w8
  go_wp2_with fail
  refine (fail_p b q3 1 w8 P4.dk).mono ?_
  rintro e w9 ⟨rfl, hD9, hg9⟩
  rw [F4] at hD9
  have P5 : PS w9 b g q4 3 false := P4.own hD9 hg9 ⟨Nat.zero_le _, by show T3.length < _; omega, by decide, by decide, fun _ => by decide⟩
  have X4 := fun W (h : PS W b g q4 3 false) => PS.app2 (S := ⟨#[120]⟩) h F5 (by decide) (by show T3.length < _; omega) (by decide) rfl
  have X5 := fun W (h : PS W b g q5 3 true) => PS.app2 (S := ⟨#[120]⟩) h F6 (by decide) (by show (T3 ++ line [120]).length < _; have := line_small [120] (by decide); rw [List.length_append]; omega) (by decide) rfl
  have HX4 := Lib.hid X4
  have HX5 := Lib.hid X5
  clear X4 X5
  go_wp2_with fail
  refine (HX4.out _ P5).mono ?_
  rintro e w10 ⟨rfl, P6, K10⟩
  go_wp2_with fail
  refine (HX5.out _ P6).mono ?_
  rintro e w11 ⟨rfl, P7, K11⟩
  go_wp2_with fail
  refine (count_p g 3 (some b) true w11 P7.lg).mono ?_
  rintro e w11' ⟨rfl, rfl⟩
  rename World => w11
  go_wp2_with fail
  refine (openNo P7.dk P7.ok (by show (T3 ++ line [120]).length < _; have := line_small [120] (by decide); rw [List.length_append]; omega) P7.tabs hb6 F7).mono ?_
  rintro e w12 ⟨rfl, hD12, hT12, K12⟩
  go_wp2_with fail
  refine (crash_p b q5 3 w12 hD12 P7.ok).mono ?_
  rintro e w13 ⟨rfl, hD13, hg13⟩
  rw [show (3 : Int).toNat = 3 from rfl, F8] at hD13
  have hT13 : Tabs w13 := hT12.kb (KB.grown (S := [b]) hg13 (by simp)) (by simp; omega)
  have hq6 : DkOk q6 := F8 ▸ crash_ok P7.ok 3
  go_wp2_with fail
  have l120 := line_small [120] (by decide)
  have hb13 := hD13.lt
  have OP := opens_any b 3 3 _ q6 [sa, [], sc] _ (hD13.ext (Ext.alloc w13 (.cells #[.string ⟨#[97, 98]⟩, .string ⟨#[]⟩, .string ⟨#[97, 10, 92]⟩] 9))) hq6 (by show (T3 ++ (line [120]).take 3).length < _; rw [List.length_append, List.length_take]; omega) (hT13.ext (Ext.alloc _ _)) hb6 (row_lit w13 [sa, [], sc] 9 3 _ rfl rfl) (fun k o e => by cases e; omega) (by decide)
  rw [F14, F9] at OP
  have hKa : KB [b] w13 _ := KB.ext (Ext.alloc w13 (.cells #[.string ⟨#[97, 98]⟩, .string ⟨#[]⟩, .string ⟨#[97, 10, 92]⟩] 9))
  have hTa := hT13.ext (Ext.alloc w13 (.cells #[.string ⟨#[97, 98]⟩, .string ⟨#[]⟩, .string ⟨#[97, 10, 92]⟩] 9))
  refine OP.mono ?_
  rintro e w14 ⟨rfl, hD14, K14⟩
  have hT14 := hTa.kb K14 (by simp; omega)
  have hKb := hKa.trans K14
  clear OP hTa hKa
  have hq7 : DkOk q7 := by have := open_ok hq6 (by show (T3 ++ (line [120]).take 3).length < _; rw [List.length_append, List.length_take]; omega); rw [F9] at this; exact this
  have l7 : q7.text.length ≤ 300 := by show (T3 ++ ((line [120]).take 3 ++ [10])).length ≤ _; simp only [List.length_append, List.length_take, List.length_singleton]; omega
  have RD := fun W (h : DkAt 65 W b q7) => read_p b q7 W h
  have RX := fun W => hexR_any (dgl [120] ++ [32]) (by decide) W
  have eX : (⟨(dgl [120]).toArray⟩ : ByteArray) ++ ⟨#[32]⟩ = ⟨(dgl [120] ++ [32]).toArray⟩ := ba_append _ [32]
  have RO := fun W => Of_any ⟨#[120]⟩ W (by decide)
  have eO : dg ⟨#[120]⟩ = ⟨(dgl [120]).toArray⟩ := dg_list [120]
  rw [eO] at RO
  have zD : (⟨(dgl [120]).toArray⟩ : ByteArray).size = 8 := toArr_size _
  have zH : (⟨(hexl (dgl [120] ++ [32])).toArray⟩ : ByteArray).size = 18 := by rw [toArr_size, hexl_len, List.length_append, dgl_length]; rfl
  have zQ := toArr_size q7.text
  generalize (⟨(hexl (dgl [120] ++ [32])).toArray⟩ : ByteArray) = HXV at RX HTE zH
  generalize (⟨q7.text.toArray⟩ : ByteArray) = QV at RD HTE zQ
  generalize (⟨(dgl [120] ++ [32]).toArray⟩ : ByteArray) = DXV at RX eX
  generalize (⟨(dgl [120]).toArray⟩ : ByteArray) = DV at RO eX zD
  have zE : (HXV.extract 0 1).size = 1 := by rw [ByteArray.size_extract]; omega
  have HEX := Lib.hid eX
  have HRD7 := Lib.hid RD
  have HRX := Lib.hid RX
  have HRO := Lib.hid RO
  clear RD RX RO eX eO
  go_wp2_with fail
  refine (HRD7.out w14 hD14).mono ?_
  rintro e w14' ⟨rfl, rfl⟩
  rename World => w14
  go_wp2_with fail
  refine (HRO.out w14).mono ?_
  rintro e w15 ⟨rfl, hE15⟩
  go_wp2_with fail
  rw [HEX.out]
  refine (HRX.out w15).mono ?_
  rintro e w16 ⟨rfl, hE16⟩
  have hTV := HTE.out
  have zF : (TV ++ ⟨#[49, 32]⟩ ++ HXV.extract 0 1).size ≤ 200 := by rw [ByteArray.size_append, ByteArray.size_append, zE]; show _ + 2 + 1 ≤ _; omega
  generalize hEE : HXV.extract 0 1 = EV at *
  have hcmp : ((QV).toList == (TV ++ ⟨#[49, 32]⟩ ++ EV ++ ⟨#[10]⟩).toList) = true := by rw [hTV]; simp
  have HTV := Lib.hid hTV
  clear hTV
  have hE : Ext w14 w16 := Ext.trans hE15 hE16
  have hD16 := hD14.ext hE
  have hT16 := hT14.ext hE
  have hr7 : ∀ (k : Nat) (o : Obj), w16.heap[k]? = some o → True := fun _ _ _ => trivial
  go_wp2_with fail
  refine (openPS hD16 hq7 (by omega) hT16 hb6 F11 F10).mono ?_
  rintro e w17 ⟨g', A7, c7, rfl, hg7, P8, hO17, K17⟩
  have HO17 := Lib.hid hO17
  clear hO17
  have l121 := line_small [121] (by decide)
  have X6 := fun W (h : PS W b g' q7 3 false) => PS.app2 (S := ⟨#[121]⟩) h F12 (by decide) (by omega) (by decide) rfl
  have HX6 := Lib.hid X6
  clear X6
  go_wp2_with fail
  refine (HX6.out _ P8).mono ?_
  rintro e w18 ⟨rfl, P9, K18⟩
  go_wp2_with fail
  have OQ := opens_any b 4 4 _ q8 [sa, [], sc, [121]] _ (P9.dk.ext (Ext.alloc w18 (.cells #[.string ⟨#[97, 98]⟩, .string ⟨#[]⟩, .string ⟨#[97, 10, 92]⟩, .string ⟨#[121]⟩] 9))) P9.ok (by show (T3 ++ ((line [120]).take 3 ++ [10]) ++ line [121]).length < _; simp only [List.length_append, List.length_take, List.length_singleton]; omega) (P9.tabs.ext (Ext.alloc _ _)) hb6 (row_lit w18 [sa, [], sc, [121]] 9 4 _ rfl rfl) (fun k o e => by cases e; have := P9.dk.lt; omega) (by decide)
  rw [F13] at OQ
  have hKc : KB [b] w18 _ := KB.ext (Ext.alloc w18 (.cells #[.string ⟨#[97, 98]⟩, .string ⟨#[]⟩, .string ⟨#[97, 10, 92]⟩, .string ⟨#[121]⟩] 9))
  refine OQ.mono ?_
  rintro e w19 ⟨rfl, hD19, K19⟩
  go_wp2_with fail
  go_ret
  refine ⟨rfl, ?_⟩
  have m1 : ∀ {u v : World}, KB [b] u v → KB [g', g, b] u v := fun h => h.more (by intro k hk; simp at hk; subst hk; simp)
  have m2 : ∀ {u v : World}, KB [g, b] u v → KB [g', g, b] u v := fun h => h.more (by intro k hk; simp at hk; rcases hk with rfl | rfl <;> simp)
  have m3 : ∀ {u v : World}, KB [g', b] u v → KB [g', g, b] u v := fun h => h.more (by intro k hk; simp at hk; rcases hk with rfl | rfl <;> simp)
  have a5 := (m1 K2).trans ((m2 K3).trans ((m2 K4).trans (m2 K5)))
  have a9 := (a5.trans (m1 (KB.ext (((Ext.trans hE6 hE7)).trans hE8)))).trans (m1 (KB.grown (S := [b]) hg9 (by simp)))
  have a13 := (a9.trans ((m2 K10).trans (m2 K11))).trans ((m1 K12).trans (m1 (KB.grown (S := [b]) hg13 (by simp))))
  have a16 := a13.trans ((m1 hKb).trans (m1 (KB.ext hE)))
  have a19 := a16.trans (((m1 K17).trans (m3 K18)).trans ((m1 hKc).trans (m1 K19)))
  have s1 : w.heap.size ≤ w1.heap.size := hE1.size
  have s16 : w1.heap.size ≤ w16.heap.size := a16.size
  have hb := HB.out
  exact Below.trans hE1 (a19.below s1 (by intro k hk; simp at hk; rcases hk with rfl | rfl | rfl <;> omega))
end Go.Proofs.YthppcmejffdicaaGreatDoor

/- The frame of the laws of the journal: what the listed variables give the walks; the wrap. -/
namespace Go.Proofs.YthppcmejffdicaaGreatDoor
open Go.RowKit Hach
open Go.ChangeShapes Go.WideShapes Go.ChangeAt

def Laids : List (String × DataW Unit) := Rows.journalNothingRow.laid
theorem own : ownKnob Tryz.prog.godebug = none := by kernel_rfl
theorem block_lt_of_laid {W : World} {P : Program} {nm : String} {d : DataW Unit} {r : List (String × DataW Unit)} {g : Nat} (hg : P.globalNamed nm = some g) (h : laidMet P ((nm, d) :: r) W) : g < W.heap.size := by
  obtain ⟨ps, ⟨g', t', cs, fuel, p, q, hg', ht', hvar, _⟩, _⟩ := h
  unfold World.var? at hvar
  rw [hg] at hvar
  simp only [Option.bind_some] at hvar
  cases ho : W.heap[g]? with
  | none => rw [ho] at hvar; simp at hvar
  | some o => exact (Array.getElem?_eq_some_iff.1 ho).1
theorem tabs_of {W : World} (hL : laidMetH Tryz.prog Laids W) (hS : W.ShapedOpen Tryz.prog) : Tabs W := by
  rw [MakeChecks.laidMetH_plain _ _ _ (by kernel_rfl)] at hL
  obtain ⟨m, hm⟩ := cell_of_shapedOpen_int (P := Tryz.prog) (w := W) (g := 2) (zero := #[.int .i64 0]) (t := 3) hS (of_decide_eq_true (by kernel_rfl)) (by kernel_rfl) rfl (by kernel_rfl) (by kernel_rfl) Tryz.underlying3
  have h0 : Lib.TabIs Tryz.prog W "internal/strconv.uint64pow10" .u64 Lib.pow10Tab :=
    Lib.tabIs_of_head (g := 3) (t := 151) (e := 85) (n := 20) (by kernel_rfl) (by kernel_rfl) Tryz.underlying151 Tryz.underlying85 (by kernel_rfl) (by kernel_rfl) (show laidMet Tryz.prog (("internal/strconv.uint64pow10", Lib.tabData .u64 Lib.pow10Tab) :: _) W from hL.tail.tail)
  have h5 : 5 < W.heap.size := block_lt_of_laid (nm := "math/bits.deBruijn64tab") (d := Rows.laid_math_bits_deBruijn64tab) (by kernel_rfl) (show laidMet Tryz.prog (("math/bits.deBruijn64tab", Rows.laid_math_bits_deBruijn64tab) :: _) W from hL.tail)
  exact ⟨h0, h5, m, hm⟩

/- the wrap, the world's shape kept, a condition besides -/
theorem handed_shaped {H : Type} {enc : TypeId × Value → H} {a : Assume} {C : Checked} {os : Os} {f : FuncId} {fn : Func} {s : ChangeSpec} {conds : List PathCond} {apart fresh handsOn again : Bool} {X : World → Array Value → Prop}
    (hX : ∀ (w w' : World) (args : Array Value), w.heap = w'.heap → X w args → X w' args)
    (own : ownKnob C.prog.godebug = none) (started : os.Started) (noInit : C.prog.inits.idxOf? f = none) (hfn : C.prog.funcs[f]? = some fn)
    (witness : ∃ (w : World) (tape : Tape) (i : Input), w.os = os ∧ (w.forCall tape i).Shaped C.prog ∧ i.vars = [] ∧ Input.okWide C.prog (w.forCall tape i) .any w.heap.size f i ∧
      ((s.pre enc C.prog fn conds apart (w.forCall tape i).memory i.args ∧ X (w.forCall tape i).memory i.args) ∧ sizedMet enc C.prog fn (OpenSpec.ofChange s) apart (w.forCall tape i).memory i.args) ∧ a.holds C.prog (lone (Frame.enter C.prog f i.args .normal) [] (w.forCall tape i)))
    (contract : ∀ (W : World) (base : Nat) (args : Array Value) (ds gs : List (DataW H)) (before : List MemPlace),
      (∀ (j : Nat) t v, fn.params[j]? = some t → args[j]? = some v → Value.okWide C.prog W .any base t v) →
      DataW.Whole enc C.prog fn.params.toList s.vars apart W args.toList ds gs before →
      W.ShapedOpen C.prog → X W args →
      Calls C.prog f args W fun e W' => ∃ v, e = .returned v ∧ s.post enc C.prog fn apart fresh handsOn again W args v W') :
    ReturnsInHanded a C os f .any (fun w args => (s.pre enc C.prog fn conds apart w args ∧ X w args) ∧ sizedMet enc C.prog fn (OpenSpec.ofChange s) apart w args) (s.post enc C.prog fn apart fresh handsOn again) := by
  refine returnsInHanded_of_calls own started noInit witness ?_
  intro w tape i _ hsh _ hok hpre hholds
  obtain ⟨_, _, _, fn', hfn', _, _, _, _, hval⟩ := hok
  have e : fn' = fn := Option.some.inj (hfn'.symm.trans hfn)
  subst e
  obtain ⟨⟨⟨ds, gs, before, hw, hc⟩, hx⟩, hz⟩ := hpre
  have hw' := DataW.Whole.of_heap (w' := w.forCall tape i) (by rfl) hw
  refine (contract (w.forCall tape i) w.heap.size i.args ds gs before hval hw' hsh (hX _ _ _ (by rfl) hx)).mono fun e W' ⟨v, he, hp⟩ => ?_
  subst he
  exact ChangeSpec.post_blind hp
end Go.Proofs.YthppcmejffdicaaGreatDoor
