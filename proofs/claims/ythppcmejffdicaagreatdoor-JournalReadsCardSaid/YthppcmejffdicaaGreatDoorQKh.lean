/- Lists that the laws' walks make: integers; logs and rows beside each other. -/
import Derived.Test.YthppcmejffdicaaGreatDoorQG
import Derived.Maps.AppendAt

set_option linter.unusedSimpArgs false
set_option linter.unusedVariables false
namespace Go.Proofs.YthppcmejffdicaaGreatDoor
open Go.RowKit Hach Num Jn

theorem infoI : (Tryz.prog.info? 3).map (fun i => (i.zero, i.size, i.bytes)) = some (some (.int .i64 0), 1, 8) := by kernel_rfl
def itv (x : Int) : Value := .int .i64 x
def OwnI (w : World) (base : Nat) (v : Value) (xs : List Int) : Prop := w.ownsRow base 3 1 v xs.length (xs.map itv)
theorem OwnI.nil (w : World) (base : Nat) : OwnI w base (.slice none 0 0) [] := World.ownsRow_nil w base _ 1
theorem OwnI.keep {w w' : World} {base : Nat} {v : Value} {xs : List Int} {row : Option Nat} (h : OwnI w base v xs) (hg : w.grownBy w' row) (hne : v.ownBlock = none ∨ v.ownBlock ≠ row) : OwnI w' base v xs := World.ownsRow.kept h hg hne
theorem OwnI.ext {w w' : World} {base : Nat} {v : Value} {xs : List Int} (h : OwnI w base v xs) (hE : Ext w w') : OwnI w' base v xs := h.keep (grown_ext hE none) (by cases v.ownBlock <;> simp)
theorem OwnI.lt {w : World} {base : Nat} {v : Value} {xs : List Int} (h : OwnI w base v xs) : ∀ g, v.ownBlock = some g → base ≤ g ∧ g < w.heap.size := World.ownsRow.lt h
theorem OwnI.step {A B : World} {hi : Nat} {v : Value} {xs : List Int} (h : OwnI A hi v xs) (hb : ∀ k, hi ≤ k → k < A.heap.size → B.heap[k]? = A.heap[k]?) : OwnI B hi v xs := by
  refine ⟨h.1, ?_⟩
  rcases h.2 with hn | ⟨g, cap, cur, e, hg, hc, hr⟩
  · exact .inl hn
  · exact .inr ⟨g, cap, cur, e, hg, (hb g hg (Array.getElem?_eq_some_iff.1 hc).1).trans hc, hr⟩
theorem OwnI.form {w : World} {base : Nat} {v : Value} {xs : List Int} (h : OwnI w base v xs) : ∃ A c, v = .slice A xs.length c ∧ (0 < xs.length → ∃ b : Nat, A = some ⟨b, 0, none⟩ ∧ base ≤ b ∧ b < w.heap.size ∧ ∀ j, j < xs.length → w.cell? ⟨b, j, none⟩ = some (itv (xs.getD j 0))) := by
  rcases h.2 with ⟨rfl, hn⟩ | ⟨g, cap, cur, rfl, hb, hg, r⟩
  · exact ⟨none, 0, by rw [hn], fun h => absurd h (by omega)⟩
  · refine ⟨_, _, rfl, fun _ => ⟨g, rfl, hb, (Array.getElem?_eq_some_iff.1 hg).1, fun j hj => ?_⟩⟩
    have := World.ownsRow.cells h (g := g) rfl j (itv (xs.getD j 0)) (by simp [List.getD, List.getElem?_eq_getElem hj])
    simpa [Addr.add_lit] using this
theorem app_I {ops : Array Oper} {rest : List Oper} {o : Oper} {a : Act} {w : World} {Q : Exit → Act → World → Prop} (hgd : o.guard = none) (s x : Tmp)
    (ho : o.op = .call { callee := .builtin .append, args := #[.tmp s, .tmp x], argTypes := #[56, 56] }) (base : Nat) (v : Value) (ss : List Int) (hs : a.eval (.tmp s) = v) (hown : OwnI w base v ss)
    (g : Nat) (t : Int) (hx : a.eval (.tmp x) = .slice (some ⟨g, 0, none⟩) 1 1) (hc : w.cell? ⟨g, 0, none⟩ = some (itv t)) (hl : ss.length < 4294967296) (hbase : base ≤ w.heap.size)
    (h : ∀ v' w', OwnI w' base v' (ss ++ [t]) → w.grownBy w' v.ownBlock → wpList Tryz.prog ops Q rest (a.put o.dst v') w') : wpList Tryz.prog ops Q (o :: rest) a w := by
  obtain ⟨i0, hi, hz0, hz1, hz2⟩ := info_parts infoI
  refine wpList_append_own w hgd _ _ _ ho base 3 i0 (.int .i64 0) 1 8 Tryz.underlying56 hi hz0 hz1 hz2 rfl (by decide) v ss.length (ss.map itv) hs hown ⟨g, 0, none⟩ 1 1 [itv t] hx rfl ?_ ?_ ?_ ?_ hbase ?_
  · intro j u hu
    match j, hu with
    | 0, hu => simp at hu; subst hu; simpa [Addr.add] using hc
    | j + 1, hu => simp at hu
  · intro u hu; simp at hu; subst hu; rfl
  · simp only [maxLen]; omega
  · omega
  · intro v' w' h2 h3 _
    refine h v' w' ?_ h3
    unfold OwnI
    simpa using h2

theorem app_T2 {ops : Array Oper} {rest : List Oper} {o : Oper} {a : Act} {w : World} {Q : Exit → Act → World → Prop} (hgd : o.guard = none) (s x : Tmp)
    (ho : o.op = .call { callee := .builtin .append, args := #[.tmp s, .tmp x], argTypes := #[36, 36] }) (base : Nat) (v : Value) (ss : List (List UInt8)) (hs : a.eval (.tmp s) = v) (hown : OwnT w base v ss)
    (g : Nat) (t : (List UInt8)) (hx : a.eval (.tmp x) = .slice (some ⟨g, 0, none⟩) 1 1) (hc : w.cell? ⟨g, 0, none⟩ = some (txv t)) (hl : ss.length < 4294967296) (hbase : base ≤ w.heap.size)
    (h : ∀ v' w', OwnT w' base v' (ss ++ [t]) → w.grownBy w' v.ownBlock → (v'.ownBlock = v.ownBlock ∨ v'.ownBlock = some w.heap.size) → wpList Tryz.prog ops Q rest (a.put o.dst v') w') : wpList Tryz.prog ops Q (o :: rest) a w := by
  obtain ⟨i0, hi, hz0, hz1, hz2⟩ := info_parts infoS
  refine wpList_append_own_at w hgd _ _ _ ho base 9 i0 (.string ⟨#[]⟩) 1 16 Tryz.underlying36 hi hz0 hz1 hz2 rfl (by decide) v ss.length (ss.map txv) hs hown ⟨g, 0, none⟩ 1 1 [txv t] hx rfl ?_ ?_ ?_ ?_ hbase ?_
  · intro j u hu
    match j, hu with
    | 0, hu => simp at hu; subst hu; simpa [Addr.add] using hc
    | j + 1, hu => simp at hu
  · intro u hu; simp at hu; subst hu; rfl
  · simp only [maxLen]; omega
  · omega
  · intro v' w' h2 h3 _ h4
    refine h v' w' ?_ h3 h4
    unfold OwnT
    simpa using h2
theorem app_I2 {ops : Array Oper} {rest : List Oper} {o : Oper} {a : Act} {w : World} {Q : Exit → Act → World → Prop} (hgd : o.guard = none) (s x : Tmp)
    (ho : o.op = .call { callee := .builtin .append, args := #[.tmp s, .tmp x], argTypes := #[56, 56] }) (base : Nat) (v : Value) (ss : List Int) (hs : a.eval (.tmp s) = v) (hown : OwnI w base v ss)
    (g : Nat) (t : Int) (hx : a.eval (.tmp x) = .slice (some ⟨g, 0, none⟩) 1 1) (hc : w.cell? ⟨g, 0, none⟩ = some (itv t)) (hl : ss.length < 4294967296) (hbase : base ≤ w.heap.size)
    (h : ∀ v' w', OwnI w' base v' (ss ++ [t]) → w.grownBy w' v.ownBlock → (v'.ownBlock = v.ownBlock ∨ v'.ownBlock = some w.heap.size) → wpList Tryz.prog ops Q rest (a.put o.dst v') w') : wpList Tryz.prog ops Q (o :: rest) a w := by
  obtain ⟨i0, hi, hz0, hz1, hz2⟩ := info_parts infoI
  refine wpList_append_own_at w hgd _ _ _ ho base 3 i0 (.int .i64 0) 1 8 Tryz.underlying56 hi hz0 hz1 hz2 rfl (by decide) v ss.length (ss.map itv) hs hown ⟨g, 0, none⟩ 1 1 [itv t] hx rfl ?_ ?_ ?_ ?_ hbase ?_
  · intro j u hu
    match j, hu with
    | 0, hu => simp at hu; subst hu; simpa [Addr.add] using hc
    | j + 1, hu => simp at hu
  · intro u hu; simp at hu; subst hu; rfl
  · simp only [maxLen]; omega
  · omega
  · intro v' w' h2 h3 _ h4
    refine h v' w' ?_ h3 h4
    unfold OwnI
    simpa using h2
/- two rows of one's own lie apart -/
def Apart (v u : Value) : Prop := ∀ g, v.ownBlock = some g → u.ownBlock = some g → False
theorem Apart.ne {v u : Value} (h : Apart v u) : u.ownBlock = none ∨ u.ownBlock ≠ v.ownBlock := by
  cases hu : u.ownBlock with
  | none => exact .inl rfl
  | some g => exact .inr fun e => h g e.symm hu
theorem Apart.symm {v u : Value} (h : Apart v u) : Apart u v := fun g a b => h g b a
theorem Apart.next {v v' u : Value} {n : Nat} (h : Apart v u) (h' : v'.ownBlock = v.ownBlock ∨ v'.ownBlock = some n) (hu : ∀ g, u.ownBlock = some g → g < n) : Apart v' u := by
  intro g a b
  rcases h' with e | e
  · exact h g (e ▸ a) b
  · have := hu g b
    rw [e] at a
    simp only [Option.some.injEq] at a
    omega
theorem apart_nil (v : Value) : Apart v (.slice none 0 0) := fun g _ b => by simp [Value.ownBlock] at b
theorem take_min (s : List UInt8) (k : Nat) : (⟨s.toArray⟩ : ByteArray).extract 0 (min s.length k) = ⟨(s.take k).toArray⟩ := by
  rw [ba_part, List.drop_zero, Nat.sub_zero]
  congr 2
  rcases Nat.le_total s.length k with h | h
  · rw [Nat.min_eq_left h, List.take_of_length_le (Nat.le_refl _), List.take_of_length_le h]
  · rw [Nat.min_eq_right h]
/- what changes blocks below all rows leaves the rows -/
theorem KB.above {S : List Nat} {w w' : World} {B : Nat} (h : KB S w w') (hS : ∀ k ∈ S, k < B) : ∀ k, B ≤ k → k < w.heap.size → w'.heap[k]? = w.heap[k]? :=
  fun k hk hw => h.block k hw fun hm => by have := hS k hm; omega
theorem OwnT.kb {S : List Nat} {w w' : World} {B : Nat} {v : Value} {xs : List (List UInt8)} (h : OwnT w B v xs) (hK : KB S w w') (hS : ∀ k ∈ S, k < B) : OwnT w' B v xs := own_step h (hK.above hS)
theorem OwnI.kb {S : List Nat} {w w' : World} {B : Nat} {v : Value} {xs : List Int} (h : OwnI w B v xs) (hK : KB S w w') (hS : ∀ k ∈ S, k < B) : OwnI w' B v xs := h.step (hK.above hS)
/- what changes rows leaves the log -/
theorem PS.below {w w' : World} {b g n B : Nat} {d : Dk} {br : Bool} (h : PS w b g d n br) (hB : Below B w w') (hb : b < B) (hg : g < B) (h6 : 6 ≤ B) : PS w' b g d n br :=
  ⟨(hB.block b hb).trans h.dk, (hB.block g hg).trans h.lg, h.ok, h.ne, h.b6, h.g6, h.tabs.keep hB.size fun k hk => hB.block k (by omega)⟩
theorem below_row {w w' : World} {B : Nat} {v : Value} (h : w.grownBy w' v.ownBlock) (hB : B ≤ w.heap.size) (hv : ∀ g, v.ownBlock = some g → B ≤ g) : Below B w w' :=
  Below.grown (Below.refl _ w) h hB hv
theorem bkb {B : Nat} {w w' : World} (h : Below B w w') {S : List Nat} {w2 : World} (k : KB S w' w2) (hB : B ≤ w'.heap.size) (hS : ∀ x ∈ S, B ≤ x) : Below B w w2 := Below.trans h (k.below hB hS)
theorem byte_text {w : World} {g : Nat} {y : UInt8} (h : w.cell? ⟨g, 0, none⟩ = some (.int .u8 (y.toNat : Nat))) (c : Nat) : (convert 57 9 (.slice (some ⟨g, 0, none⟩) 1 c)).run Tryz.prog w = .ok (.string ⟨#[y]⟩) w := by
  have hc := run_convert_bytes_arg (P := Tryz.prog) w 57 5 Tryz.underlying57 Tryz.underlying5 g 0 1 c [(y.toNat : Int)] rfl (by
    intro i hi
    obtain rfl : i = 0 := by simpa using hi
    exact h) 9 Tryz.underlying9
  rw [hc]
  simp [strOfNums]
def qz (t : List UInt8) : Dk := ⟨t, 0, false, false, 0⟩
theorem qz_ok (t : List UInt8) (h : t.length < 281474976710656) : DkOk (qz t) := ⟨Nat.zero_le _, h, by simp [qz], by simp [qz], fun _ => by simp [qz]⟩
theorem app_fit {t ln : List UInt8} (n : Nat) (h : t.length + ln.length ≤ 262144) : appRes (qz t) n false ln = (0, qz (t ++ ln), n + 1, false) := by
  rw [appRes_calm (show (qz t).calm from ⟨rfl, rfl⟩) n _ h]; rfl
end Go.Proofs.YthppcmejffdicaaGreatDoor
