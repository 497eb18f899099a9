/- Expressions as plain trees; how they lie in memory. -/
import Derived.Test.YtggkkjnfonbpkaaGreatDoorQMono
import Derived.Test.YtggkkjnfonbpkaaGreatDoorRows
import Derived.WalkKit
import Derived.WalkSpells
import Derived.WalkLawsBesides
import Derived.Lib.Hide
import Derived.Outline
import Derived.Laws.StructEq
import Derived.Maps.AppendAt

set_option linter.unusedSimpArgs false
set_option linter.unusedVariables false
namespace Go.Proofs.YtggkkjnfonbpkaaGreatDoor
open Go.RowKit Hach

inductive Ex where
  | mk (op var ty n : Int) (b : Bool) (s : List UInt8) (l : List Ex)
namespace Ex
def op : Ex → Int | mk op _ _ _ _ _ _ => op
def var : Ex → Int | mk _ var _ _ _ _ _ => var
def ty : Ex → Int | mk _ _ ty _ _ _ _ => ty
def n : Ex → Int | mk _ _ _ n _ _ _ => n
def b : Ex → Bool | mk _ _ _ _ b _ _ => b
def s : Ex → List UInt8 | mk _ _ _ _ _ s _ => s
def l : Ex → List Ex | mk _ _ _ _ _ _ l => l
end Ex
mutual
def Ex.size : Ex → Nat
  | .mk _ _ _ _ _ _ l => 1 + Ex.sizes l
def Ex.sizes : List Ex → Nat
  | [] => 0
  | e :: l => e.size + Ex.sizes l
end
mutual
def Ex.depth : Ex → Nat
  | .mk _ _ _ _ _ _ l => 1 + Ex.depths l
def Ex.depths : List Ex → Nat
  | [] => 0
  | e :: l => max e.depth (Ex.depths l)
end
mutual
def Ex.ok : Ex → Prop
  | .mk op var ty n _ s l => (-9223372036854775808 ≤ op ∧ op ≤ 9223372036854775807) ∧ (-9223372036854775808 ≤ var ∧ var ≤ 9223372036854775807) ∧ (-9223372036854775808 ≤ ty ∧ ty ≤ 9223372036854775807) ∧ (-9223372036854775808 ≤ n ∧ n ≤ 9223372036854775807) ∧ s.length < 1048576 ∧ Ex.oks l
def Ex.oks : List Ex → Prop
  | [] => True
  | e :: l => e.ok ∧ Ex.oks l
end
theorem Ex.size_eq (e : Ex) : e.size = 1 + Ex.sizes e.l := by cases e; rw [Ex.size]; rfl
theorem Ex.size_pos (e : Ex) : 0 < e.size := by rw [e.size_eq]; omega
theorem Ex.sizes_take {l : List Ex} {j : Nat} (h : j < l.length) : Ex.sizes (l.take (j + 1)) = Ex.sizes (l.take j) + (l[j]).size := by
  induction l generalizing j with
  | nil => simp at h
  | cons e l ih =>
    cases j with
    | zero => simp [Ex.sizes]
    | succ j =>
      simp only [List.take_succ_cons, Ex.sizes, List.getElem_cons_succ]
      rw [ih (by simpa using h)]; omega
theorem Ex.sizes_le {l : List Ex} (j : Nat) : Ex.sizes (l.take j) ≤ Ex.sizes l := by
  induction l generalizing j with
  | nil => simp
  | cons e l ih =>
    cases j with
    | zero => simp [Ex.sizes]
    | succ j => simp only [List.take_succ_cons, Ex.sizes]; have := ih j; omega
theorem Ex.len_le (l : List Ex) : l.length ≤ Ex.sizes l := by
  induction l with
  | nil => simp
  | cons e l ih => simp only [Ex.sizes, List.length_cons]; have := e.size_pos; omega

theorem Ex.size_mem {x : Ex} : ∀ {l : List Ex}, x ∈ l → x.size ≤ Ex.sizes l
  | e :: l, h => by
    simp only [Ex.sizes]
    rcases List.mem_cons.1 h with rfl | h
    · omega
    · have := Ex.size_mem h; omega
theorem Ex.kids_lt (e : Ex) : Ex.sizes e.l < e.size := by rw [e.size_eq]; omega

/- the cells of an expression whose operands lie at A -/
def Ex.cells (e : Ex) (A : Option Addr) (c : Nat) : List Value := [.int .i64 e.op, .int .i64 e.var, .int .i64 e.ty, .int .i64 e.n, .bool e.b, .string ⟨e.s.toArray⟩, .slice A e.l.length c]
/- expressions one behind the other, of at most so many levels; all their blocks are among S -/
def ExL (w : World) (S : Nat → Prop) : Nat → Option Addr → List Ex → Prop
  | 0, _, l => l = []
  | d + 1, A, l => l ≠ [] → ∃ b o, A = some ⟨b, o, none⟩ ∧ S b ∧ ∀ (j : Nat) (x : Ex), l[j]? = some x → ∃ A' c', ExL w S d A' x.l ∧ ∀ (i : Nat) (v : Value), (x.cells A' c')[i]? = some v → w.cell? ⟨b, o + j * 7 + i, none⟩ = some v
theorem ExL.keep {w w' : World} {S : Nat → Prop} (hw : ∀ b, S b → ∀ o, w'.cell? ⟨b, o, none⟩ = w.cell? ⟨b, o, none⟩) : ∀ {d : Nat} {A : Option Addr} {l : List Ex}, ExL w S d A l → ExL w' S d A l
  | 0, _, _, h => h
  | d + 1, A, l, h => fun hl => by
    obtain ⟨b, o, e, hB, hx⟩ := h hl
    refine ⟨b, o, e, hB, fun j x hj => ?_⟩
    obtain ⟨A', c', h1, h2⟩ := hx j x hj
    exact ⟨A', c', ExL.keep hw h1, fun i v hi => (hw b hB _).trans (h2 i v hi)⟩
theorem ExL.more {w : World} {S S' : Nat → Prop} (hS : ∀ b, S b → S' b) : ∀ {d : Nat} {A : Option Addr} {l : List Ex}, ExL w S d A l → ExL w S' d A l
  | 0, _, _, h => h
  | d + 1, A, l, h => fun hl => by
    obtain ⟨b, o, e, hb, hx⟩ := h hl
    refine ⟨b, o, e, hS b hb, fun j x hj => ?_⟩
    obtain ⟨A', c', h1, h2⟩ := hx j x hj
    exact ⟨A', c', ExL.more hS h1, h2⟩
theorem ExL.deep {w : World} {S : Nat → Prop} : ∀ {d d' : Nat} {A : Option Addr} {l : List Ex}, d ≤ d' → ExL w S d A l → ExL w S d' A l
  | 0, 0, _, _, _, h => h
  | 0, d' + 1, _, _, _, h => fun hl => absurd (show _ = [] from h) hl
  | d + 1, 0, _, _, hd, _ => absurd hd (by omega)
  | d + 1, d' + 1, A, l, hd, h => fun hl => by
    obtain ⟨b, o, e, hb, hx⟩ := h hl
    refine ⟨b, o, e, hb, fun j x hj => ?_⟩
    obtain ⟨A', c', h1, h2⟩ := hx j x hj
    exact ⟨A', c', ExL.deep (by omega) h1, h2⟩
/- below a mark -/
abbrev ExB (w : World) (B : Nat) (d : Nat) (A : Option Addr) (l : List Ex) : Prop := ExL w (fun b => b < B) d A l
theorem ExL.below {w w' : World} {B : Nat} {d : Nat} {A : Option Addr} {l : List Ex} (h : ExB w B d A l) (hb : Below B w w') : ExB w' B d A l := h.keep fun b hB o => hb.cell (p := ⟨b, o, none⟩) hB
theorem ExL.up {w : World} {B B' : Nat} {d : Nat} {A : Option Addr} {l : List Ex} (h : ExB w B d A l) (hB : B ≤ B') : ExB w B' d A l := h.more fun b hb => Nat.lt_of_lt_of_le hb hB
theorem ExL.ext {w w' : World} {d : Nat} {A : Option Addr} {l : List Ex} (h : ExB w w.heap.size d A l) (hE : Ext w w') : ExB w' w'.heap.size d A l := (h.below hE).up hE.sz
theorem ExL.nil (w : World) (S : Nat → Prop) (d : Nat) (A : Option Addr) : ExL w S d A [] := by
  cases d with
  | zero => exact rfl
  | succ d => exact fun h => absurd rfl h
theorem ExL.one {w : World} {S : Nat → Prop} {d : Nat} {A : Option Addr} {l : List Ex} (h : ExL w S d A l) {j : Nat} (hj : j < l.length) : ∃ b o A' c' d', d = d' + 1 ∧ A = some ⟨b, o, none⟩ ∧ S b ∧ ExL w S d' A' (l[j]).l ∧
    w.cell? ⟨b, o + j * 7, none⟩ = some (.int .i64 (l[j]).op) ∧ w.cell? ⟨b, o + j * 7 + 1, none⟩ = some (.int .i64 (l[j]).var) ∧ w.cell? ⟨b, o + j * 7 + 2, none⟩ = some (.int .i64 (l[j]).ty) ∧ w.cell? ⟨b, o + j * 7 + 3, none⟩ = some (.int .i64 (l[j]).n) ∧
    w.cell? ⟨b, o + j * 7 + 4, none⟩ = some (.bool (l[j]).b) ∧ w.cell? ⟨b, o + j * 7 + 5, none⟩ = some (.string ⟨(l[j]).s.toArray⟩) ∧ w.cell? ⟨b, o + j * 7 + 6, none⟩ = some (.slice A' (l[j]).l.length c') := by
  cases d with
  | zero => rw [show l = [] from h] at hj; simp at hj
  | succ d =>
    obtain ⟨b, o, e, hb, hx⟩ := h (fun e => by rw [e] at hj; simp at hj)
    obtain ⟨A', c', h1, h2⟩ := hx j l[j] (List.getElem?_eq_getElem hj)
    exact ⟨b, o, A', c', d, rfl, e, hb, h1, h2 0 _ rfl, h2 1 _ rfl, h2 2 _ rfl, h2 3 _ rfl, h2 4 _ rfl, h2 5 _ rfl, h2 6 _ rfl⟩
/- the cells of one, in a later world -/
structure One (w : World) (b o : Nat) (x : Ex) (A : Option Addr) (c : Nat) : Prop where
  c0 : w.cell? ⟨b, o, none⟩ = some (.int .i64 x.op)
  c1 : w.cell? ⟨b, o + 1, none⟩ = some (.int .i64 x.var)
  c2 : w.cell? ⟨b, o + 2, none⟩ = some (.int .i64 x.ty)
  c3 : w.cell? ⟨b, o + 3, none⟩ = some (.int .i64 x.n)
  c4 : w.cell? ⟨b, o + 4, none⟩ = some (.bool x.b)
  c5 : w.cell? ⟨b, o + 5, none⟩ = some (.string ⟨x.s.toArray⟩)
  c6 : w.cell? ⟨b, o + 6, none⟩ = some (.slice A x.l.length c)
theorem One.ext {w w' : World} {b o : Nat} {x : Ex} {A : Option Addr} {c : Nat} (h : One w b o x A c) (hb : b < w.heap.size) (hE : Ext w w') : One w' b o x A c :=
  ⟨(hE.old (p := ⟨b, o, none⟩) hb).trans h.c0, (hE.old (p := ⟨b, o + 1, none⟩) hb).trans h.c1, (hE.old (p := ⟨b, o + 2, none⟩) hb).trans h.c2, (hE.old (p := ⟨b, o + 3, none⟩) hb).trans h.c3, (hE.old (p := ⟨b, o + 4, none⟩) hb).trans h.c4, (hE.old (p := ⟨b, o + 5, none⟩) hb).trans h.c5, (hE.old (p := ⟨b, o + 6, none⟩) hb).trans h.c6⟩
/- one that lies in a block of its own -/
structure Box (w : World) (b : Nat) (x : Ex) (A : Option Addr) (c : Nat) : Prop where
  lt : b < w.heap.size
  c0 : w.cell? ⟨b, 0, none⟩ = some (.int .i64 x.op)
  c1 : w.cell? ⟨b, 1, none⟩ = some (.int .i64 x.var)
  c2 : w.cell? ⟨b, 2, none⟩ = some (.int .i64 x.ty)
  c3 : w.cell? ⟨b, 3, none⟩ = some (.int .i64 x.n)
  c4 : w.cell? ⟨b, 4, none⟩ = some (.bool x.b)
  c5 : w.cell? ⟨b, 5, none⟩ = some (.string ⟨x.s.toArray⟩)
  c6 : w.cell? ⟨b, 6, none⟩ = some (.slice A x.l.length c)
theorem Box.new (w : World) (x : Ex) (A : Option Addr) (c : Nat) (T : TypeId) : Box (w.alloc (.cells (x.cells A c).toArray T)) w.heap.size x A c := by
  refine ⟨by simp, ?_, ?_, ?_, ?_, ?_, ?_, ?_⟩ <;> rw [World.cell?_alloc_new] <;> rfl
theorem Box.ext {w w' : World} {b : Nat} {x : Ex} {A : Option Addr} {c : Nat} (h : Box w b x A c) (hE : Ext w w') : Box w' b x A c :=
  ⟨Nat.lt_of_lt_of_le h.lt hE.sz, (hE.old (p := ⟨b, 0, none⟩) h.lt).trans h.c0, (hE.old (p := ⟨b, 1, none⟩) h.lt).trans h.c1, (hE.old (p := ⟨b, 2, none⟩) h.lt).trans h.c2, (hE.old (p := ⟨b, 3, none⟩) h.lt).trans h.c3, (hE.old (p := ⟨b, 4, none⟩) h.lt).trans h.c4, (hE.old (p := ⟨b, 5, none⟩) h.lt).trans h.c5, (hE.old (p := ⟨b, 6, none⟩) h.lt).trans h.c6⟩
theorem ExL.at_ {w : World} {S : Nat → Prop} {d : Nat} {A : Option Addr} {l : List Ex} (h : ExL w S d A l) {j : Nat} (hj : j < l.length) : ∃ b o A' c' d', d = d' + 1 ∧ A = some ⟨b, o, none⟩ ∧ S b ∧ ExL w S d' A' (l[j]).l ∧ One w b (o + j * 7) (l[j]) A' c' := by
  obtain ⟨b, o, A', c', d', h1, h2, h3, h4, k0, k1, k2, k3, k4, k5, k6⟩ := h.one hj
  exact ⟨b, o, A', c', d', h1, h2, h3, h4, ⟨k0, k1, k2, k3, k4, k5, k6⟩⟩
end Go.Proofs.YtggkkjnfonbpkaaGreatDoor

/- The contract of expr.Size and of the reference's. -/
namespace Go.Proofs.YtggkkjnfonbpkaaGreatDoor
open Go.RowKit Hach

set_option maxHeartbeats 1000000 in
theorem Size_any (d : Nat) : ∀ (e : Ex) (A : Option Addr) (c : Nat) (w : World), ExB w w.heap.size d A e.l → e.size < 1099511627776 →
    Calls Tryz.prog 29 #[.agg (e.cells A c).toArray] w fun r w' => r = .returned (.int .i64 (e.size : Nat)) ∧ Ext w w' := by
  induction d using Nat.strongRecOn with
  | _ d ih =>
    intro e A c w hX hsz
    have hse := e.size_eq
    have hll := Ex.len_le e.l
    have hlen : e.l.length < 1099511627776 := by omega
    have HSE := Lib.hid hse
    unfold Ex.cells
    generalize e.l = L at *
    clear hse
    go_enter Tryz.func29, Tryz.ntmps29
    go_wp2_with fail
    go_loopw [3, 9] (fun nv kv wr => ∃ k : Nat, k ≤ L.length ∧ kv = .int .i64 k ∧ nv = .int .i64 (1 + Ex.sizes (L.take k) : Nat) ∧ Ext w wr) (fun _ kv _ => L.length - (intOf kv).toNat)
    case atStart => exact ⟨0, Nat.zero_le _, rfl, rfl, Ext.alloc _ _⟩
    case round =>
      obtain ⟨k, hk, rfl, rfl, hE⟩ := hrel
      by_cases hlt : k < L.length
      · obtain ⟨b, o, A', c', d', hd, rfl, hb, hX', hO⟩ := hX.at_ hlt
        have ihx := ih d' (by omega)
        obtain ⟨r0, r1, r2, r3, r4, r5, r6⟩ := hO.ext hb hE
        have hts := Ex.sizes_take hlt
        have hle := Ex.sizes_le (l := L) (k + 1)
        have hls := Ex.sizes_le (l := L) k
        have hXr := hX'.ext hE
        have hsm : Ex.sizes (L.take k) < 1099511627776 := by have := HSE.out; omega
        have hsx : (L[k]).size < 1099511627776 := by have := HSE.out; omega
        have hsum : 1 + Ex.sizes (L.take (k + 1)) < 1099511627776 := by have := HSE.out; omega
        have HTS := Lib.hid hts
        have HTS2 := Lib.hid hts
        clear hO hts hX'
        generalize L[k] = x at *
        generalize Ex.sizes (L.take k) = S at *
        generalize Ex.sizes (L.take (k + 1)) = S' at hle hsum HTS
        go_wp2_with fail
        refine (ihx x A' c' _ (hXr.ext (Ext.alloc _ _)) hsx).mono ?_
        rintro e' w' ⟨rfl, hE'⟩
        have hsm2 : S + x.size < 1099511627776 := by have := HTS.out; omega
        go_wp2_with fail
        go_roundw
        case rel => exact ⟨k + 1, by omega, by go_num, by rw [HTS2.out]; go_num, (hE.trans (Ext.alloc _ _)).trans hE'⟩
        case measure => simp [intOf]; omega
      · obtain rfl : k = L.length := by omega
        go_wp2_with fail
        go_ret
        exact ⟨by rw [HSE.out, List.take_of_length_le (Nat.le_refl _)]; rfl, hE⟩
set_option maxHeartbeats 1000000 in
theorem rSize_any (d : Nat) : ∀ (e : Ex) (A : Option Addr) (c : Nat) (w : World), ExB w w.heap.size d A e.l → e.size < 1099511627776 →
    Calls Tryz.prog 41 #[.agg (e.cells A c).toArray] w fun r w' => r = .returned (.int .i64 (e.size : Nat)) ∧ Ext w w' := by
  induction d using Nat.strongRecOn with
  | _ d ih =>
    intro e A c w hX hsz
    have hse := e.size_eq
    have hll := Ex.len_le e.l
    have hlen : e.l.length < 1099511627776 := by omega
    have HSE := Lib.hid hse
    have hBx := Box.new w e A c 29
    obtain ⟨w0, hw0⟩ : ∃ w0, w.alloc (.cells (e.cells A c).toArray 29) = w0 := ⟨_, rfl⟩
    have hE0 : Ext w w0 := by rw [← hw0]; exact Ext.alloc _ _
    rw [hw0] at hBx
    unfold Ex.cells at hw0 ⊢
    have hb6 := hBx.c6
    have hlt0 := hBx.lt
    generalize e.l = L at *
    clear hse
    go_enter Tryz.func41, Tryz.ntmps41
    go_wp2_with fail
    clear hw0
    go_loopw [3, 4] (fun nv kv wr => ∃ k : Nat, k ≤ L.length ∧ kv = .int .i64 k ∧ nv = .int .i64 (1 + Ex.sizes (L.take k) : Nat) ∧ Ext w0 wr) (fun _ kv _ => L.length - (intOf kv).toNat)
    case atStart => exact ⟨0, Nat.zero_le _, rfl, rfl, Ext.refl _⟩
    case round =>
      obtain ⟨k, hk, rfl, rfl, hE⟩ := hrel
      have hb6r := (hE.old (p := ⟨w.heap.size, 6, none⟩) hlt0).trans hb6
      by_cases hlt : k < L.length
      · obtain ⟨b, o, A', c', d', hd, rfl, hb, hX', hO⟩ := hX.at_ hlt
        have ihx := ih d' (by omega)
        obtain ⟨r0, r1, r2, r3, r4, r5, r6⟩ := hO.ext hb (hE0.trans hE)
        have hts := Ex.sizes_take hlt
        have hle := Ex.sizes_le (l := L) (k + 1)
        have hls := Ex.sizes_le (l := L) k
        have hXr := hX'.ext (hE0.trans hE)
        have hsm : Ex.sizes (L.take k) < 1099511627776 := by have := HSE.out; omega
        have hsx : (L[k]).size < 1099511627776 := by have := HSE.out; omega
        have hsum : 1 + Ex.sizes (L.take (k + 1)) < 1099511627776 := by have := HSE.out; omega
        have HTS := Lib.hid hts
        have HTS2 := Lib.hid hts
        clear hO hts hX'
        generalize L[k] = x at *
        generalize Ex.sizes (L.take k) = S at *
        generalize Ex.sizes (L.take (k + 1)) = S' at hle hsum HTS
        go_wp2_with fail
        refine (ihx x A' c' _ hXr hsx).mono ?_
        rintro e' w' ⟨rfl, hE'⟩
        have hsm2 : S + x.size < 1099511627776 := by have := HTS.out; omega
        go_wp2_with fail
        go_roundw
        case rel => exact ⟨k + 1, by omega, by go_num, by rw [HTS2.out]; go_num, hE.trans hE'⟩
        case measure => simp [intOf]; omega
      · obtain rfl : k = L.length := by omega
        go_wp2_with fail
        go_ret
        exact ⟨by rw [HSE.out, List.take_of_length_le (Nat.le_refl _)]; rfl, hE0.trans hE⟩
end Go.Proofs.YtggkkjnfonbpkaaGreatDoor

/- The contracts of expr.Same and of the reference's. -/
namespace Go.Proofs.YtggkkjnfonbpkaaGreatDoor
open Go.RowKit Hach

mutual
def Ex.same : Ex → Ex → Bool
  | .mk o v t n b s l, .mk o' v' t' n' b' s' l' => decide (o = o') && decide (v = v') && (decide (t = t') && decide (n = n') && decide (b = b') && decide (s = s')) && Ex.sames l l'
def Ex.sames : List Ex → List Ex → Bool
  | [], [] => true
  | e :: l, e' :: l' => e.same e' && Ex.sames l l'
  | [], _ :: _ => false
  | _ :: _, [] => false
end
mutual
theorem Ex.same_iff : ∀ e e' : Ex, e.same e' = true ↔ e = e'
  | .mk o v t n b s l, .mk o' v' t' n' b' s' l' => by
    have := Ex.sames_iff l l'
    simp only [Ex.same, Bool.and_eq_true, decide_eq_true_eq, this, Ex.mk.injEq]
    constructor
    · rintro ⟨⟨⟨h1, h2⟩, ⟨h3, h4⟩, h5⟩, h6⟩
      exact ⟨h1, h2, h3.1, h3.2, h4, h5, h6⟩
    · rintro ⟨h1, h2, h3, h4, h5, h6, h7⟩
      exact ⟨⟨⟨h1, h2⟩, ⟨⟨h3, h4⟩, h5⟩, h6⟩, h7⟩
theorem Ex.sames_iff : ∀ l l' : List Ex, Ex.sames l l' = true ↔ l = l'
  | [], [] => by simp [Ex.sames]
  | e :: l, e' :: l' => by
    have h1 := Ex.same_iff e e'
    have h2 := Ex.sames_iff l l'
    simp only [Ex.sames, Bool.and_eq_true, h1, h2, List.cons.injEq]
  | [], _ :: _ => by simp [Ex.sames]
  | _ :: _, [] => by simp [Ex.sames]
end
theorem Ex.sames_at {l l' : List Ex} (h : l.length = l'.length) : Ex.sames l l' = true ↔ ∀ (j : Nat) (h1 : j < l.length) (h2 : j < l'.length), (l[j]).same (l'[j]) = true := by
  rw [Ex.sames_iff]
  constructor
  · rintro rfl j h1 h2; exact (Ex.same_iff _ _).2 rfl
  · intro hj; exact List.ext_getElem h fun j h1 h2 => (Ex.same_iff _ _).1 (hj j h1 h2)

theorem bytes_beq (s s' : List UInt8) : ((⟨s.toArray⟩ : ByteArray).toList == (⟨s'.toArray⟩ : ByteArray).toList) = decide (s = s') := by
  rw [ByteArray.toList_eq, ByteArray.toList_eq]
  show (s == s') = _
  by_cases h : s = s'
  · subst h; simp
  · rw [decide_eq_false h]; simpa using h
def valB (t n : Int) (b : Bool) (s : List UInt8) (t' n' : Int) (b' : Bool) (s' : List UInt8) : Bool := decide (t = t' ∧ n = n' ∧ b = b' ∧ s = s')
theorem val_eql (t n t' n' : Int) (b b' : Bool) (s s' : List UInt8) (w : World) : (binOp .eql 26 (.agg #[.int .i64 t, .int .i64 n, .bool b, .string ⟨s.toArray⟩]) (.agg #[.int .i64 t', .int .i64 n', .bool b', .string ⟨s'.toArray⟩])).run Tryz.prog w = .ok (.bool (valB t n b s t' n' b' s')) w := by
  have hb := bytes_beq s s'
  unfold valB
  by_cases h1 : t = t'
  · by_cases h2 : n = n'
    · by_cases h3 : b = b'
      · subst h1; subst h2; subst h3
        go_simp
        by_cases h4 : s = s'
        · subst h4; simp
        · simp [h4]
      · subst h1; subst h2
        have : (b == b') = false := by simpa using h3
        rw [decide_eq_false (fun h => h3 h.2.2.1)]
        go_simp
    · subst h1
      have : (n == n') = false := by simpa using h2
      rw [decide_eq_false (fun h => h2 h.2.1)]
      go_simp
  · have : (t == t') = false := by simpa using h1
    rw [decide_eq_false (fun h => h1 h.1)]
    go_simp
theorem val_neq (t n t' n' : Int) (b b' : Bool) (s s' : List UInt8) (w : World) : (binOp .neq 26 (.agg #[.int .i64 t, .int .i64 n, .bool b, .string ⟨s.toArray⟩]) (.agg #[.int .i64 t', .int .i64 n', .bool b', .string ⟨s'.toArray⟩])).run Tryz.prog w = .ok (.bool (!valB t n b s t' n' b' s')) w := by
  have hb := bytes_beq s s'
  unfold valB
  by_cases h1 : t = t'
  · by_cases h2 : n = n'
    · by_cases h3 : b = b'
      · subst h1; subst h2; subst h3
        go_simp
        by_cases h4 : s = s'
        · subst h4; simp
        · simp [h4]
      · subst h1; subst h2
        have : (b == b') = false := by simpa using h3
        rw [decide_eq_false (fun h => h3 h.2.2.1)]
        go_simp
    · subst h1
      have : (n == n') = false := by simpa using h2
      rw [decide_eq_false (fun h => h2 h.2.1)]
      go_simp
  · have : (t == t') = false := by simpa using h1
    rw [decide_eq_false (fun h => h1 h.1)]
    go_simp
def Ex.valB (e e' : Ex) : Bool := Go.Proofs.YtggkkjnfonbpkaaGreatDoor.valB e.ty e.n e.b e.s e'.ty e'.n e'.b e'.s
theorem Ex.same_eq (e e' : Ex) : e.same e' = (decide (e.op = e'.op) && decide (e.var = e'.var) && e.valB e' && Ex.sames e.l e'.l) := by
  obtain ⟨o, v, t, n, b, s, l⟩ := e
  obtain ⟨o', v', t', n', b', s', l'⟩ := e'
  show Ex.same _ _ = (decide (o = o') && decide (v = v') && Go.Proofs.YtggkkjnfonbpkaaGreatDoor.valB t n b s t' n' b' s' && Ex.sames l l')
  rw [Bool.eq_iff_iff]
  simp [Ex.same, Go.Proofs.YtggkkjnfonbpkaaGreatDoor.valB, and_assoc]
/- the loop of slices.EqualFunc, by the contract of what it is handed -/
def SameC (d : Nat) : Prop := ∀ (e e' : Ex) (A A' : Option Addr) (c c' : Nat) (w : World), ExB w w.heap.size d A e.l → ExB w w.heap.size d A' e'.l → e.size < 1099511627776 → e'.size < 1099511627776 →
    Calls Tryz.prog 15 #[.agg (e.cells A c).toArray, .agg (e'.cells A' c').toArray] w fun r w' => r = .returned (.bool (e.same e')) ∧ Ext w w'
set_option maxHeartbeats 2000000 in
theorem eqf_any (d : Nat) (ih : ∀ d', d' < d → SameC d') (l l' : List Ex) (A A' : Option Addr) (c c' : Nat) (w : World) (hX : ExB w w.heap.size d A l) (hX' : ExB w w.heap.size d A' l') (hsz : Ex.sizes l < 1099511627776) (hsz' : Ex.sizes l' < 1099511627776) :
    Calls Tryz.prog 42 #[.slice A l.length c, .slice A' l'.length c', .func (.func 15) #[] #[]] w fun r w' => r = .returned (.bool (Ex.sames l l')) ∧ Ext w w' := by
  have hl := Nat.lt_of_le_of_lt (Ex.len_le l) hsz
  have hl' := Nat.lt_of_le_of_lt (Ex.len_le l') hsz'
  by_cases hne : l.length = l'.length
  · have hat := Ex.sames_at hne
    have HAT := Lib.hid hat
    have HNE := Lib.hid hne
    have tne : decide (l.length = l'.length) = true := by simpa using hne
    have tn2 : ((l.length : Int) != (l'.length : Int)) = false := by simp [hne]
    clear hat hne
    go_enter Tryz.func42, Tryz.ntmps42
    go_wp2_with fail
    go_loopw [17] (fun kv wr => ∃ k : Nat, k ≤ l.length ∧ kv = .int .i64 k ∧ Hid (∀ j (h1 : j < l.length) (h2 : j < l'.length), j < k → (l[j]).same (l'[j]) = true) ∧ Ext w wr) (fun kv _ => l.length - (intOf kv).toNat)
    case atStart => exact ⟨0, Nat.zero_le _, rfl, Lib.hid (fun j _ _ h => absurd h (Nat.not_lt_zero _)), Ext.refl _⟩
    case round =>
      obtain ⟨k, hk1, rfl, HS, hE⟩ := hrel
      by_cases hlt : k < l.length
      · have hlt' : k < l'.length := by have := HNE.out; omega
        obtain ⟨b, o, B, q, d1, hd, rfl, hb, hX1, hO⟩ := hX.at_ hlt
        obtain ⟨b', o', B', q', d1', hd', rfl, hb', hX1', hO'⟩ := hX'.at_ hlt'
        have hkx := Nat.lt_of_le_of_lt (Ex.size_mem (List.getElem_mem hlt)) hsz
        have hkx' := Nat.lt_of_le_of_lt (Ex.size_mem (List.getElem_mem hlt')) hsz'
        have ihx := ih d1 (by omega)
        obtain rfl : d1' = d1 := by omega
        obtain ⟨r0, r1, r2, r3, r4, r5, r6⟩ := hO.ext hb hE
        obtain ⟨p0, p1, p2, p3, p4, p5, p6⟩ := hO'.ext hb' hE
        have hXr := hX1.ext hE
        have hXr' := hX1'.ext hE
        have hst : ∀ r, (l[k]).same (l'[k]) = r → Hid (r = true → ∀ j (h1 : j < l.length) (h2 : j < l'.length), j < k + 1 → (l[j]).same (l'[j]) = true) := fun r hr => Lib.hid fun ht j h1 h2 hj => by
          by_cases e : j = k
          · subst e; rw [hr, ht]
          · exact HS.out j h1 h2 (by omega)
        have hno : ∀ r, (l[k]).same (l'[k]) = r → Hid (r = false → Ex.sames l l' = false) := fun r hr => Lib.hid fun hf => by
          rw [← Bool.not_eq_true, HAT.out]
          intro hall
          have := hall k hlt hlt'
          rw [hr, hf] at this; cases this
        have hlX : b < wr.heap.size := by have := hE.sz; omega
        have hlX' : b' < wr.heap.size := by have := hE.sz; omega
        clear hO hO' hX1 hX1' HS
        generalize hx : l[k] = x at *
        generalize hx' : l'[k] = x' at *
        obtain ⟨res, hres⟩ : ∃ res, x.same x' = res := ⟨_, rfl⟩
        have HST := hst res hres
        have HNO := hno res hres
        have IH := fun W (h1 : ExB W W.heap.size d1' B x.l) (h2 : ExB W W.heap.size d1' B' x'.l) => ihx x x' B B' q q' W h1 h2 hkx hkx'
        rw [hres] at IH
        have HIH := Lib.hid IH
        clear hst hno ihx IH hx hx' hres
        go_wp2_with fail
        refine (HIH.out _ ((hXr.ext (Ext.alloc _ _)).ext (Ext.alloc _ _)) ((hXr'.ext (Ext.alloc _ _)).ext (Ext.alloc _ _))).mono ?_
        rintro e w' ⟨rfl, hE'⟩
        cases res with
        | true =>
          go_wp2_with fail
          go_roundw
          case rel => exact ⟨k + 1, by omega, by go_num, Lib.hid (HST.out (by simp)), ((hE.trans (Ext.alloc _ _)).trans (Ext.alloc _ _)).trans hE'⟩
          case measure => simp [intOf]; omega
        | false =>
          go_wp2_with fail
          go_ret
          exact ⟨by rw [HNO.out (by simp)]; rfl, ((hE.trans (Ext.alloc _ _)).trans (Ext.alloc _ _)).trans hE'⟩
      · have hz : Ex.sames l l' = true := HAT.out.2 fun j h1 h2 => HS.out j h1 h2 (by omega)
        have HZ := Lib.hid hz
        have tlt : decide (k < l.length) = false := by simp; omega
        clear hz
        go_wp2_with fail
        go_ret
        exact ⟨by rw [HZ.out]; rfl, hE⟩
  · have hz : Ex.sames l l' = false := by
      rw [← Bool.not_eq_true, Ex.sames_iff]
      intro e; exact hne (by rw [e])
    have HZ := Lib.hid hz
    have tn2 : ((l.length : Int) != (l'.length : Int)) = true := by simp; omega
    clear hz
    go_enter Tryz.func42, Tryz.ntmps42
    go_wp2_with fail
    go_ret
    exact ⟨by rw [HZ.out]; rfl, Ext.refl _⟩

set_option maxHeartbeats 2000000 in
theorem Same_any (d : Nat) : SameC d := by
  induction d using Nat.strongRecOn with
  | _ d ih =>
    intro e e' A A' c c' w hX hX' hsz hsz'
    have hk := Nat.lt_trans e.kids_lt hsz
    have hk' := Nat.lt_trans e'.kids_lt hsz'
    have hv : ∀ w, (binOp .eql 26 (.agg #[.int .i64 e.ty, .int .i64 e.n, .bool e.b, .string ⟨e.s.toArray⟩]) (.agg #[.int .i64 e'.ty, .int .i64 e'.n, .bool e'.b, .string ⟨e'.s.toArray⟩])).run Tryz.prog w = .ok (.bool (e.valB e')) w := fun w => val_eql ..
    have hs := Ex.same_eq e e'
    have HSE := Lib.hid hs
    clear hs
    have EQF := fun W (h : Ext w W) => eqf_any d ih e.l e'.l A A' c c' W (hX.ext h) (hX'.ext h) hk hk'
    have HEQF := Lib.hid EQF
    clear EQF ih
    unfold Ex.cells
    by_cases h1 : e.op = e'.op
    · by_cases h2 : e.var = e'.var
      · have t1 : (e.op == e'.op) = true := by simpa using h1
        have t2 : (e.var == e'.var) = true := by simpa using h2
        have HSE2 : Hid (e.same e' = (e.valB e' && Ex.sames e.l e'.l)) := Lib.hid (by rw [HSE.out]; simp [h1, h2])
        clear h1 h2 HSE
        cases hvb : e.valB e' with
        | true =>
          rw [hvb] at hv HSE2
          clear hvb
          go_enter Tryz.func15, Tryz.ntmps15
          go_wp2_with fail
          refine (HEQF.out _ ((Ext.alloc _ _).trans (Ext.alloc _ _))).mono ?_
          rintro r w' ⟨rfl, hE'⟩
          go_wp2_with fail
          go_ret
          exact ⟨by rw [HSE2.out]; rfl, ((Ext.alloc _ _).trans (Ext.alloc _ _)).trans hE'⟩
        | false =>
          rw [hvb] at hv HSE2
          clear hvb
          go_enter Tryz.func15, Tryz.ntmps15
          go_wp2_with fail
          go_ret
          exact ⟨by rw [HSE2.out]; rfl, (Ext.alloc _ _).trans (Ext.alloc _ _)⟩
      · have t1 : (e.op == e'.op) = true := by simpa using h1
        have t2 : (e.var == e'.var) = false := by simpa using h2
        have HSE2 : Hid (e.same e' = false) := Lib.hid (by rw [HSE.out]; simp [h2])
        clear h1 h2 HSE hv
        go_enter Tryz.func15, Tryz.ntmps15
        go_wp2_with fail
        go_ret
        exact ⟨by rw [HSE2.out]; rfl, (Ext.alloc _ _).trans (Ext.alloc _ _)⟩
    · have t1 : (e.op == e'.op) = false := by simpa using h1
      have HSE2 : Hid (e.same e' = false) := Lib.hid (by rw [HSE.out]; simp [h1])
      clear h1 HSE hv
      go_enter Tryz.func15, Tryz.ntmps15
      go_wp2_with fail
      go_ret
      exact ⟨by rw [HSE2.out]; rfl, (Ext.alloc _ _).trans (Ext.alloc _ _)⟩
end Go.Proofs.YtggkkjnfonbpkaaGreatDoor

/- Rows of expressions of one's own; the contract of the reference's Copy. -/
namespace Go.Proofs.YtggkkjnfonbpkaaGreatDoor
open Go.RowKit Hach

theorem grown_of {w w' : World} (h : Ext w w') (r : Option Nat) : w.grownBy w' r := ⟨Below.os h, Below.tape h, Below.output h, Below.size h, fun k hk _ => Below.block h k hk⟩
/- an expression, and where its operands lie -/
structure Nd where
  x : Ex
  A : Option Addr
  c : Nat
def Nd.cells (u : Nd) : List Value := u.x.cells u.A u.c
theorem infoE : (Tryz.prog.info? 29).map (fun i => (i.zero, i.size, i.bytes)) = some (some (.agg #[.int .i64 0, .int .i64 0, .int .i64 0, .int .i64 0, .bool false, .string ⟨#[]⟩, .slice none 0 0]), 7, 80) := by kernel_rfl
def OwnN (w : World) (base : Nat) (v : Value) (us : List Nd) : Prop := w.ownsRow base 29 7 v us.length (us.map Nd.cells).flatten
theorem OwnN.nil (w : World) (base : Nat) : OwnN w base (.slice none 0 0) [] := World.ownsRow_nil w base _ 7
theorem OwnN.keep {w w' : World} {base : Nat} {v : Value} {us : List Nd} {row : Option Nat} (h : OwnN w base v us) (hg : w.grownBy w' row) (hne : v.ownBlock = none ∨ v.ownBlock ≠ row) : OwnN w' base v us := World.ownsRow.kept h hg hne
theorem OwnN.ext {w w' : World} {base : Nat} {v : Value} {us : List Nd} (h : OwnN w base v us) (hE : Ext w w') : OwnN w' base v us := h.keep (grown_of hE none) (by cases v.ownBlock <;> simp)
theorem OwnN.lt {w : World} {base : Nat} {v : Value} {us : List Nd} (h : OwnN w base v us) : ∀ g, v.ownBlock = some g → base ≤ g ∧ g < w.heap.size := World.ownsRow.lt h
theorem nds_at (us : List Nd) (j : Nat) (hj : j < us.length) (i : Nat) (hi : i < 7) : (us.map Nd.cells).flatten[j * 7 + i]? = (us[j].cells)[i]? := by
  induction us generalizing j with
  | nil => simp at hj
  | cons u us ih =>
    have hc : u.cells.length = 7 := rfl
    simp only [List.map_cons, List.flatten_cons]
    cases j with
    | zero => rw [List.getElem?_append_left (by omega)]; simp
    | succ j =>
      rw [List.getElem?_append_right (by omega), show (j + 1) * 7 + i - u.cells.length = j * 7 + i by omega]
      exact ih j (by simpa using hj)
theorem OwnN.form {w : World} {base : Nat} {v : Value} {us : List Nd} (h : OwnN w base v us) : ∃ A c, v = .slice A us.length c ∧ (0 < us.length → ∃ b, A = some ⟨b, 0, none⟩ ∧ base ≤ b ∧ b < w.heap.size ∧ v.ownBlock = some b ∧ ∀ (j : Nat) (u : Nd), us[j]? = some u → ∀ i v, (u.cells)[i]? = some v → w.cell? ⟨b, j * 7 + i, none⟩ = some v) := by
  rcases h.2 with ⟨rfl, hn⟩ | ⟨g, cap, cur, rfl, hb, hg, r⟩
  · exact ⟨none, 0, by rw [hn], fun h0 => absurd h0 (by omega)⟩
  · refine ⟨_, _, rfl, fun _ => ⟨g, rfl, hb, (Array.getElem?_eq_some_iff.1 hg).1, rfl, fun j u hj i v hu => ?_⟩⟩
    obtain ⟨hjl, rfl⟩ := List.getElem?_eq_some_iff.1 hj
    have hi : i < 7 := (List.getElem?_eq_some_iff.1 hu).1
    have := World.ownsRow.cells h (g := g) rfl (j * 7 + i) v ((nds_at us j hjl i hi).trans hu)
    simpa [Addr.add_lit] using this
theorem app_N {ops : Array Oper} {rest : List Oper} {o : Oper} {a : Act} {w : World} {Q : Exit → Act → World → Prop} (hgd : o.guard = none) (s x : Tmp)
    (ho : o.op = .call { callee := .builtin .append, args := #[.tmp s, .tmp x], argTypes := #[27, 27] }) (base : Nat) (v : Value) (us : List Nd) (hs : a.eval (.tmp s) = v) (hown : OwnN w base v us)
    (g : Nat) (t : Nd) (hx : a.eval (.tmp x) = .slice (some ⟨g, 0, none⟩) 1 1) (hc : ∀ i u, t.cells[i]? = some u → w.cell? ⟨g, i, none⟩ = some u) (hl : us.length < 4294967296) (hbase : base ≤ w.heap.size)
    (h : ∀ v' w', OwnN w' base v' (us ++ [t]) → w.grownBy w' v.ownBlock → (v'.ownBlock = v.ownBlock ∨ v'.ownBlock = some w.heap.size) → wpList Tryz.prog ops Q rest (a.put o.dst v') w') : wpList Tryz.prog ops Q (o :: rest) a w := by
  obtain ⟨i0, hi, hz0, hz1, hz2⟩ := info_parts infoE
  refine wpList_append_own_at w hgd _ _ _ ho base 29 i0 _ 7 80 Tryz.underlying27 hi hz0 hz1 hz2 rfl (by decide) v us.length (us.map Nd.cells).flatten hs hown ⟨g, 0, none⟩ 1 1 t.cells hx rfl ?_ ?_ ?_ ?_ hbase ?_
  · intro j u hu
    have e : (⟨g, 0, none⟩ : Addr).add j = ⟨g, j, none⟩ := by cases j <;> simp [Addr.add]
    rw [e]
    exact hc j u hu
  · intro u hu; simp [Nd.cells, Ex.cells] at hu; rcases hu with rfl | rfl | rfl | rfl | rfl | rfl | rfl <;> rfl
  · simp only [maxLen]; omega
  · omega
  · intro v' w' h2 h3 _ h5
    refine h v' w' ?_ h3 h5
    unfold OwnN
    simpa using h2
/- the operands of all of them, among S -/
def Kids (w : World) (S : Nat → Prop) (d : Nat) (us : List Nd) : Prop := ∀ u ∈ us, ExL w S d u.A u.x.l
theorem Kids.nil (w : World) (S : Nat → Prop) (d : Nat) : Kids w S d [] := fun u h => by cases h
theorem Kids.keep {w w' : World} {S : Nat → Prop} {d : Nat} {us : List Nd} (h : Kids w S d us) (hw : ∀ b, S b → ∀ o, w'.cell? ⟨b, o, none⟩ = w.cell? ⟨b, o, none⟩) : Kids w' S d us := fun u hu => (h u hu).keep hw
theorem Kids.more {w : World} {S S' : Nat → Prop} {d : Nat} {us : List Nd} (h : Kids w S d us) (hS : ∀ b, S b → S' b) : Kids w S' d us := fun u hu => (h u hu).more hS
theorem Kids.snoc {w : World} {S : Nat → Prop} {d : Nat} {us : List Nd} {u : Nd} (h : Kids w S d us) (hu : ExL w S d u.A u.x.l) : Kids w S d (us ++ [u]) := fun y hy => by
  rcases List.mem_append.1 hy with hy | hy
  · exact h y hy
  · simp at hy; subst hy; exact hu
/- a row, and what lies under it: a list of expressions -/
theorem OwnN.list {w : World} {base : Nat} {A : Option Addr} {n c : Nat} {us : List Nd} {S : Nat → Prop} {d : Nat} (h : OwnN w base (.slice A n c) us) (hk : Kids w S d us) (hS : ∀ b, base ≤ b → b < w.heap.size → S b) : ExL w S (d + 1) A (us.map (·.x)) ∧ n = us.length := by
  obtain ⟨A', c', e, hf⟩ := h.form
  simp only [Value.slice.injEq] at e
  obtain ⟨rfl, rfl, rfl⟩ := e
  refine ⟨fun hne => ?_, rfl⟩
  have hpos : 0 < us.length := by
    cases us with
    | nil => simp at hne
    | cons u us => simp
  obtain ⟨b, rfl, hb1, hb2, _, hcell⟩ := hf hpos
  refine ⟨b, 0, rfl, hS b hb1 hb2, fun j x hj => ?_⟩
  rw [List.getElem?_map] at hj
  cases hu : us[j]? with
  | none => rw [hu] at hj; cases hj
  | some u =>
    rw [hu] at hj
    simp only [Option.map_some, Option.some.injEq] at hj
    subst hj
    refine ⟨u.A, u.c, hk u (List.mem_of_getElem? hu), fun i v hi => ?_⟩
    rw [Nat.zero_add]
    exact hcell j u hu i v hi
theorem grown_cell {w w' : World} {r : Option Nat} (h : w.grownBy w' r) {b : Nat} (hb : b < w.heap.size) (hne : r ≠ some b) (o : Nat) : w'.cell? ⟨b, o, none⟩ = w.cell? ⟨b, o, none⟩ :=
  World.cell?_of_block (a := ⟨b, o, none⟩) (h.block b hb (fun e => hne e.symm))
end Go.Proofs.YtggkkjnfonbpkaaGreatDoor
