/- The contracts of expr.Same and of the reference's. -/
import Derived.Test.YtmiencglfhpmeaaGreatDoorMQXa
import Derived.Laws.StructEq
import Derived.Maps.AppendAt
set_option linter.unusedSimpArgs false
set_option linter.unusedVariables false
namespace Go.Proofs.YtmiencglfhpmeaaGreatDoor
open Go.RowKit Hach
mutual
def Ex.same : Ex → Ex → Bool
 | .mk o v t n b s l, .mk o' v' t' n' b' s' l' => decide (o = o') && decide (v = v') && (decide (t = t') && decide (n = n') && decide (b = b') && decide (s = s')) && Ex.sames l l'
def Ex.sames : List Ex → List Ex → Bool
 | [], [] => true
 | e :: l, e' :: l' => e.same e' && Ex.sames l l'
 | [], _ :: _ => false
 | _ :: _, [] => false
end
mutual
theorem Ex.same_iff : ∀ e e' : Ex, e.same e' = true ↔ e = e'
 | .mk o v t n b s l, .mk o' v' t' n' b' s' l' => by
  have := Ex.sames_iff l l'
  simp only [Ex.same, Bool.and_eq_true, decide_eq_true_eq, this, Ex.mk.injEq]
  constructor
  ·rintro ⟨⟨⟨h1, h2⟩, ⟨h3, h4⟩, h5⟩, h6⟩
   exact ⟨h1, h2, h3.1, h3.2, h4, h5, h6⟩
  ·rintro ⟨h1, h2, h3, h4, h5, h6, h7⟩
   exact ⟨⟨⟨h1, h2⟩, ⟨⟨h3, h4⟩, h5⟩, h6⟩, h7⟩
theorem Ex.sames_iff : ∀ l l' : List Ex, Ex.sames l l' = true ↔ l = l'
 | [], [] => by simp [Ex.sames]
 | e :: l, e' :: l' => by
  have h1 := Ex.same_iff e e'
  have h2 := Ex.sames_iff l l'
  simp only [Ex.sames, Bool.and_eq_true, h1, h2, List.cons.injEq]
 | [], _ :: _ => by simp [Ex.sames]
 | _ :: _, [] => by simp [Ex.sames]
end
theorem Ex.sames_at {l l' : List Ex} (h : l.length = l'.length) : Ex.sames l l' = true ↔ ∀ (j : Nat) (h1 : j < l.length) (h2 : j < l'.length), (l[j]).same (l'[j]) = true := by
 rw [Ex.sames_iff]
 constructor
 ·rintro rfl j h1 h2; exact (Ex.same_iff _ _).2 rfl
 ·intro hj; exact List.ext_getElem h fun j h1 h2 => (Ex.same_iff _ _).1 (hj j h1 h2)
theorem bytes_beq (s s' : List UInt8) : ((⟨s.toArray⟩ : ByteArray).toList == (⟨s'.toArray⟩ : ByteArray).toList) = decide (s = s') := by
 rw [ByteArray.toList_eq, ByteArray.toList_eq]
 show (s == s') = _
 by_cases h : s = s'
 ·subst h; simp
 ·rw [decide_eq_false h]; simpa using h
def valB (t n : Int) (b : Bool) (s : List UInt8) (t' n' : Int) (b' : Bool) (s' : List UInt8) : Bool := decide (t = t' ∧ n = n' ∧ b = b' ∧ s = s')
theorem val_eql (t n t' n' : Int) (b b' : Bool) (s s' : List UInt8) (w : World) : (binOp .eql 44 (.agg #[.int .i64 t, .int .i64 n, .bool b, .string ⟨s.toArray⟩]) (.agg #[.int .i64 t', .int .i64 n', .bool b', .string ⟨s'.toArray⟩])).run Tryz.prog w = .ok (.bool (valB t n b s t' n' b' s')) w := by
 have hb := bytes_beq s s'
 unfold valB
 by_cases h1 : t = t'
 ·by_cases h2 : n = n'
  ·by_cases h3 : b = b'
   ·subst h1; subst h2; subst h3
    go_simp
    by_cases h4 : s = s'
    ·subst h4; simp
    ·simp [h4]
   ·subst h1; subst h2
    have : (b == b') = false := by simpa using h3
    rw [decide_eq_false (fun h => h3 h.2.2.1)]
    go_simp
  ·subst h1
   have : (n == n') = false := by simpa using h2
   rw [decide_eq_false (fun h => h2 h.2.1)]
   go_simp
 ·have : (t == t') = false := by simpa using h1
  rw [decide_eq_false (fun h => h1 h.1)]
  go_simp
theorem val_neq (t n t' n' : Int) (b b' : Bool) (s s' : List UInt8) (w : World) : (binOp .neq 44 (.agg #[.int .i64 t, .int .i64 n, .bool b, .string ⟨s.toArray⟩]) (.agg #[.int .i64 t', .int .i64 n', .bool b', .string ⟨s'.toArray⟩])).run Tryz.prog w = .ok (.bool (!valB t n b s t' n' b' s')) w := by
 have hb := bytes_beq s s'
 unfold valB
 by_cases h1 : t = t'
 ·by_cases h2 : n = n'
  ·by_cases h3 : b = b'
   ·subst h1; subst h2; subst h3
    go_simp
    by_cases h4 : s = s'
    ·subst h4; simp
    ·simp [h4]
   ·subst h1; subst h2
    have : (b == b') = false := by simpa using h3
    rw [decide_eq_false (fun h => h3 h.2.2.1)]
    go_simp
  ·subst h1
   have : (n == n') = false := by simpa using h2
   rw [decide_eq_false (fun h => h2 h.2.1)]
   go_simp
 ·have : (t == t') = false := by simpa using h1
  rw [decide_eq_false (fun h => h1 h.1)]
  go_simp
def Ex.valB (e e' : Ex) : Bool := Go.Proofs.YtmiencglfhpmeaaGreatDoor.valB e.ty e.n e.b e.s e'.ty e'.n e'.b e'.s
theorem Ex.same_eq (e e' : Ex) : e.same e' = (decide (e.op = e'.op) && decide (e.var = e'.var) && e.valB e' && Ex.sames e.l e'.l) := by
 obtain ⟨o, v, t, n, b, s, l⟩ := e
 obtain ⟨o', v', t', n', b', s', l'⟩ := e'
 show Ex.same _ _ = (decide (o = o') && decide (v = v') && Go.Proofs.YtmiencglfhpmeaaGreatDoor.valB t n b s t' n' b' s' && Ex.sames l l')
 rw [Bool.eq_iff_iff]
 simp [Ex.same, Go.Proofs.YtmiencglfhpmeaaGreatDoor.valB, and_assoc]
def SameC (d : Nat) : Prop := ∀ (e e' : Ex) (A A' : Option Addr) (c c' : Nat) (w : World), ExB w w.heap.size d A e.l → ExB w w.heap.size d A' e'.l → e.size < 1099511627776 → e'.size < 1099511627776 →
  Calls Tryz.prog 44 #[.agg (e.cells A c).toArray, .agg (e'.cells A' c').toArray] w fun r w' => r = .returned (.bool (e.same e')) ∧ Ext w w'
set_option maxHeartbeats 2000000 in
theorem eqf_any (d : Nat) (ih : ∀ d', d' < d → SameC d') (l l' : List Ex) (A A' : Option Addr) (c c' : Nat) (w : World) (hX : ExB w w.heap.size d A l) (hX' : ExB w w.heap.size d A' l') (hsz : Ex.sizes l < 1099511627776) (hsz' : Ex.sizes l' < 1099511627776) :
  Calls Tryz.prog 82 #[.slice A l.length c, .slice A' l'.length c', .func (.func 44) #[] #[]] w fun r w' => r = .returned (.bool (Ex.sames l l')) ∧ Ext w w' := by
 have hl := Nat.lt_of_le_of_lt (Ex.len_le l) hsz
 have hl' := Nat.lt_of_le_of_lt (Ex.len_le l') hsz'
 by_cases hne : l.length = l'.length
 ·have hat := Ex.sames_at hne
  have HAT := Lib.hid hat
  have HNE := Lib.hid hne
  have tne : decide (l.length = l'.length) = true := by simpa using hne
  have tn2 : ((l.length : Int) != (l'.length : Int)) = false := by simp [hne]
  clear hat hne
  go_enter Tryz.func82, Tryz.ntmps82
  go_wp2_with fail
  go_loopw [17] (fun kv wr => ∃ k : Nat, k ≤ l.length ∧ kv = .int .i64 k ∧ Hid (∀ j (h1 : j < l.length) (h2 : j < l'.length), j < k → (l[j]).same (l'[j]) = true) ∧ Ext w wr) (fun kv _ => l.length - (intOf kv).toNat)
  case atStart => exact ⟨0, Nat.zero_le _, rfl, Lib.hid (fun j _ _ h => absurd h (Nat.not_lt_zero _)), Ext.refl _⟩
  case round =>
   obtain ⟨k, hk1, rfl, HS, hE⟩ := hrel
   by_cases hlt : k < l.length
   ·have hlt' : k < l'.length := by have := HNE.out; omega
    obtain ⟨b, o, B, q, d1, hd, rfl, hb, hX1, hO⟩ := hX.at_ hlt
    obtain ⟨b', o', B', q', d1', hd', rfl, hb', hX1', hO'⟩ := hX'.at_ hlt'
    have hkx := Nat.lt_of_le_of_lt (Ex.size_mem (List.getElem_mem hlt)) hsz
    have hkx' := Nat.lt_of_le_of_lt (Ex.size_mem (List.getElem_mem hlt')) hsz'
    have ihx := ih d1 (by omega)
    obtain rfl : d1' = d1 := by omega
    obtain ⟨r0, r1, r2, r3, r4, r5, r6⟩ := hO.ext hb hE
    obtain ⟨p0, p1, p2, p3, p4, p5, p6⟩ := hO'.ext hb' hE
    have hXr := hX1.ext hE
    have hXr' := hX1'.ext hE
    have hst : ∀ r, (l[k]).same (l'[k]) = r → Hid (r = true → ∀ j (h1 : j < l.length) (h2 : j < l'.length), j < k + 1 → (l[j]).same (l'[j]) = true) := fun r hr => Lib.hid fun ht j h1 h2 hj => by
     by_cases e : j = k
     ·subst e; rw [hr, ht]
     ·exact HS.out j h1 h2 (by omega)
    have hno : ∀ r, (l[k]).same (l'[k]) = r → Hid (r = false → Ex.sames l l' = false) := fun r hr => Lib.hid fun hf => by
     rw [← Bool.not_eq_true, HAT.out]
     intro hall
     have := hall k hlt hlt'
     rw [hr, hf] at this; cases this
    have hlX : b < wr.heap.size := by have := hE.sz; omega
    have hlX' : b' < wr.heap.size := by have := hE.sz; omega
    clear hO hO' hX1 hX1' HS
    generalize hx : l[k] = x at *
    generalize hx' : l'[k] = x' at *
    obtain ⟨res, hres⟩ : ∃ res, x.same x' = res := ⟨_, rfl⟩
    have HST := hst res hres
    have HNO := hno res hres
    have IH := fun W (h1 : ExB W W.heap.size d1' B x.l) (h2 : ExB W W.heap.size d1' B' x'.l) => ihx x x' B B' q q' W h1 h2 hkx hkx'
    rw [hres] at IH
    have HIH := Lib.hid IH
    clear hst hno ihx IH hx hx' hres
    go_wp2_with fail
    refine (HIH.out _ ((hXr.ext (Ext.alloc _ _)).ext (Ext.alloc _ _)) ((hXr'.ext (Ext.alloc _ _)).ext (Ext.alloc _ _))).mono ?_
    rintro e w' ⟨rfl, hE'⟩
    cases res with
    | true =>
     go_wp2_with fail
     go_roundw
     case rel => exact ⟨k + 1, by omega, by go_num, Lib.hid (HST.out (by simp)), ((hE.trans (Ext.alloc _ _)).trans (Ext.alloc _ _)).trans hE'⟩
     case measure => simp [intOf]; omega
    | false =>
     go_wp2_with fail
     go_ret
     exact ⟨by rw [HNO.out (by simp)]; rfl, ((hE.trans (Ext.alloc _ _)).trans (Ext.alloc _ _)).trans hE'⟩
   ·have hz : Ex.sames l l' = true := HAT.out.2 fun j h1 h2 => HS.out j h1 h2 (by omega)
    have HZ := Lib.hid hz
    have tlt : decide (k < l.length) = false := by simp; omega
    clear hz
    go_wp2_with fail
    go_ret
    exact ⟨by rw [HZ.out]; rfl, hE⟩
 ·have hz : Ex.sames l l' = false := by
   rw [← Bool.not_eq_true, Ex.sames_iff]
   intro e; exact hne (by rw [e])
  have HZ := Lib.hid hz
  have tn2 : ((l.length : Int) != (l'.length : Int)) = true := by simp; omega
  clear hz
  go_enter Tryz.func82, Tryz.ntmps82
  go_wp2_with fail
  go_ret
  exact ⟨by rw [HZ.out]; rfl, Ext.refl _⟩
set_option maxHeartbeats 2000000 in
theorem Same_any (d : Nat) : SameC d := by
 induction d using Nat.strongRecOn with
 | _ d ih =>
  intro e e' A A' c c' w hX hX' hsz hsz'
  have hk := Nat.lt_trans e.kids_lt hsz
  have hk' := Nat.lt_trans e'.kids_lt hsz'
  have hv : ∀ w, (binOp .eql 44 (.agg #[.int .i64 e.ty, .int .i64 e.n, .bool e.b, .string ⟨e.s.toArray⟩]) (.agg #[.int .i64 e'.ty, .int .i64 e'.n, .bool e'.b, .string ⟨e'.s.toArray⟩])).run Tryz.prog w = .ok (.bool (e.valB e')) w := fun w => val_eql ..
  have hs := Ex.same_eq e e'
  have HSE := Lib.hid hs
  clear hs
  have EQF := fun W (h : Ext w W) => eqf_any d ih e.l e'.l A A' c c' W (hX.ext h) (hX'.ext h) hk hk'
  have HEQF := Lib.hid EQF
  clear EQF ih
  unfold Ex.cells
  by_cases h1 : e.op = e'.op
  ·by_cases h2 : e.var = e'.var
   ·have t1 : (e.op == e'.op) = true := by simpa using h1
    have t2 : (e.var == e'.var) = true := by simpa using h2
    have HSE2 : Hid (e.same e' = (e.valB e' && Ex.sames e.l e'.l)) := Lib.hid (by rw [HSE.out]; simp [h1, h2])
    clear h1 h2 HSE
    cases hvb : e.valB e' with
    | true =>
     rw [hvb] at hv HSE2
     clear hvb
     go_enter Tryz.func44, Tryz.ntmps44
     go_wp2_with fail
     refine (HEQF.out _ ((Ext.alloc _ _).trans (Ext.alloc _ _))).mono ?_
     rintro r w' ⟨rfl, hE'⟩
     go_wp2_with fail
     go_ret
     exact ⟨by rw [HSE2.out]; rfl, ((Ext.alloc _ _).trans (Ext.alloc _ _)).trans hE'⟩
    | false =>
     rw [hvb] at hv HSE2
     clear hvb
     go_enter Tryz.func44, Tryz.ntmps44
     go_wp2_with fail
     go_ret
     exact ⟨by rw [HSE2.out]; rfl, (Ext.alloc _ _).trans (Ext.alloc _ _)⟩
   ·have t1 : (e.op == e'.op) = true := by simpa using h1
    have t2 : (e.var == e'.var) = false := by simpa using h2
    have HSE2 : Hid (e.same e' = false) := Lib.hid (by rw [HSE.out]; simp [h2])
    clear h1 h2 HSE hv
    go_enter Tryz.func44, Tryz.ntmps44
    go_wp2_with fail
    go_ret
    exact ⟨by rw [HSE2.out]; rfl, (Ext.alloc _ _).trans (Ext.alloc _ _)⟩
  ·have t1 : (e.op == e'.op) = false := by simpa using h1
   have HSE2 : Hid (e.same e' = false) := Lib.hid (by rw [HSE.out]; simp [h1])
   clear h1 HSE hv
   go_enter Tryz.func44, Tryz.ntmps44
   go_wp2_with fail
   go_ret
   exact ⟨by rw [HSE2.out]; rfl, (Ext.alloc _ _).trans (Ext.alloc _ _)⟩
end Go.Proofs.YtmiencglfhpmeaaGreatDoor
namespace Go.Proofs.YtmiencglfhpmeaaGreatDoor
open Go.RowKit Hach
theorem grown_of {w w' : World} (h : Ext w w') (r : Option Nat) : w.grownBy w' r := ⟨Below.os h, Below.tape h, Below.output h, Below.size h, fun k hk _ => Below.block h k hk⟩
structure Nd where
 x : Ex
 A : Option Addr
 c : Nat
def Nd.cells (u : Nd) : List Value := u.x.cells u.A u.c
theorem infoE : (Tryz.prog.info? 47).map (fun i => (i.zero, i.size, i.bytes)) = some (some (.agg #[.int .i64 0, .int .i64 0, .int .i64 0, .int .i64 0, .bool false, .string ⟨#[]⟩, .slice none 0 0]), 7, 80) := by kernel_rfl
def OwnN (w : World) (base : Nat) (v : Value) (us : List Nd) : Prop := w.ownsRow base 47 7 v us.length (us.map Nd.cells).flatten
theorem OwnN.nil (w : World) (base : Nat) : OwnN w base (.slice none 0 0) [] := World.ownsRow_nil w base _ 7
theorem OwnN.keep {w w' : World} {base : Nat} {v : Value} {us : List Nd} {row : Option Nat} (h : OwnN w base v us) (hg : w.grownBy w' row) (hne : v.ownBlock = none ∨ v.ownBlock ≠ row) : OwnN w' base v us := World.ownsRow.kept h hg hne
theorem OwnN.ext {w w' : World} {base : Nat} {v : Value} {us : List Nd} (h : OwnN w base v us) (hE : Ext w w') : OwnN w' base v us := h.keep (grown_of hE none) (by cases v.ownBlock <;> simp)
theorem OwnN.lt {w : World} {base : Nat} {v : Value} {us : List Nd} (h : OwnN w base v us) : ∀ g, v.ownBlock = some g → base ≤ g ∧ g < w.heap.size := World.ownsRow.lt h
theorem nds_at (us : List Nd) (j : Nat) (hj : j < us.length) (i : Nat) (hi : i < 7) : (us.map Nd.cells).flatten[j * 7 + i]? = (us[j].cells)[i]? := by
 induction us generalizing j with
 | nil => simp at hj
 | cons u us ih =>
  have hc : u.cells.length = 7 := rfl
  simp only [List.map_cons, List.flatten_cons]
  cases j with
  | zero => rw [List.getElem?_append_left (by omega)]; simp
  | succ j =>
   rw [List.getElem?_append_right (by omega), show (j + 1) * 7 + i - u.cells.length = j * 7 + i by omega]
   exact ih j (by simpa using hj)
theorem OwnN.form {w : World} {base : Nat} {v : Value} {us : List Nd} (h : OwnN w base v us) : ∃ A c, v = .slice A us.length c ∧ (0 < us.length → ∃ b, A = some ⟨b, 0, none⟩ ∧ base ≤ b ∧ b < w.heap.size ∧ v.ownBlock = some b ∧ ∀ (j : Nat) (u : Nd), us[j]? = some u → ∀ i v, (u.cells)[i]? = some v → w.cell? ⟨b, j * 7 + i, none⟩ = some v) := by
 rcases h.2 with ⟨rfl, hn⟩ | ⟨g, cap, cur, rfl, hb, hg, r⟩
 ·exact ⟨none, 0, by rw [hn], fun h0 => absurd h0 (by omega)⟩
 ·refine ⟨_, _, rfl, fun _ => ⟨g, rfl, hb, (Array.getElem?_eq_some_iff.1 hg).1, rfl, fun j u hj i v hu => ?_⟩⟩
  obtain ⟨hjl, rfl⟩ := List.getElem?_eq_some_iff.1 hj
  have hi : i < 7 := (List.getElem?_eq_some_iff.1 hu).1
  have := World.ownsRow.cells h (g := g) rfl (j * 7 + i) v ((nds_at us j hjl i hi).trans hu)
  simpa [Addr.add_lit] using this
theorem app_N {ops : Array Oper} {rest : List Oper} {o : Oper} {a : Act} {w : World} {Q : Exit → Act → World → Prop} (hgd : o.guard = none) (s x : Tmp)
  (ho : o.op = .call { callee := .builtin .append, args := #[.tmp s, .tmp x], argTypes := #[45, 45] }) (base : Nat) (v : Value) (us : List Nd) (hs : a.eval (.tmp s) = v) (hown : OwnN w base v us)
  (g : Nat) (t : Nd) (hx : a.eval (.tmp x) = .slice (some ⟨g, 0, none⟩) 1 1) (hc : ∀ i u, t.cells[i]? = some u → w.cell? ⟨g, i, none⟩ = some u) (hl : us.length < 4294967296) (hbase : base ≤ w.heap.size)
  (h : ∀ v' w', OwnN w' base v' (us ++ [t]) → w.grownBy w' v.ownBlock → (v'.ownBlock = v.ownBlock ∨ v'.ownBlock = some w.heap.size) → wpList Tryz.prog ops Q rest (a.put o.dst v') w') : wpList Tryz.prog ops Q (o :: rest) a w := by
 obtain ⟨i0, hi, hz0, hz1, hz2⟩ := info_parts infoE
 refine wpList_append_own_at w hgd _ _ _ ho base 47 i0 _ 7 80 Tryz.underlying45 hi hz0 hz1 hz2 rfl (by decide) v us.length (us.map Nd.cells).flatten hs hown ⟨g, 0, none⟩ 1 1 t.cells hx rfl ?_ ?_ ?_ ?_ hbase ?_
 ·intro j u hu
  have e : (⟨g, 0, none⟩ : Addr).add j = ⟨g, j, none⟩ := by cases j <;> simp [Addr.add]
  rw [e]
  exact hc j u hu
 ·intro u hu; simp [Nd.cells, Ex.cells] at hu; rcases hu with rfl | rfl | rfl | rfl | rfl | rfl | rfl <;> rfl
 ·simp only [maxLen]; omega
 ·omega
 ·intro v' w' h2 h3 _ h5
  refine h v' w' ?_ h3 h5
  unfold OwnN
  simpa using h2
def Kids (w : World) (S : Nat → Prop) (d : Nat) (us : List Nd) : Prop := ∀ u ∈ us, ExL w S d u.A u.x.l
theorem Kids.nil (w : World) (S : Nat → Prop) (d : Nat) : Kids w S d [] := fun u h => by cases h
theorem Kids.keep {w w' : World} {S : Nat → Prop} {d : Nat} {us : List Nd} (h : Kids w S d us) (hw : ∀ b, S b → ∀ o, w'.cell? ⟨b, o, none⟩ = w.cell? ⟨b, o, none⟩) : Kids w' S d us := fun u hu => (h u hu).keep hw
theorem Kids.more {w : World} {S S' : Nat → Prop} {d : Nat} {us : List Nd} (h : Kids w S d us) (hS : ∀ b, S b → S' b) : Kids w S' d us := fun u hu => (h u hu).more hS
theorem Kids.snoc {w : World} {S : Nat → Prop} {d : Nat} {us : List Nd} {u : Nd} (h : Kids w S d us) (hu : ExL w S d u.A u.x.l) : Kids w S d (us ++ [u]) := fun y hy => by
 rcases List.mem_append.1 hy with hy | hy
 ·exact h y hy
 ·simp at hy; subst hy; exact hu
theorem OwnN.list {w : World} {base : Nat} {A : Option Addr} {n c : Nat} {us : List Nd} {S : Nat → Prop} {d : Nat} (h : OwnN w base (.slice A n c) us) (hk : Kids w S d us) (hS : ∀ b, base ≤ b → b < w.heap.size → S b) : ExL w S (d + 1) A (us.map (·.x)) ∧ n = us.length := by
 obtain ⟨A', c', e, hf⟩ := h.form
 simp only [Value.slice.injEq] at e
 obtain ⟨rfl, rfl, rfl⟩ := e
 refine ⟨fun hne => ?_, rfl⟩
 have hpos : 0 < us.length := by
  cases us with
  | nil => simp at hne
  | cons u us => simp
 obtain ⟨b, rfl, hb1, hb2, _, hcell⟩ := hf hpos
 refine ⟨b, 0, rfl, hS b hb1 hb2, fun j x hj => ?_⟩
 rw [List.getElem?_map] at hj
 cases hu : us[j]? with
 | none => rw [hu] at hj; cases hj
 | some u =>
  rw [hu] at hj
  simp only [Option.map_some, Option.some.injEq] at hj
  subst hj
  refine ⟨u.A, u.c, hk u (List.mem_of_getElem? hu), fun i v hi => ?_⟩
  rw [Nat.zero_add]
  exact hcell j u hu i v hi
theorem grown_cell {w w' : World} {r : Option Nat} (h : w.grownBy w' r) {b : Nat} (hb : b < w.heap.size) (hne : r ≠ some b) (o : Nat) : w'.cell? ⟨b, o, none⟩ = w.cell? ⟨b, o, none⟩ :=
 World.cell?_of_block (a := ⟨b, o, none⟩) (h.block b hb (fun e => hne e.symm))
end Go.Proofs.YtmiencglfhpmeaaGreatDoor
namespace Go.Proofs.YtmiencglfhpmeaaGreatDoor
open Go.RowKit Hach
def cell7 (x : Ex) (v : Value) : Array Value := #[.int .i64 x.op, .int .i64 x.var, .int .i64 x.ty, .int .i64 x.n, .bool x.b, .string ⟨x.s.toArray⟩, v]
def zero7 : Array Value := #[.int .i64 0, .int .i64 0, .int .i64 0, .int .i64 0, .bool false, .string ⟨#[]⟩, .slice none 0 0]
def InBlk (w : World) (b : Nat) (x : Ex) (v : Value) : Prop := w.heap[b]? = some (.cells (cell7 x v) 47 (0, 0))
theorem InBlk.lt {w : World} {b : Nat} {x : Ex} {v : Value} (h : InBlk w b x v) : b < w.heap.size := (Array.getElem?_eq_some_iff.1 h).1
theorem InBlk.free {w : World} {b : Nat} {x : Ex} {v : Value} (h : InBlk w b x v) (o : Nat) : w.frozen? ⟨b, o, none⟩ = false := by simp [World.frozen?, show w.heap[b]? = _ from h]
theorem InBlk.ext {w w' : World} {b : Nat} {x : Ex} {v : Value} (h : InBlk w b x v) (hE : Ext w w') : InBlk w' b x v := (hE.below.block b h.lt).trans h
theorem InBlk.own {w w' : World} {b : Nat} {x : Ex} {v : Value} {r : Option Nat} (h : InBlk w b x v) (hg : w.grownBy w' r) (hb : some b ≠ r) : InBlk w' b x v := (hg.block b h.lt hb).trans h
theorem InBlk.cells {w : World} {b : Nat} {x : Ex} {v : Value} (h : InBlk w b x v) : w.cell? ⟨b, 0, none⟩ = some (.int .i64 x.op) ∧ w.cell? ⟨b, 1, none⟩ = some (.int .i64 x.var) ∧ w.cell? ⟨b, 2, none⟩ = some (.int .i64 x.ty) ∧ w.cell? ⟨b, 3, none⟩ = some (.int .i64 x.n) ∧ w.cell? ⟨b, 4, none⟩ = some (.bool x.b) ∧ w.cell? ⟨b, 5, none⟩ = some (.string ⟨x.s.toArray⟩) ∧ w.cell? ⟨b, 6, none⟩ = some v := by
 have h' : w.heap[b]? = _ := h
 refine ⟨?_, ?_, ?_, ?_, ?_, ?_, ?_⟩ <;> simp [World.cell?, h', cell7]
theorem InBlk.new (w : World) (x : Ex) (v : Value) : InBlk (w.alloc (.cells (cell7 x v) 47)) w.heap.size x v := Go.heap_alloc_new _ _
theorem InBlk.set {w : World} {b : Nat} {x : Ex} {v : Value} (h : InBlk w b x v) (u : Value) : InBlk (w.setCell ⟨b, 6, none⟩ u) b x u := by
 have h' : w.heap[b]? = _ := h
 simp [InBlk, World.setCell, Array.getElem?_modify, h', cell7]
theorem grown_set (w : World) (b o : Nat) (v : Value) : w.grownBy (w.setCell ⟨b, o, none⟩ v) (some b) :=
 ⟨rfl, rfl, rfl, by simp [World.setCell], fun k _ hk => by
  have : b ≠ k := fun e => hk (by rw [e])
  simp [World.setCell, Array.getElem?_modify, this]⟩
def set7 (w : World) (b : Nat) (x : Ex) (v : Value) : World := ((((((w.setCell ⟨b, 0, none⟩ (.int .i64 x.op)).setCell ⟨b, 1, none⟩ (.int .i64 x.var)).setCell ⟨b, 2, none⟩ (.int .i64 x.ty)).setCell ⟨b, 3, none⟩ (.int .i64 x.n)).setCell ⟨b, 4, none⟩ (.bool x.b)).setCell ⟨b, 5, none⟩ (.string ⟨x.s.toArray⟩)).setCell ⟨b, 6, none⟩ v
theorem set7_in {w : World} {b : Nat} (h : w.heap[b]? = some (.cells zero7 47 (0, 0))) (x : Ex) (v : Value) : InBlk (set7 w b x v) b x v := by
 simp [InBlk, set7, World.setCell, Array.getElem?_modify, h, zero7, cell7]
theorem grown_trans {u v w : World} {r : Option Nat} (h : u.grownBy v r) (k : v.grownBy w r) : u.grownBy w r :=
 ⟨k.os.trans h.os, k.tape.trans h.tape, k.output.trans h.output, Nat.le_trans h.size k.size, fun b hb hne => (k.block b (Nat.lt_of_lt_of_le hb h.size) hne).trans (h.block b hb hne)⟩
theorem set7_grown (w : World) (b : Nat) (x : Ex) (v : Value) : w.grownBy (set7 w b x v) (some b) :=
 grown_trans (grown_trans (grown_trans (grown_trans (grown_trans (grown_trans (grown_set _ _ _ _) (grown_set _ _ _ _)) (grown_set _ _ _ _)) (grown_set _ _ _ _)) (grown_set _ _ _ _)) (grown_set _ _ _ _)) (grown_set _ _ _ _)
theorem set7_size (w : World) (b : Nat) (x : Ex) (v : Value) : (set7 w b x v).heap.size = w.heap.size := by
 have h := (set7_grown w b x v).size
 simp only [set7, World.setCell, Array.size_modify]
theorem results_blk {fn : Func} {t : Tmp} (hr : fn.results = #[.cell t 47]) {w : World} {b : Nat} {x : Ex} {A : Option Addr} {n c : Nat} (h : InBlk w b x (.slice A n c)) (tmps : Array Value) (ht : tmps.getD t undef = .pointer (some ⟨b, 0, none⟩)) :
  (results fn tmps).run Tryz.prog w = .ok (.agg #[.int .i64 x.op, .int .i64 x.var, .int .i64 x.ty, .int .i64 x.n, .bool x.b, .string ⟨x.s.toArray⟩, .slice A n c]) w := by
 obtain ⟨p0, p1, p2, p3, p4, p5, p6⟩ := h.cells
 clear h
 rw [Array.getD_eq_getD_getElem?] at ht
 simp only [results, hr]
 go_simp
def SO (B : Nat) (w : World) (v : Value) : Nat → Prop := fun b => B ≤ b ∧ b < w.heap.size ∧ v.ownBlock ≠ some b
theorem below_row' {w w' : World} {B : Nat} {r : Option Nat} (h : w.grownBy w' r) (hB : B ≤ w.heap.size) (hv : ∀ g, r = some g → B ≤ g) : Below B w w' :=
 ⟨h.os, h.tape, h.output, h.size, fun k hk => h.block k (by omega) fun e => by have := hv k e.symm; omega⟩
theorem set_cell_other {w : World} {r o b o' : Nat} {u : Value} (h : b ≠ r) : (w.setCell ⟨r, o, none⟩ u).cell? ⟨b, o', none⟩ = w.cell? ⟨b, o', none⟩ :=
 World.cell?_of_block (a := ⟨b, o', none⟩) (heap_setCell_other w ⟨r, o, none⟩ b u h)
theorem set_size (w : World) (a : Addr) (u : Value) : (w.setCell a u).heap.size = w.heap.size := by simp [World.setCell]
theorem Kids.step {W wb : World} {B : Nat} {v v1 : Value} {d : Nat} {us : List Nd} {nd : Nd} {lo r o : Nat} {u : Value} (hK : Kids W (SO B W v) d us) (hk : ExL W (fun b => lo ≤ b ∧ b < W.heap.size) d nd.A nd.x.l) (hlo : B ≤ lo) (hv : ∀ b, v.ownBlock = some b → b < lo) (hg : W.grownBy wb v.ownBlock) (hn : v1.ownBlock = v.ownBlock ∨ v1.ownBlock = some W.heap.size) (hr : r < B) :
  Kids (wb.setCell ⟨r, o, none⟩ u) (SO B (wb.setCell ⟨r, o, none⟩ u) v1) d (us ++ [nd]) := by
 have hsz := hg.size
 have hz := set_size wb ⟨r, o, none⟩ u
 have key : ∀ b, B ≤ b → b < W.heap.size → v.ownBlock ≠ some b → (∀ o', (wb.setCell ⟨r, o, none⟩ u).cell? ⟨b, o', none⟩ = W.cell? ⟨b, o', none⟩) ∧ SO B (wb.setCell ⟨r, o, none⟩ u) v1 b := fun b h1 h2 h3 => ⟨fun o' => (set_cell_other (by omega)).trans (grown_cell hg h2 h3 o'), h1, by omega, fun e => by
  rcases hn with h | h
  ·exact h3 (h ▸ e)
  ·rw [h] at e; simp only [Option.some.injEq] at e; omega⟩
 refine Kids.snoc (Kids.more (Kids.keep hK fun b hb o' => (key b hb.1 hb.2.1 hb.2.2).1 o') fun b hb => (key b hb.1 hb.2.1 hb.2.2).2) ?_
 have h4 : ∀ b, lo ≤ b → v.ownBlock ≠ some b := fun b h e => by have := hv b e; omega
 exact (hk.keep fun b hb o' => (key b (by omega) hb.2 (h4 b hb.1)).1 o').more fun b hb => (key b (by omega) hb.2 (h4 b hb.1)).2
end Go.Proofs.YtmiencglfhpmeaaGreatDoor
