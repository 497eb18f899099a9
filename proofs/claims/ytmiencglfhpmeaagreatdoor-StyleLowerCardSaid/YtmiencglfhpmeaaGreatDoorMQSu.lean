/- How the reference reads an expression: the contract of its read. -/
import Derived.Test.YtmiencglfhpmeaaGreatDoorMQSs
import Derived.Test.YtmiencglfhpmeaaGreatDoorMQXx
import Derived.Test.YtmiencglfhpmeaaGreatDoorMQXv
import Derived.Test.YtmiencglfhpmeaaGreatDoorMQXs
import Derived.Test.YtmiencglfhpmeaaGreatDoorMQXp
import Derived.Deep.RegionWith
import Derived.IntWalk
import Derived.Test.YtmiencglfhpmeaaGreatDoorMQXu
import Derived.Test.YtmiencglfhpmeaaGreatDoorMQXq
import Derived.Test.YtmiencglfhpmeaaGreatDoorMQSe
import Derived.Deep.LoopGhost
import Derived.Test.YtmiencglfhpmeaaGreatDoorMQSq
set_option linter.unusedSimpArgs false
set_option linter.unusedVariables false
namespace Go.Proofs.YtmiencglfhpmeaaGreatDoor
open Go.RowKit Hach Num
theorem rdE_none {l : Option (List UInt8)} (h : l.bind rdText = none) : l.bind rdE = none := by
 cases l with
 | none => rfl
 | some l =>
  have h : rdText l = none := h
  show rdE l = none
  unfold rdE; rw [h]
theorem rdE_some {l : Option (List UInt8)} {s r : List UInt8} (h : l.bind rdText = some (s, r)) : l.bind rdE = if (parseE s).2 = 0 ∧ chkE (parseE s).1 = 0 ∧ txT (parseE s).1 = s then some ((parseE s).1, r) else none := by
 cases l with
 | none => cases h
 | some l =>
  have h : rdText l = some (s, r) := h
  show rdE l = _
  unfold rdE; rw [h]
theorem rdText_len {l s r : List UInt8} (h : rdText l = some (s, r)) : s.length ≤ l.length ∧ r.length ≤ l.length := by
 obtain ⟨_, h2⟩ := twinText.sole l s r h
 have := congrArg List.length h2
 unfold wrText at this
 simp only [List.length_append, List.length_cons] at this
 omega
theorem parse_chk {s : List UInt8} (h : (parseE s).2 = 0) : chkE (parseE s).1 = 0 := by
 unfold parseE at h ⊢
 by_cases h1 : 4096 < s.length
 ·rw [if_pos h1] at h; cases h
 ·rw [if_neg h1] at h ⊢
  cases hr : readT s with
  | none => rw [hr] at h; cases h
  | some e =>
   rw [hr] at h
   by_cases hc : chkE e = 0
   ·show chkE (if chkE e = 0 then (e, 0) else (zeroE, chkE e)).1 = 0
    rw [if_pos hc]; exact hc
   ·have h : (if chkE e = 0 then (e, 0) else (zeroE, chkE e)).2 = 0 := h
    rw [if_neg hc] at h; exact absurd h hc
theorem parse_zero {s : List UInt8} (h : (parseE s).2 = 0) : (parseE s).1.ok ∧ (parseE s).1.size < 1099511627776 := by
 obtain ⟨h1, h2⟩ := chk_rt (parse_chk h)
 exact ⟨rt_ok h1, by omega⟩
theorem exl_grow {w w' : World} {lo d b : Nat} {A : Option Addr} {l : List Ex} (h : ExL w (fun k => lo ≤ k ∧ k < w.heap.size) d A l) (hg : w.grownBy w' (some b)) (hb : b < lo) : ExL w' (fun k => lo ≤ k ∧ k < w'.heap.size) d A l :=
 (h.keep fun k hk o => grown_cell hg hk.2 (by simp; omega) o).more fun k hk => ⟨hk.1, Nat.lt_of_lt_of_le hk.2 hg.size⟩
theorem exl_low {w : World} {lo lo' d : Nat} {A : Option Addr} {l : List Ex} (h : ExL w (fun k => lo ≤ k ∧ k < w.heap.size) d A l) (hl : lo' ≤ lo) : ExL w (fun k => lo' ≤ k ∧ k < w.heap.size) d A l := h.more fun k hk => ⟨by omega, hk.2⟩
theorem exl_ext {w w' : World} {lo d : Nat} {A : Option Addr} {l : List Ex} (h : ExL w (fun k => lo ≤ k ∧ k < w.heap.size) d A l) (hE : Ext w w') : ExL w' (fun k => lo ≤ k ∧ k < w'.heap.size) d A l :=
 (h.keep fun k hk o => hE.old (p := ⟨k, o, none⟩) hk.2).more fun k hk => ⟨hk.1, Nat.lt_of_lt_of_le hk.2 hE.sz⟩
end Go.Proofs.YtmiencglfhpmeaaGreatDoor
namespace Go.Proofs.YtmiencglfhpmeaaGreatDoor
open Go.RowKit Hach Num
theorem rdText_less {l s r : List UInt8} (h : rdText l = some (s, r)) : r.length < l.length := twinText.less h
theorem rdInt_less {l r : List UInt8} {v : Int} (h : rdInt l = some (v, r)) : r.length < l.length := twinInt.less h
theorem rdE_less {l r : List UInt8} {x : Ex} (h : rdE l = some (x, r)) : r.length < l.length := by
 unfold rdE at h
 cases ht : rdText l with
 | none => rw [ht] at h; cases h
 | some p =>
  rw [ht] at h
  simp only at h
  split at h
  ·have := rdText_less (s := p.1) (r := p.2) ht
   simp only [Option.some.injEq, Prod.mk.injEq] at h
   rw [← h.2]; exact this
  ·cases h
structure RdParts (l : List UInt8) (u : Rl) (r : List UInt8) (l1 l2 l3 l4 l5 : List UInt8) : Prop where
 p1 : rdText l = some (u.nm, l1)
 p2 : rdInt l1 = some (u.pr, l2)
 p3 : rdE l2 = some (u.e1, l3)
 p4 : rdE l3 = some (u.e2, l4)
 p5 : rdE l4 = some (u.e3, l5)
 p6 : rdE l5 = some (u.e4, r)
theorem rdR_parts {l r : List UInt8} {u : Rl} (h : rdR l = some (u, r)) : ∃ l1 l2 l3 l4 l5, RdParts l u r l1 l2 l3 l4 l5 := by
 unfold rdR at h
 cases h1 : rdText l with
 | none => rw [h1] at h; cases h
 | some a =>
  rw [h1] at h; simp only at h
  cases h2 : rdInt a.2 with
  | none => rw [h2] at h; cases h
  | some b =>
   rw [h2] at h; simp only at h
   cases h3 : rdE b.2 with
   | none => rw [h3] at h; cases h
   | some c =>
    rw [h3] at h; simp only at h
    cases h4 : rdE c.2 with
    | none => rw [h4] at h; cases h
    | some d =>
     rw [h4] at h; simp only at h
     cases h5 : rdE d.2 with
     | none => rw [h5] at h; cases h
     | some e =>
      rw [h5] at h; simp only at h
      cases h6 : rdE e.2 with
      | none => rw [h6] at h; cases h
      | some f =>
       rw [h6] at h
       simp only [Option.some.injEq, Prod.mk.injEq] at h
       obtain ⟨rfl, rfl⟩ := h
       exact ⟨_, _, _, _, _, h1, h2, h3, h4, h5, h6⟩
theorem rdR_less {l r : List UInt8} {u : Rl} (h : rdR l = some (u, r)) : r.length < l.length := by
 obtain ⟨l1, l2, l3, l4, l5, h1, h2, h3, h4, h5, h6⟩ := rdR_parts h
 have := rdText_less h1
 have := rdInt_less h2
 have := rdE_less h3
 have := rdE_less h4
 have := rdE_less h5
 have := rdE_less h6
 omega
theorem rdRs_fuel : ∀ (n : Nat) (l : List UInt8) (k : Nat) (acc : List Rl), l.length ≤ n → l.length ≤ k → rdRs k acc l = rdRs l.length acc l
 | 0, l, k, acc, hn, _ => by
  obtain rfl : l = [] := List.length_eq_zero_iff.1 (by omega)
  cases k <;> rfl
 | n + 1, [], k, acc, _, _ => by cases k <;> rfl
 | n + 1, c :: q, k, acc, hn, hk => by
  rw [List.length_cons] at hn hk
  obtain ⟨k', rfl⟩ : ∃ k', k = k' + 1 := ⟨k - 1, by omega⟩
  rw [List.length_cons, rdRs, rdRs]
  cases h : rdR (c :: q) with
  | none => rfl
  | some p =>
   have := rdR_less (u := p.1) (r := p.2) h
   rw [List.length_cons] at this
   show rdRs k' (acc ++ [p.1]) p.2 = rdRs q.length (acc ++ [p.1]) p.2
   rw [rdRs_fuel n p.2 k' _ (by omega) (by omega), rdRs_fuel n p.2 q.length _ (by omega) (by omega)]
def goRs (acc : List Rl) (l : List UInt8) : Got := rdRs l.length acc l
theorem goRs_nil (acc : List Rl) : goRs acc [] = .all acc := rfl
theorem goRs_some {acc : List Rl} {l r : List UInt8} {u : Rl} (h : rdR l = some (u, r)) : goRs acc l = goRs (acc ++ [u]) r := by
 unfold goRs
 have hl := rdR_less h
 cases l with
 | nil => simp at hl
 | cons c q =>
  rw [List.length_cons] at hl
  rw [List.length_cons, rdRs, h]
  exact rdRs_fuel q.length r q.length _ (by omega) (by omega)
theorem goRs_none {acc : List Rl} {l : List UInt8} (hl : l ≠ []) (h : rdR l = none) : goRs acc l = .bad (acc.length + 1) := by
 unfold goRs
 cases l with
 | nil => exact absurd rfl hl
 | cons c q => rw [List.length_cons, rdRs, h]
theorem parse_go {s : List UInt8} (h : s.length ≤ 262144) : parseL s = parseG (goRs [] s) := by
 unfold parseL goRs; rw [if_neg (by omega)]
theorem put_mid {T : TypeId} {b : Nat} : ∀ (new old pre post : List Value) (w : World), w.heap[b]? = some (.cells (pre ++ (old ++ post)).toArray T (0, 0)) → old.length = new.length →
  (w.setCells b pre.length new).heap[b]? = some (.cells (pre ++ (new ++ post)).toArray T (0, 0)) ∧ w.grownBy (w.setCells b pre.length new) (some b)
 | [], old, pre, post, w, h, hl => by
  obtain rfl : old = [] := List.length_eq_zero_iff.1 (by simpa using hl)
  exact ⟨h, grown_of (Ext.refl _) _⟩
 | v :: new, [], pre, post, w, h, hl => by simp at hl
 | v :: new, o :: old, pre, post, w, h, hl => by
  have h1 : (w.setCell ⟨b, pre.length, none⟩ v).heap[b]? = some (.cells ((pre ++ [v]) ++ (old ++ post)).toArray T (0, 0)) := by
   simp only [World.setCell, Array.getElem?_modify, if_pos, h, Option.map_some]
   simp
  have ih := put_mid new old (pre ++ [v]) post (w.setCell ⟨b, pre.length, none⟩ v) h1 (by simpa using hl)
  rw [List.length_append, List.length_singleton] at ih
  rw [World.setCells]
  refine ⟨?_, grown_trans (grown_set w b pre.length v) ih.2⟩
  have := ih.1
  simpa using this
theorem store_E {ops : Array Oper} {rest : List Oper} {op : Oper} {a : Act} {w : World} {Q : Exit → Act → World → Prop} (b o : Nat) (pre old post cs : List Value) (T : TypeId) (h : w.heap[b]? = some (.cells (pre ++ (old ++ post)).toArray T (0, 0))) (ho : pre.length = o) (h7 : old.length = 7) (hc : cs.length = 7) (h1 : ∀ v ∈ cs, v.oneCell' = true)
  (hgd : op.guard = none) (x y : Operand) (hop : op.op = .store 47 x y) (hx : a.eval x = .pointer (some ⟨b, o, none⟩)) (hy : a.eval y = .agg cs.toArray)
  (hk : wpList Tryz.prog ops Q rest (a.put op.dst undef) (w.setCells b o cs)) : wpList Tryz.prog ops Q (op :: rest) a w := by
 subst ho
 obtain ⟨i0, hi, _, hz1, _⟩ := info_parts infoE
 refine wpList_store_mid hgd 47 x y hop b pre.length cs.toArray hx hy (fun j hj => ?_) (by rw [hi]; simp [hz1, hc]) (all_oneCell_toArray h1) hk
 have hj7 : j < 7 := by rw [← hc]; simpa using hj
 refine ⟨?_, by simp [World.frozen?, h]⟩
 have : (pre ++ (old ++ post))[pre.length + j]? = some old[j] := by
  rw [List.getElem?_append_right (by omega), Nat.add_sub_cancel_left, List.getElem?_append_left (by omega), List.getElem?_eq_getElem (by omega)]
 simp [World.cell?, h, this]
end Go.Proofs.YtmiencglfhpmeaaGreatDoor
namespace Go.Proofs.YtmiencglfhpmeaaGreatDoor
open Go.RowKit Hach Num
def Rn.zero (nm : List UInt8) : Rn := ⟨⟨nm, 0, zeroE, zeroE, zeroE, zeroE⟩, none, none, none, none, 0, 0, 0, 0⟩
def Rn.setP (u : Rn) (v : Int) : Rn := ⟨⟨u.r.nm, v, u.r.e1, u.r.e2, u.r.e3, u.r.e4⟩, u.A1, u.A2, u.A3, u.A4, u.c1, u.c2, u.c3, u.c4⟩
def Rn.set1 (u : Rn) (x : Ex) (A : Option Addr) (c : Nat) : Rn := ⟨⟨u.r.nm, u.r.pr, x, u.r.e2, u.r.e3, u.r.e4⟩, A, u.A2, u.A3, u.A4, c, u.c2, u.c3, u.c4⟩
def Rn.set2 (u : Rn) (x : Ex) (A : Option Addr) (c : Nat) : Rn := ⟨⟨u.r.nm, u.r.pr, u.r.e1, x, u.r.e3, u.r.e4⟩, u.A1, A, u.A3, u.A4, u.c1, c, u.c3, u.c4⟩
def Rn.set3 (u : Rn) (x : Ex) (A : Option Addr) (c : Nat) : Rn := ⟨⟨u.r.nm, u.r.pr, u.r.e1, u.r.e2, x, u.r.e4⟩, u.A1, u.A2, A, u.A4, u.c1, u.c2, c, u.c4⟩
def Rn.set4 (u : Rn) (x : Ex) (A : Option Addr) (c : Nat) : Rn := ⟨⟨u.r.nm, u.r.pr, u.r.e1, u.r.e2, u.r.e3, x⟩, u.A1, u.A2, u.A3, A, u.c1, u.c2, u.c3, c⟩
theorem rn_setP {w : World} {b : Nat} {u : Rn} (h : RnB w b u) (v : Int) : RnB (w.setCell ⟨b, 1, none⟩ (.int .i64 v)) b (u.setP v) ∧ w.grownBy (w.setCell ⟨b, 1, none⟩ (.int .i64 v)) (some b) :=
 put_mid [.int .i64 v] [.int .i64 u.r.pr] [.string ⟨u.r.nm.toArray⟩] (u.r.e1.cells u.A1 u.c1 ++ (u.r.e2.cells u.A2 u.c2 ++ (u.r.e3.cells u.A3 u.c3 ++ u.r.e4.cells u.A4 u.c4))) w h rfl
theorem ex_one (x : Ex) (A : Option Addr) (c : Nat) : ∀ v ∈ x.cells A c, v.oneCell' = true := by
 intro v hv
 simp only [Ex.cells, List.mem_cons, List.mem_nil_iff, or_false] at hv
 rcases hv with rfl | rfl | rfl | rfl | rfl | rfl | rfl <;> rfl
variable {ops : Array Oper} {rest : List Oper} {op : Oper} {a : Act} {w : World} {Q : Exit → Act → World → Prop}
end Go.Proofs.YtmiencglfhpmeaaGreatDoor
