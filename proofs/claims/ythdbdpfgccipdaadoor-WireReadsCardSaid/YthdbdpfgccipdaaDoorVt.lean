/- Contracts of a reader of the reference: lists. -/
import Derived.Test.YthdbdpfgccipdaaDoorVr
namespace Go.Proofs.YthdbdpfgccipdaaDoor
open Go.RowKit Hach Num

theorem elems_closed {α : Type} {f : List UInt8 → Option (α × List UInt8)} {q q' : List UInt8} (h : RB 93 (some q) = some q') (k : Nat) : rdElems f (k + 1) q = some ([], q') := by
  match q, h with
  | d :: r, h =>
    simp only [RB] at h
    split at h
    · rename_i hd
      simp only [Option.some.injEq] at h
      subst h
      simp only [rdElems, if_pos hd]
    · cases h
theorem elems_none {α : Type} {f : List UInt8 → Option (α × List UInt8)} {q : List UInt8} (h : RB 93 (some q) = none) (hx : f q = none) (k : Nat) : rdElems f (k + 1) q = none := by
  match q, h, hx with
  | [], _, _ => rfl
  | d :: r, h, hx =>
    simp only [RB] at h
    split at h
    · cases h
    · rename_i hd
      simp only [rdElems, if_neg hd, hx]
theorem elems_more {α : Type} {f : List UInt8 → Option (α × List UInt8)} {q q' : List UInt8} {x : α} (h : RB 93 (some q) = none) (hx : f q = some (x, q')) (hne : q ≠ []) (k : Nat) : rdElems f (k + 1) q = (rdElems f k q').map fun p => (x :: p.1, p.2) := by
  match q, h, hx, hne with
  | d :: r, h, hx, _ =>
    simp only [RB] at h
    split at h
    · cases h
    · rename_i hd
      simp only [rdElems, if_neg hd, hx]

def RListI (e : Ending) (w' : World) (B b : Nat) (o : Option (List Int × List UInt8)) : Prop := (∃ v, e = .returned v ∧ OwnI w' B v ((o.map (·.1)).getD [])) ∧ RR w' b (o.map (·.2))
set_option maxHeartbeats 1000000 in
theorem rrlist_I (b : Nat) (l : Option (List UInt8)) (w : World) (hR : RR w b l) :
    Calls Tryd.prog 28 #[.pointer (some ⟨b, 0, none⟩)] w fun e w' => RListI e w' w.heap.size b (l.bind (rdList rdInt)) ∧ w.grownBy w' (some b) := by
  have hbw := hR.lt
  have hby : Calls Tryd.prog 47 #[.pointer (some ⟨b, 0, none⟩), .int .u8 91] w fun e w' => RByte e w' b l (RB 91 l) ∧ w.grownBy w' (some b) := rbyte_any 91 b l w hR
  cases ho : RB 91 l with
  | none =>
    have hno : l.bind (rdList rdInt) = none := by
      match l, ho with
      | none, _ => rfl
      | some [], _ => rfl
      | some (x :: r), ho =>
        simp only [RB] at ho
        split at ho
        · cases ho
        · rename_i hx; simp only [Option.bind_some, rdList, if_neg hx]
    rw [ho] at hby
    rw [hno]
    clear hno ho
    go_enter Tryd.func28, Tryd.ntmps28
    go_wp2_with fail
    refine hby.mono ?_
    rintro e w1 ⟨⟨rfl, hR1⟩, hg1⟩
    have hR1 : RR w1 b l := hR1
    go_wp2_with fail
    refine (rfail_any b l w1 hR1).mono ?_
    rintro e w2 ⟨rfl, hR2, hg2⟩
    go_wp2_with fail
    go_ret
    exact ⟨⟨⟨_, rfl, OwnI.nil _ _⟩, hR2⟩, hg1.trans hg2⟩
  | some r =>
    have hF : l.bind (rdList rdInt) = rdElems rdInt (r.length + 1) r := by
      match l, ho with
      | some (x :: r'), ho =>
        simp only [RB] at ho
        split at ho
        · rename_i hx
          simp only [Option.some.injEq] at ho
          subst ho
          simp only [Option.bind_some, rdList, if_pos hx]
        · cases ho
    rw [ho] at hby
    have HF := Lib.hid hF
    clear hF ho
    go_enter Tryd.func28, Tryd.ntmps28
    go_wp2_with fail
    refine hby.mono ?_
    rintro e w1 ⟨⟨rfl, hR1⟩, hg1⟩
    have hR1 : RR w1 b (some r) := hR1
    have hr32 : r.length < 4294967281 := by
      obtain ⟨S, a, _, h2, _, h4⟩ := hR1
      rw [← h4 r rfl, List.length_drop]; omega
    go_wp2_with fail
    go_loopg [3] r.length (fun g vl wr => ∃ (out : List Int) (q : List UInt8), g = q.length ∧ OwnI wr w.heap.size vl out ∧ RR wr b (some q) ∧ w.grownBy wr (some b) ∧ out.length + g ≤ r.length ∧ GoI r out (some q))
    case atStart =>
      refine ⟨[], r, rfl, OwnI.nil _ _, hR1, hg1, by simp, r.length + 1, by omega, ?_⟩
      cases rdElems rdInt (r.length + 1) r <;> simp
    case round =>
      obtain ⟨out, q, rfl, hO, hRr, hgr, hlen, hgo⟩ := hrel
      have HG := Lib.hid hgo
      clear hgo
      have hcl : Calls Tryd.prog 47 #[.pointer (some ⟨b, 0, none⟩), .int .u8 93] wr fun e w' => RByte e w' b (some q) (RB 93 (some q)) ∧ wr.grownBy w' (some b) := rbyte_any 93 b (some q) wr hRr
      cases hb : RB 93 (some q) with
      | some q' =>
        rw [hb] at hcl
        have hFs : rdElems rdInt (r.length + 1) r = some (out, q') := by
          obtain ⟨k, hk, e⟩ := HG.out
          match k, hk with
          | k + 1, _ => rw [e, elems_closed hb k]; simp
        have HFS := Lib.hid hFs
        clear hFs hb
        go_wp2_with fail
        refine hcl.mono ?_
        rintro e w2 ⟨⟨rfl, hR2⟩, hg2⟩
        go_wp2_with fail
        go_ret
        rw [HF.out, HFS.out]
        exact ⟨⟨⟨u3, rfl, hO.other hg2 hbw⟩, hR2⟩, hgr.trans hg2⟩
      | none =>
        rw [hb] at hcl
        have HB := Lib.hid hb
        clear hb
        go_wp2_with fail
        refine hcl.mono ?_
        rintro e w2 ⟨⟨rfl, hR2⟩, hg2⟩
        have hR2 : RR w2 b (some q) := hR2
        go_wp2_with fail
        have hca := rint_any b (some q) w2 hR2
        simp only [Option.bind_some] at hca
        cases hx : rdInt q with
        | none =>
          rw [hx] at hca
          have hFn : rdElems rdInt (r.length + 1) r = none := by
            obtain ⟨k, hk, e⟩ := HG.out
            match k, hk with
            | k + 1, _ => rw [e, elems_none HB.out hx k]; rfl
          have HFN := Lib.hid hFn
          clear hFn hx
          refine hca.mono ?_
          rintro e wa ⟨⟨rfl, hRa⟩, hga⟩
          have hOa := (hO.other hg2 hbw).other hga hbw
          have hgall := (hgr.trans hg2).trans hga
          have hza := hgall.size
          have hbase : ∀ o : Obj, w.heap.size ≤ (wa.alloc o).heap.size := fun o => by rw [World.size_alloc]; omega
          go_wp2_with (at_builtin; refine app_I rfl 17 20 rfl w.heap.size u3 out rfl (hOa.ext (Ext.alloc _ _)) wa.heap.size (0 : Int) rfl ((World.cell?_alloc_new _ _ _ _).trans rfl) (by omega) (hbase _) ?_; intro v' w'' hO' hg')
          have hown := fun g hg => (OwnI.lt hOa g hg).1
          have hRz := (hRa.ext (Ext.alloc _ _)).own hg' (fun e => by have := hown b e.symm; omega)
          have hgz := grown_own (hgall.trans (grown_ext (Ext.alloc _ _) _)) hg' hown
          refine (rbad_any b _ w'' hRz).mono ?_
          rintro e w6 ⟨rfl, rfl⟩
          go_wp2_with fail
          go_ret
          rw [HF.out, HFN.out]
          exact ⟨⟨⟨_, rfl, OwnI.nil _ _⟩, hRz⟩, hgz⟩
        | some y =>
          obtain ⟨x, q'⟩ := y
          rw [hx] at hca
          have hless := twinInt.less hx
          have hne : q ≠ [] := by intro e; rw [e] at hless; simp at hless
          have HX := Lib.hid hx
          clear hx
          refine hca.mono ?_
          rintro e wa ⟨⟨rfl, hRa⟩, hga⟩
          have hOa := (hO.other hg2 hbw).other hga hbw
          have hgall := (hgr.trans hg2).trans hga
          have hza := hgall.size
          have hbase : ∀ o : Obj, w.heap.size ≤ (wa.alloc o).heap.size := fun o => by rw [World.size_alloc]; omega
          go_wp2_with (at_builtin; refine app_I rfl 17 20 rfl w.heap.size u3 out rfl (hOa.ext (Ext.alloc _ _)) wa.heap.size x rfl ((World.cell?_alloc_new _ _ _ _).trans rfl) (by omega) (hbase _) ?_; intro v' w'' hO' hg')
          have hown := fun g hg => (OwnI.lt hOa g hg).1
          have hRz := (hRa.ext (Ext.alloc _ _)).own hg' (fun e => by have := hown b e.symm; omega)
          have hgz := grown_own (hgall.trans (grown_ext (Ext.alloc _ _) _)) hg' hown
          refine (rbad_any b _ w'' hRz).mono ?_
          rintro e w6 ⟨rfl, rfl⟩
          go_wp2_with fail
          go_roundg q'.length
          case measure => omega
          case rel =>
            refine ⟨out ++ [x], q', rfl, hO', hRz, hgz, by simp; omega, ?_⟩
            obtain ⟨k, hk, e⟩ := HG.out
            match k, hk with
            | k + 1, hk =>
              refine ⟨k, by omega, ?_⟩
              rw [e, elems_more HB.out HX.out hne k]
              cases rdElems rdInt k q' <;> simp
def RListT (e : Ending) (w' : World) (B b : Nat) (o : Option (List (List UInt8) × List UInt8)) : Prop := (∃ v, e = .returned v ∧ OwnT w' B v ((o.map (·.1)).getD [])) ∧ RR w' b (o.map (·.2))
set_option maxHeartbeats 1000000 in
theorem rrlist_T (b : Nat) (l : Option (List UInt8)) (w : World) (hR : RR w b l) :
    Calls Tryd.prog 31 #[.pointer (some ⟨b, 0, none⟩)] w fun e w' => RListT e w' w.heap.size b (l.bind (rdList rdText)) ∧ w.grownBy w' (some b) := by
  have hbw := hR.lt
  have hby : Calls Tryd.prog 47 #[.pointer (some ⟨b, 0, none⟩), .int .u8 91] w fun e w' => RByte e w' b l (RB 91 l) ∧ w.grownBy w' (some b) := rbyte_any 91 b l w hR
  cases ho : RB 91 l with
  | none =>
    have hno : l.bind (rdList rdText) = none := by
      match l, ho with
      | none, _ => rfl
      | some [], _ => rfl
      | some (x :: r), ho =>
        simp only [RB] at ho
        split at ho
        · cases ho
        · rename_i hx; simp only [Option.bind_some, rdList, if_neg hx]
    rw [ho] at hby
    rw [hno]
    clear hno ho
    go_enter Tryd.func31, Tryd.ntmps31
    go_wp2_with fail
    refine hby.mono ?_
    rintro e w1 ⟨⟨rfl, hR1⟩, hg1⟩
    have hR1 : RR w1 b l := hR1
    go_wp2_with fail
    refine (rfail_any b l w1 hR1).mono ?_
    rintro e w2 ⟨rfl, hR2, hg2⟩
    go_wp2_with fail
    go_ret
    exact ⟨⟨⟨_, rfl, OwnT.nil _ _⟩, hR2⟩, hg1.trans hg2⟩
  | some r =>
    have hF : l.bind (rdList rdText) = rdElems rdText (r.length + 1) r := by
      match l, ho with
      | some (x :: r'), ho =>
        simp only [RB] at ho
        split at ho
        · rename_i hx
          simp only [Option.some.injEq] at ho
          subst ho
          simp only [Option.bind_some, rdList, if_pos hx]
        · cases ho
    rw [ho] at hby
    have HF := Lib.hid hF
    clear hF ho
    go_enter Tryd.func31, Tryd.ntmps31
    go_wp2_with fail
    refine hby.mono ?_
    rintro e w1 ⟨⟨rfl, hR1⟩, hg1⟩
    have hR1 : RR w1 b (some r) := hR1
    have hr32 : r.length < 4294967281 := by
      obtain ⟨S, a, _, h2, _, h4⟩ := hR1
      rw [← h4 r rfl, List.length_drop]; omega
    go_wp2_with fail
    go_loopg [3] r.length (fun g vl wr => ∃ (out : List (List UInt8)) (q : List UInt8), g = q.length ∧ OwnT wr w.heap.size vl out ∧ RR wr b (some q) ∧ w.grownBy wr (some b) ∧ out.length + g ≤ r.length ∧ GoT r out (some q))
    case atStart =>
      refine ⟨[], r, rfl, OwnT.nil _ _, hR1, hg1, by simp, r.length + 1, by omega, ?_⟩
      cases rdElems rdText (r.length + 1) r <;> simp
    case round =>
      obtain ⟨out, q, rfl, hO, hRr, hgr, hlen, hgo⟩ := hrel
      have HG := Lib.hid hgo
      clear hgo
      have hcl : Calls Tryd.prog 47 #[.pointer (some ⟨b, 0, none⟩), .int .u8 93] wr fun e w' => RByte e w' b (some q) (RB 93 (some q)) ∧ wr.grownBy w' (some b) := rbyte_any 93 b (some q) wr hRr
      cases hb : RB 93 (some q) with
      | some q' =>
        rw [hb] at hcl
        have hFs : rdElems rdText (r.length + 1) r = some (out, q') := by
          obtain ⟨k, hk, e⟩ := HG.out
          match k, hk with
          | k + 1, _ => rw [e, elems_closed hb k]; simp
        have HFS := Lib.hid hFs
        clear hFs hb
        go_wp2_with fail
        refine hcl.mono ?_
        rintro e w2 ⟨⟨rfl, hR2⟩, hg2⟩
        go_wp2_with fail
        go_ret
        rw [HF.out, HFS.out]
        exact ⟨⟨⟨u3, rfl, hO.other hg2 hbw⟩, hR2⟩, hgr.trans hg2⟩
      | none =>
        rw [hb] at hcl
        have HB := Lib.hid hb
        clear hb
        go_wp2_with fail
        refine hcl.mono ?_
        rintro e w2 ⟨⟨rfl, hR2⟩, hg2⟩
        have hR2 : RR w2 b (some q) := hR2
        go_wp2_with fail
        have hca := rtext_any b (some q) w2 hR2
        simp only [Option.bind_some] at hca
        cases hx : rdText q with
        | none =>
          rw [hx] at hca
          have hFn : rdElems rdText (r.length + 1) r = none := by
            obtain ⟨k, hk, e⟩ := HG.out
            match k, hk with
            | k + 1, _ => rw [e, elems_none HB.out hx k]; rfl
          have HFN := Lib.hid hFn
          clear hFn hx
          refine hca.mono ?_
          rintro e wa ⟨⟨rfl, hRa⟩, hga⟩
          have hOa := (hO.other hg2 hbw).other hga hbw
          have hgall := (hgr.trans hg2).trans hga
          have hza := hgall.size
          have hbase : ∀ o : Obj, w.heap.size ≤ (wa.alloc o).heap.size := fun o => by rw [World.size_alloc]; omega
          go_wp2_with (at_builtin; refine app_T rfl 17 20 rfl w.heap.size u3 out rfl (hOa.ext (Ext.alloc _ _)) wa.heap.size ([] : List UInt8) rfl ((World.cell?_alloc_new _ _ _ _).trans rfl) (by omega) (hbase _) ?_; intro v' w'' hO' hg')
          have hown := fun g hg => (OwnT.lt hOa g hg).1
          have hRz := (hRa.ext (Ext.alloc _ _)).own hg' (fun e => by have := hown b e.symm; omega)
          have hgz := grown_own (hgall.trans (grown_ext (Ext.alloc _ _) _)) hg' hown
          refine (rbad_any b _ w'' hRz).mono ?_
          rintro e w6 ⟨rfl, rfl⟩
          go_wp2_with fail
          go_ret
          rw [HF.out, HFN.out]
          exact ⟨⟨⟨_, rfl, OwnT.nil _ _⟩, hRz⟩, hgz⟩
        | some y =>
          obtain ⟨x, q'⟩ := y
          rw [hx] at hca
          have hless := twinText.less hx
          have hne : q ≠ [] := by intro e; rw [e] at hless; simp at hless
          have HX := Lib.hid hx
          clear hx
          refine hca.mono ?_
          rintro e wa ⟨⟨rfl, hRa⟩, hga⟩
          have hOa := (hO.other hg2 hbw).other hga hbw
          have hgall := (hgr.trans hg2).trans hga
          have hza := hgall.size
          have hbase : ∀ o : Obj, w.heap.size ≤ (wa.alloc o).heap.size := fun o => by rw [World.size_alloc]; omega
          go_wp2_with (at_builtin; refine app_T rfl 17 20 rfl w.heap.size u3 out rfl (hOa.ext (Ext.alloc _ _)) wa.heap.size x rfl ((World.cell?_alloc_new _ _ _ _).trans rfl) (by omega) (hbase _) ?_; intro v' w'' hO' hg')
          have hown := fun g hg => (OwnT.lt hOa g hg).1
          have hRz := (hRa.ext (Ext.alloc _ _)).own hg' (fun e => by have := hown b e.symm; omega)
          have hgz := grown_own (hgall.trans (grown_ext (Ext.alloc _ _) _)) hg' hown
          refine (rbad_any b _ w'' hRz).mono ?_
          rintro e w6 ⟨rfl, rfl⟩
          go_wp2_with fail
          go_roundg q'.length
          case measure => omega
          case rel =>
            refine ⟨out ++ [x], q', rfl, hO', hRz, hgz, by simp; omega, ?_⟩
            obtain ⟨k, hk, e⟩ := HG.out
            match k, hk with
            | k + 1, hk =>
              refine ⟨k, by omega, ?_⟩
              rw [e, elems_more HB.out HX.out hne k]
              cases rdElems rdText k q' <;> simp
end Go.Proofs.YthdbdpfgccipdaaDoor
