/- Rules, and right names: plain. -/
import Derived.Test.YtmiencglfhpmeaaGreatDoorKQXa
import Derived.Test.YtmiencglfhpmeaaGreatDoorKQXh
import Derived.Test.YtmiencglfhpmeaaGreatDoorKQXc
import Derived.Deep.MidRow
import Derived.Maps.AppendAt
import Derived.Test.YtmiencglfhpmeaaGreatDoorKQXp
import Derived.Test.YtmiencglfhpmeaaGreatDoorKQXq
open List renaming append_assoc → zA, append_eq_nil_iff → zB, filter_append → zC, filter_eq_nil_iff → zD, flatten_cons → zE, getElem?_eq_getElem → zF, getElem?_eq_some_iff → zG, length_append → zH, length_cons → zI, map_cons → zJ, mem_append → zK, mem_append_left → zL, mem_cons_of_mem → zM, mem_cons_self → zN, mem_filter → zO, mem_singleton → zP, take_succ_eq_append_getElem → zQ
open Option renaming some.injEq → zR
open Bool renaming and_eq_true → zS
set_option linter.unusedSimpArgs false
set_option linter.unusedVariables false
namespace Go.Proofs.YtmiencglfhpmeaaGreatDoor
open Go.RowKit Hach
structure Rl where
 nm:List UInt8
 pr:Int
 e1:Ex
 e2:Ex
 e3:Ex
 e4:Ex
def okC (c:UInt8):Bool := !(decide (c.toNat<32)||(decide (126<c.toNat)||decide (c.toNat=34)))
def nmOk (s:List UInt8):Bool := !(decide (s.length<1)||(decide (24<s.length)||(decide (s.getD 0 0=32)||decide (s.getD (s.length-1) 0=32))))&&s.all okC
end Go.Proofs.YtmiencglfhpmeaaGreatDoor
namespace Go.Proofs.YtmiencglfhpmeaaGreatDoor
open Go.RowKit Hach
def tyE (e:Ex) (t:Int):Int:=if chkE e≠0 then chkE e else if chkT e=t then 0 else 30
def Rl.err (b:List Rl) (r:Rl):Int:=
 if nmOk r.nm=false then 15 else if b.any (fun x=>decide (x.nm=r.nm))=true then 6 else if r.pr<0∨1000<r.pr then 3
 else if tyE r.e1 2≠0 then tyE r.e1 2 else if tyE r.e2 1≠0 then tyE r.e2 1 else if tyE r.e3 1≠0 then tyE r.e3 1 else tyE r.e4 1
def errF:List Rl→List Rl→Int
 | _,[]=>0
 | b,r::l=>if r.err b≠0 then r.err b else errF (b++[r]) l
def chkL (l:List Rl):Int:=if 40<l.length then 2 else errF [] l
theorem errF_at (l:List Rl) (k:Nat) (hk:k<l.length):errF (l.take k) (l.drop k)=if (l[k]).err (l.take k)≠0 then(l[k]).err (l.take k) else errF (l.take (k+1)) (l.drop (k+1)):=by
 rw[List.drop_eq_getElem_cons hk,errF,zQ hk]
theorem errF_end (l:List Rl):errF (l.take l.length) (l.drop l.length)=0:=by
 rw[List.drop_length];rfl
def holds (x:En) (r:Rl):Bool:=(evV r.e1 x).b
def cstep (x:En) (acc:List Rl) (r:Rl):List Rl:=
 if holds x r=false then acc else match acc with
 | []=>[r]
 | c::cs=>if r.pr<c.pr then c::cs else if r.pr=c.pr then c::cs++[r] else[r]
def cnt (x:En) (l:List Rl):List Rl:=l.foldl (cstep x) []
theorem cnt_snoc (x:En) (l:List Rl) (r:Rl):cnt x (l++[r])=cstep x (cnt x l) r:=by simp[cnt]
theorem cnt_take (x:En) (l:List Rl) (k:Nat) (hk:k<l.length):cnt x (l.take (k+1))=cstep x (cnt x (l.take k)) l[k]:=by
 rw[zQ hk,cnt_snoc]
def numb (e:Ex) (x:En) (most:Int):Int:=max 0 (min (evV e x).n most)
def lookR (x:En) (r:Rl):Int×Int×Int:=(numb r.e2 x 255,numb r.e3 x 16,numb r.e4 x 8)
def clashT (r s:Rl):List UInt8:=r.nm++47::s.nm
def lookC (x:En):List Rl→(Int×Int×Int)×List UInt8×Int
 | []=>((0,0,0),[],0)
 | [r]=>(lookR x r,r.nm,0)
 | r::s::_=>((0,0,0),clashT r s,31)
def lookL (l:List Rl) (x:En):(Int×Int×Int)×List UInt8×Int:=if chkL l≠0 then((0,0,0),[],chkL l) else lookC x (cnt x l)
def Most (x:En) (l:List Rl) (m:Int):Prop:=(∃r∈l,holds x r=true∧r.pr=m) ∧∀r∈l,holds x r=true→r.pr≤m
def pick (x:En) (m:Int) (r:Rl):Bool:=holds x r&&decide (r.pr=m)
def CntOk (x:En) (l acc:List Rl):Prop:=(acc=[] ∧∀r∈l,holds x r=false) ∨∃m,Most x l m∧acc=l.filter (pick x m)
theorem pick_true {x:En}{m:Int}{r:Rl}:pick x m r=true↔holds x r=true∧r.pr=m:=by simp[pick]
theorem cnt_ok (x:En) (l:List Rl):CntOk x l (cnt x l):=by
 suffices h :∀n,∀l:List Rl,l.length=n→CntOk x l (cnt x l) from h _ l rfl
 intro n
 induction n with
 | zero=>intro l hl;rw[List.length_eq_zero_iff.1 hl];exact .inl ⟨rfl,fun r h=>by cases h⟩
 | succ n ih=>
  intro l hl
  obtain⟨l',r,rfl⟩ :∃l' r,l=l'++[r]:=⟨l.dropLast,l.getLast (by intro e;rw[e]at hl;simp at hl),(List.dropLast_concat_getLast _).symm⟩
  have hi:=ih l' (by simpa using hl)
  rw[cnt_snoc]
  unfold cstep
  cases hh:holds x r with
  | false=>
   simp only[if_pos]
   rcases hi with⟨h1,h2⟩|⟨m,⟨h1,h2⟩,h3⟩
   ·refine .inl ⟨h1,fun s hs=>?_⟩
    rcases zK.1 hs with hs|hs
    ·exact h2 s hs
    ·rw[zP.1 hs];exact hh
   ·refine .inr ⟨m,⟨?_,fun s hs hss=>?_⟩,?_⟩
    ·obtain⟨s,hs,h⟩:=h1;exact⟨s,zL _ hs,h⟩
    ·rcases zK.1 hs with hs|hs
     ·exact h2 s hs hss
     ·rw[zP.1 hs,hh]at hss;cases hss
    ·rw[h3,zC];simp[pick,hh]
  | true=>
   simp only[Bool.true_eq_false,if_false]
   rcases hi with⟨h1,h2⟩|⟨m,⟨h1,h2⟩,h3⟩
   ·rw[h1]
    have hnone:l'.filter (pick x r.pr)=[]:=zD.2 fun s hs=>by simp[pick,h2 s hs]
    refine .inr ⟨r.pr,⟨⟨r,by simp,hh,rfl⟩,fun s hs hss=>?_⟩,?_⟩
    ·rcases zK.1 hs with hs|hs
     ·rw[h2 s hs]at hss;cases hss
     ·rw[zP.1 hs];exact Int.le_refl _
    ·rw[zC,hnone];simp[pick,hh]
   ·obtain⟨s0,hs0,hh0,hp0⟩:=h1
    have hne:s0∈cnt x l':=by rw[h3];exact zO.2 ⟨hs0,pick_true.2 ⟨hh0,hp0⟩⟩
    have hall :∀s∈cnt x l',s.pr=m:=fun s hs=>by rw[h3]at hs;exact(pick_true.1 (zO.1 hs).2).2
    cases hc:cnt x l' with
    | nil=>rw[hc]at hne;cases hne
    | cons c cs=>
     have hcm:c.pr=m:=hall c (by rw[hc];exact zN)
     rw[hc]at h3
     simp only[hcm]
     by_cases hlt:r.pr<m
     ·rw[if_pos hlt]
      refine .inr ⟨m,⟨⟨s0,zL _ hs0,hh0,hp0⟩,fun s hs hss=>?_⟩,?_⟩
      ·rcases zK.1 hs with hs|hs
       ·exact h2 s hs hss
       ·rw[zP.1 hs];omega
      ·have :¬r.pr=m:=by omega
       rw[zC,←h3];simp[pick,this]
     ·rw[if_neg hlt]
      by_cases heq:r.pr=m
      ·rw[if_pos heq]
       refine .inr ⟨m,⟨⟨s0,zL _ hs0,hh0,hp0⟩,fun s hs hss=>?_⟩,?_⟩
       ·rcases zK.1 hs with hs|hs
        ·exact h2 s hs hss
        ·rw[zP.1 hs];omega
       ·rw[zC,←h3];simp[pick,heq,hh]
      ·rw[if_neg heq]
       have hnone:l'.filter (pick x r.pr)=[]:=zD.2 fun s hs=>by
        simp only[pick,zS,decide_eq_true_eq,not_and]
        intro hss he
        have:=h2 s hs hss
        omega
       refine .inr ⟨r.pr,⟨⟨r,by simp,hh,rfl⟩,fun s hs hss=>?_⟩,?_⟩
       ·rcases zK.1 hs with hs|hs
        ·have:=h2 s hs hss;omega
        ·rw[zP.1 hs];exact Int.le_refl _
       ·rw[zC,hnone];simp[pick,hh]
theorem Most.same {x:En}{l:List Rl}{m m':Int}(h:Most x l m) (h':Most x l m'):m=m':=by
 obtain⟨⟨r,hr,h1,h2⟩,h3⟩:=h
 obtain⟨⟨r',hr',h1',h2'⟩,h3'⟩:=h'
 have:=h3 r' hr' h1'
 have:=h3' r hr h1
 omega
def rbest:List Rl→Int
 | [] => -1
 | c::_=>c.pr
def rname:List Rl→List UInt8
 | []=>[]
 | c::_=>c.nm
def rclash:List Rl→List UInt8
 | r::s::_=>clashT r s
 | _=>[]
def rlook (x:En):List Rl→Int×Int×Int
 | []=>(0,0,0)
 | c::_=>lookR x c
theorem clash_ne (r s:Rl):clashT r s≠[]:=by simp[clashT]
theorem look_ref (x:En) (acc:List Rl):lookC x acc=if rclash acc≠[] then((0,0,0),rclash acc,31) else(rlook x acc,rname acc,0):=by
 match acc with
 | []=>rfl
 | [r]=>rfl
 | r::s::u=>
  show lookC x (r::s::u)=if clashT r s≠[] then((0,0,0),clashT r s,31) else _
  rw[if_pos (clash_ne r s)];rfl
theorem err_zero {b:List Rl}{r:Rl}(h:r.err b=0):nmOk r.nm=true∧b.any (fun x=>decide (x.nm=r.nm))=false∧(0≤r.pr∧r.pr≤1000)∧tyE r.e1 2=0∧tyE r.e2 1=0∧tyE r.e3 1=0∧tyE r.e4 1=0:=by
 unfold Rl.err at h
 split at h
 ·cases h
 split at h
 ·cases h
 split at h
 ·cases h
 split at h
 ·contradiction
 split at h
 ·contradiction
 split at h
 ·contradiction
 rename_i h1 h2 h3 h4 h5 h6
 exact⟨by simpa using h1,by simpa using h2,by omega,by omega,by omega,by omega,h⟩
theorem errF_zero :∀(l b:List Rl),errF b l=0 →∀(j:Nat) (hj:j<l.length),(l[j]).err (b++l.take j)=0
 | [],_,_=>fun j hj=>by simp at hj
 | r::l,b,h=>fun j hj=>by
  rw[errF]at h
  split at h
  ·contradiction
  rename_i h1
  have h1:r.err b=0:=by omega
  cases j with
  | zero=>simpa using h1
  | succ j=>
   have:=errF_zero l (b++[r]) h j (by simpa using hj)
   simpa[zA]using this
theorem chk_len {l:List Rl}(h:chkL l=0):l.length≤40 ∧∀(j:Nat) (hj:j<l.length),(l[j]).err (l.take j)=0:=by
 unfold chkL at h
 split at h
 ·cases h
 rename_i h1
 refine⟨by omega,fun j hj=>?_⟩
 have:=errF_zero l [] h j hj
 simpa using this
theorem chk_mem {l:List Rl}(h:chkL l=0) {r:Rl}(hr:r∈l) :∃b,r.err b=0:=by
 obtain⟨j,hj,rfl⟩:=List.getElem_of_mem hr
 exact⟨_,(chk_len h).2 j hj⟩
theorem tyE_zero {e:Ex}{t:Int}(h:tyE e t=0):chkE e=0∧chkT e=t:=by
 unfold tyE at h
 split at h
 ·contradiction
 rename_i h1
 split at h
 ·rename_i h2;exact⟨by omega,h2⟩
 ·cases h
theorem tyE_rt {e:Ex}{t:Int}(h:tyE e t=0):Rt e t∧e.size≤60:=by
 obtain⟨h1,rfl⟩:=tyE_zero h
 exact chk_rt h1
end Go.Proofs.YtmiencglfhpmeaaGreatDoor
namespace Go.Proofs.YtmiencglfhpmeaaGreatDoor
open Go.RowKit Hach
structure Rn where
 r:Rl
 A1:Option Addr
 A2:Option Addr
 A3:Option Addr
 A4:Option Addr
 c1:Nat
 c2:Nat
 c3:Nat
 c4:Nat
def Rn.cells (u:Rn):List Value:=[.string ⟨u.r.nm.toArray⟩,.int .i64 u.r.pr,.int .i64 u.r.e1.op,.int .i64 u.r.e1.var,.int .i64 u.r.e1.ty,.int .i64 u.r.e1.n,.bool u.r.e1.b,.string ⟨u.r.e1.s.toArray⟩,.slice u.A1 u.r.e1.l.length u.c1,.int .i64 u.r.e2.op,.int .i64 u.r.e2.var,.int .i64 u.r.e2.ty,.int .i64 u.r.e2.n,.bool u.r.e2.b,.string ⟨u.r.e2.s.toArray⟩,.slice u.A2 u.r.e2.l.length u.c2,.int .i64 u.r.e3.op,.int .i64 u.r.e3.var,.int .i64 u.r.e3.ty,.int .i64 u.r.e3.n,.bool u.r.e3.b,.string ⟨u.r.e3.s.toArray⟩,.slice u.A3 u.r.e3.l.length u.c3,.int .i64 u.r.e4.op,.int .i64 u.r.e4.var,.int .i64 u.r.e4.ty,.int .i64 u.r.e4.n,.bool u.r.e4.b,.string ⟨u.r.e4.s.toArray⟩,.slice u.A4 u.r.e4.l.length u.c4]
def zero30:Array Value:=#[.string ⟨#[]⟩,.int .i64 0,.int .i64 0,.int .i64 0,.int .i64 0,.int .i64 0,.bool false,.string ⟨#[]⟩,.slice none 0 0,.int .i64 0,.int .i64 0,.int .i64 0,.int .i64 0,.bool false,.string ⟨#[]⟩,.slice none 0 0,.int .i64 0,.int .i64 0,.int .i64 0,.int .i64 0,.bool false,.string ⟨#[]⟩,.slice none 0 0,.int .i64 0,.int .i64 0,.int .i64 0,.int .i64 0,.bool false,.string ⟨#[]⟩,.slice none 0 0]
structure Rn.kids (w:World) (S:Nat→Prop) (d:Nat) (u:Rn):Prop where
 k1:ExL w S d u.A1 u.r.e1.l
 k2:ExL w S d u.A2 u.r.e2.l
 k3:ExL w S d u.A3 u.r.e3.l
 k4:ExL w S d u.A4 u.r.e4.l
theorem Rn.kids.keep {w w':World}{S:Nat→Prop}{d:Nat}{u:Rn}(h:u.kids w S d) (hw :∀b,S b →∀o,w'.cell? ⟨b,o,none⟩=w.cell? ⟨b,o,none⟩):u.kids w' S d:=⟨h.k1.keep hw,h.k2.keep hw,h.k3.keep hw,h.k4.keep hw⟩
theorem Rn.kids.more {w:World}{S S':Nat→Prop}{d:Nat}{u:Rn}(h:u.kids w S d) (hS :∀b,S b→S' b):u.kids w S' d:=⟨h.k1.more hS,h.k2.more hS,h.k3.more hS,h.k4.more hS⟩
theorem Rn.kids.deep {w:World}{S:Nat→Prop}{d d':Nat}{u:Rn}(h:u.kids w S d) (hd:d≤d'):u.kids w S d':=⟨h.k1.deep hd,h.k2.deep hd,h.k3.deep hd,h.k4.deep hd⟩
abbrev Rn.kidsB (w:World) (B:Nat) (d:Nat) (u:Rn):Prop:=u.kids w (fun b=>b<B) d
theorem Rn.kids.below {w w':World}{B d:Nat}{u:Rn}(h:u.kidsB w B d) (hb:Below B w w'):u.kidsB w' B d:=⟨h.k1.below hb,h.k2.below hb,h.k3.below hb,h.k4.below hb⟩
theorem Rn.kids.up {w:World}{B B' d:Nat}{u:Rn}(h:u.kidsB w B d) (hB:B≤B'):u.kidsB w B' d:=⟨h.k1.up hB,h.k2.up hB,h.k3.up hB,h.k4.up hB⟩
theorem Rn.kids.ext {w w':World}{d:Nat}{u:Rn}(h:u.kidsB w w.heap.size d) (hE:Ext w w'):u.kidsB w' w'.heap.size d:=⟨h.k1.ext hE,h.k2.ext hE,h.k3.ext hE,h.k4.ext hE⟩
def RlL (w:World) (S:Nat→Prop) (d:Nat) (A:Option Addr) (l:List Rl):Prop:=l≠[] →∃b o,A=some ⟨b,o,none⟩∧S b ∧∀(j:Nat) (r:Rl),l[j]?=some r →∃u:Rn,u.r=r∧u.kids w S d∧w.rangeAt b (o+j*30) u.cells
theorem RlL.nil (w:World) (S:Nat→Prop) (d:Nat) (A:Option Addr):RlL w S d A []:=fun h=>absurd rfl h
theorem RlL.keep {w w':World}{S:Nat→Prop}{d:Nat}{A:Option Addr}{l:List Rl}(h:RlL w S d A l) (hw :∀b,S b →∀o,w'.cell? ⟨b,o,none⟩=w.cell? ⟨b,o,none⟩):RlL w' S d A l:=fun hl=>by
 obtain⟨b,o,e,hB,hx⟩:=h hl
 refine⟨b,o,e,hB,fun j r hj=>?_⟩
 obtain⟨u,h1,h2,h3⟩:=hx j r hj
 exact⟨u,h1,h2.keep hw,fun i v hi=>(hw b hB _).trans (h3 i v hi)⟩
theorem RlL.more {w:World}{S S':Nat→Prop}{d:Nat}{A:Option Addr}{l:List Rl}(h:RlL w S d A l) (hS :∀b,S b→S' b):RlL w S' d A l:=fun hl=>by
 obtain⟨b,o,e,hB,hx⟩:=h hl
 refine⟨b,o,e,hS b hB,fun j r hj=>?_⟩
 obtain⟨u,h1,h2,h3⟩:=hx j r hj
 exact⟨u,h1,h2.more hS,h3⟩
theorem RlL.deep {w:World}{S:Nat→Prop}{d d':Nat}{A:Option Addr}{l:List Rl}(h:RlL w S d A l) (hd:d≤d'):RlL w S d' A l:=fun hl=>by
 obtain⟨b,o,e,hB,hx⟩:=h hl
 refine⟨b,o,e,hB,fun j r hj=>?_⟩
 obtain⟨u,h1,h2,h3⟩:=hx j r hj
 exact⟨u,h1,h2.deep hd,h3⟩
abbrev RlB (w:World) (B:Nat) (d:Nat) (A:Option Addr) (l:List Rl):Prop:=RlL w (fun b=>b<B) d A l
theorem RlL.below {w w':World}{B d:Nat}{A:Option Addr}{l:List Rl}(h:RlB w B d A l) (hb:Below B w w'):RlB w' B d A l:=h.keep fun b hB o=>hb.cell (p:=⟨b,o,none⟩) hB
theorem RlL.up {w:World}{B B' d:Nat}{A:Option Addr}{l:List Rl}(h:RlB w B d A l) (hB:B≤B'):RlB w B' d A l:=h.more fun b hb=>Nat.lt_of_lt_of_le hb hB
theorem RlL.ext {w w':World}{d:Nat}{A:Option Addr}{l:List Rl}(h:RlB w w.heap.size d A l) (hE:Ext w w'):RlB w' w'.heap.size d A l:=(h.below hE).up hE.sz
theorem RlL.at_ {w:World}{S:Nat→Prop}{d:Nat}{A:Option Addr}{l:List Rl}(h:RlL w S d A l) {j:Nat}(hj:j<l.length) :∃(b o:Nat) (u:Rn),A=some ⟨b,o,none⟩∧S b∧u.r=l[j]∧u.kids w S d∧w.rangeAt b (o+j*30) u.cells:=by
 obtain⟨b,o,e,hb,hx⟩:=h (fun e=>by rw[e]at hj;simp at hj)
 obtain⟨u,h1,h2,h3⟩:=hx j l[j] (zF hj)
 exact⟨b,o,u,e,hb,h1,h2,h3⟩
theorem RlL.take {w:World}{S:Nat→Prop}{d:Nat}{A:Option Addr}{l:List Rl}(h:RlL w S d A l) (k:Nat):RlL w S d A (l.take k):=fun hl=>by
 obtain⟨b,o,e,hB,hx⟩:=h (fun e=>hl (by rw[e];simp))
 refine⟨b,o,e,hB,fun j r hj=>hx j r ?_⟩
 rw[List.getElem?_take]at hj
 split at hj
 ·exact hj
 ·cases hj
theorem RlL.drop {w:World}{S:Nat→Prop}{d b o:Nat}{l:List Rl}(h:RlL w S d (some ⟨b,o,none⟩) l) (k:Nat):RlL w S d (some ⟨b,o+k*30,none⟩) (l.drop k):=fun hl=>by
 obtain⟨b',o',e,hB,hx⟩:=h (fun e=>hl (by rw[e];simp))
 simp only[zR,Addr.mk.injEq]at e
 obtain⟨rfl,rfl,_⟩:=e
 refine⟨b,o+k*30,rfl,hB,fun j r hj=>?_⟩
 rw[List.getElem?_drop]at hj
 obtain⟨u,h1,h2,h3⟩:=hx (k+j) r hj
 refine⟨u,h1,h2,?_⟩
 rw[show o+k*30+j*30=o+(k+j)*30 by omega]
 exact h3
theorem infoR:(Tryz.prog.info? 49).map (fun i=>(i.zero,i.size,i.bytes))=some (some (.agg #[.string ⟨#[]⟩,.int .i64 0,.int .i64 0,.int .i64 0,.int .i64 0,.int .i64 0,.bool false,.string ⟨#[]⟩,.slice none 0 0,.int .i64 0,.int .i64 0,.int .i64 0,.int .i64 0,.bool false,.string ⟨#[]⟩,.slice none 0 0,.int .i64 0,.int .i64 0,.int .i64 0,.int .i64 0,.bool false,.string ⟨#[]⟩,.slice none 0 0,.int .i64 0,.int .i64 0,.int .i64 0,.int .i64 0,.bool false,.string ⟨#[]⟩,.slice none 0 0]),30,344):=by kernel_rfl
def OwnR (w:World) (base:Nat) (v:Value) (us:List Rn):Prop:=w.ownsRow base 49 30 v us.length (us.map Rn.cells).flatten
theorem OwnR.nil (w:World) (base:Nat):OwnR w base (.slice none 0 0) []:=World.ownsRow_nil w base _ 30
theorem OwnR.keep {w w':World}{base:Nat}{v:Value}{us:List Rn}{row:Option Nat}(h:OwnR w base v us) (hg:w.grownBy w' row) (hne:v.ownBlock=none∨v.ownBlock≠row):OwnR w' base v us:=World.ownsRow.kept h hg hne
theorem OwnR.ext {w w':World}{base:Nat}{v:Value}{us:List Rn}(h:OwnR w base v us) (hE:Ext w w'):OwnR w' base v us:=h.keep (grown_of hE none) (by cases v.ownBlock<;>simp)
theorem OwnR.lt {w:World}{base:Nat}{v:Value}{us:List Rn}(h:OwnR w base v us) :∀g,v.ownBlock=some g→base≤g∧g<w.heap.size:=World.ownsRow.lt h
theorem rns_len (us:List Rn):(us.map Rn.cells).flatten.length=us.length*30:=by
 induction us with
 | nil=>rfl
 | cons u us ih=>
  have hc:u.cells.length=30:=rfl
  simp only[zJ,zE,zH,zI,ih,hc]
  omega
theorem rns_at (us:List Rn) (j:Nat) (hj:j<us.length) (i:Nat) (hi:i<30):(us.map Rn.cells).flatten[j*30+i]?=(us[j].cells)[i]?:=by
 induction us generalizing j with
 | nil=>simp at hj
 | cons u us ih=>
  have hc:u.cells.length=30:=rfl
  simp only[zJ,zE]
  cases j with
  | zero=>rw[List.getElem?_append_left (by omega)];simp
  | succ j=>
   rw[List.getElem?_append_right (by omega),show(j+1)*30+i-u.cells.length=j*30+i by omega]
   exact ih j (by simpa using hj)
theorem OwnR.form {w:World}{base:Nat}{v:Value}{us:List Rn}(h:OwnR w base v us) :∃A c,v=.slice A us.length c∧(0<us.length →∃b,A=some ⟨b,0,none⟩∧base≤b∧b<w.heap.size∧v.ownBlock=some b ∧∀(j:Nat) (u:Rn),us[j]?=some u→w.rangeAt b (j*30) u.cells):=by
 rcases h.2 with⟨rfl,hn⟩|⟨g,cap,cur,rfl,hb,hg,r⟩
 ·exact⟨none,0,by rw[hn],fun h0=>absurd h0 (by omega)⟩
 ·refine⟨_,_,rfl,fun _=>⟨g,rfl,hb,(Array.getElem?_eq_some_iff.1 hg).1,rfl,fun j u hj i v hu=>?_⟩⟩
  obtain⟨hjl,rfl⟩:=zG.1 hj
  have hi:i<30:=(zG.1 hu).1
  have:=World.ownsRow.cells h (g:=g) rfl (j*30+i) v ((rns_at us j hjl i hi).trans hu)
  simpa[Addr.add_lit]using this
theorem rn_one (u:Rn) :∀v∈u.cells,v.oneCell'=true:=by
 intro v hv
 simp only[Rn.cells,List.mem_cons,List.not_mem_nil,or_false]at hv
 rcases hv with rfl|rfl|rfl|rfl|rfl|rfl|rfl|rfl|rfl|rfl|rfl|rfl|rfl|rfl|rfl|rfl|rfl|rfl|rfl|rfl|rfl|rfl|rfl|rfl|rfl|rfl|rfl|rfl|rfl|rfl<;>rfl
theorem app_R {ops:Array Oper}{rest:List Oper}{o:Oper}{a:Act}{w:World}{Q:Exit→Act→World→Prop}(hgd:o.guard=none) (s x:Tmp)
  (ho:o.op=.call { callee:=.builtin .append,args:=#[.tmp s,.tmp x],argTypes:=#[30,30] }) (base:Nat) (v:Value) (us:List Rn) (hs:a.eval (.tmp s)=v) (hown:OwnR w base v us)
  (g k c:Nat) (ts:List Rn) (hx:a.eval (.tmp x)=.slice (some ⟨g,k,none⟩) ts.length c) (hc :∀(j:Nat) (t:Rn),ts[j]?=some t→w.rangeAt g (k+j*30) t.cells) (hl:us.length+ts.length<4294967296) (hbase:base≤w.heap.size)
  (h :∀v' w',OwnR w' base v' (us++ts)→w.grownBy w' v.ownBlock→(v'.ownBlock=v.ownBlock∨v'.ownBlock=some w.heap.size)→wpList Tryz.prog ops Q rest (a.put o.dst v') w'):wpList Tryz.prog ops Q (o::rest) a w:=by
 obtain⟨i0,hi,hz0,hz1,hz2⟩:=info_parts infoR
 refine wpList_append_own_at w hgd _ _ _ ho base 49 i0 _ 30 344 Tryz.underlying30 hi hz0 hz1 hz2 rfl (by decide) v us.length (us.map Rn.cells).flatten hs hown ⟨g,k,none⟩ ts.length c (ts.map Rn.cells).flatten hx (rns_len ts) ?_ ?_ ?_ ?_ hbase ?_
 ·intro j u hu
  rw[Addr.add_mid]
  have hj:j<ts.length*30:=by have:=(zG.1 hu).1;rw[rns_len]at this;exact this
  have e1:j=j/30*30+j%30:=by omega
  have hq:j/30<ts.length:=by omega
  rw[e1,rns_at ts (j/30) hq (j%30) (Nat.mod_lt _ (by decide))]at hu
  have:=hc (j/30) ts[j/30] (zF hq) (j%30) u hu
  rw[show k+j/30*30+j%30=k+j by omega]at this
  exact this
 ·intro u hu
  obtain⟨l,hl1,hl2⟩:=List.mem_flatten.1 hu
  obtain⟨t,_,rfl⟩:=List.mem_map.1 hl1
  exact rn_one t u hl2
 ·simp only[maxLen];omega
 ·omega
 ·intro v' w' h2 h3 _ h5
  refine h v' w' ?_ h3 h5
  unfold OwnR
  simpa using h2
def KidsR (w:World) (S:Nat→Prop) (d:Nat) (us:List Rn):Prop :=∀u∈us,u.kids w S d
theorem KidsR.nil (w:World) (S:Nat→Prop) (d:Nat):KidsR w S d []:=fun u h=>by cases h
theorem KidsR.keep {w w':World}{S:Nat→Prop}{d:Nat}{us:List Rn}(h:KidsR w S d us) (hw :∀b,S b →∀o,w'.cell? ⟨b,o,none⟩=w.cell? ⟨b,o,none⟩):KidsR w' S d us:=fun u hu=>(h u hu).keep hw
theorem KidsR.more {w:World}{S S':Nat→Prop}{d:Nat}{us:List Rn}(h:KidsR w S d us) (hS :∀b,S b→S' b):KidsR w S' d us:=fun u hu=>(h u hu).more hS
theorem KidsR.deep {w:World}{S:Nat→Prop}{d d':Nat}{us:List Rn}(h:KidsR w S d us) (hd:d≤d'):KidsR w S d' us:=fun u hu=>(h u hu).deep hd
theorem KidsR.app {w:World}{S:Nat→Prop}{d:Nat}{us ts:List Rn}(h:KidsR w S d us) (ht:KidsR w S d ts):KidsR w S d (us++ts):=fun y hy=>by
 rcases zK.1 hy with hy|hy
 ·exact h y hy
 ·exact ht y hy
theorem RlL.row {w:World}{S:Nat→Prop}{d g k:Nat}{us:List Rn}(hg:S g) (hk:KidsR w S d us) (hc :∀(j:Nat) (u:Rn),us[j]?=some u→w.rangeAt g (k+j*30) u.cells):RlL w S d (some ⟨g,k,none⟩) (us.map (·.r)):=fun _=>by
 refine⟨g,k,rfl,hg,fun j r hj=>?_⟩
 rw[List.getElem?_map]at hj
 cases hu:us[j]? with
 | none=>rw[hu]at hj;cases hj
 | some u=>
  rw[hu]at hj
  simp only[Option.map_some,zR]at hj
  subst hj
  exact⟨u,rfl,hk u (List.mem_of_getElem? hu),hc j u hu⟩
theorem OwnR.list {w:World}{base:Nat}{A:Option Addr}{n c:Nat}{us:List Rn}{S:Nat→Prop}{d:Nat}(h:OwnR w base (.slice A n c) us) (hk:KidsR w S d us) (hS :∀b,base≤b→b<w.heap.size→S b):RlL w S d A (us.map (·.r))∧n=us.length:=by
 obtain⟨A',c',e,hf⟩:=h.form
 simp only[Value.slice.injEq]at e
 obtain⟨rfl,rfl,rfl⟩:=e
 refine⟨fun hne=>?_,rfl⟩
 have hpos:0<us.length:=by
  cases us with
  | nil=>simp at hne
  | cons u us=>simp
 obtain⟨b,rfl,hb1,hb2,_,hcell⟩:=hf hpos
 refine RlL.row (k:=0) (hS b hb1 hb2) hk (fun j u hu=>?_) hne
 rw[Nat.zero_add]
 exact hcell j u hu
theorem RlL.rns {w:World}{S:Nat→Prop}{d b o:Nat}{l:List Rl}(h:RlL w S d (some ⟨b,o,none⟩) l) :∃us:List Rn,us.map (·.r)=l∧KidsR w S d us ∧∀(j:Nat) (u:Rn),us[j]?=some u→w.rangeAt b (o+j*30) u.cells:=by
 have key :∀n,n≤l.length →∃us:List Rn,us.map (·.r)=l.take n∧KidsR w S d us ∧∀(j:Nat) (u:Rn),us[j]?=some u→w.rangeAt b (o+j*30) u.cells:=by
  intro n
  induction n with
  | zero=>exact fun _=>⟨[],by simp,KidsR.nil _ _ _,fun j u hu=>by simp at hu⟩
  | succ n ih=>
   intro hn
   obtain⟨us,h1,h2,h3⟩:=ih (by omega)
   obtain⟨b',o',u,e,hb,hu,hk,hc⟩:=h.at_ (j:=n) (by omega)
   simp only[zR,Addr.mk.injEq]at e
   obtain⟨rfl,rfl,_⟩:=e
   have hlen:us.length=n:=by have:=congrArg List.length h1;simp at this;omega
   refine⟨us++[u],?_,h2.app (fun y hy=>by rw[zP.1 hy];exact hk),fun j t ht=>?_⟩
   ·rw[List.map_append,h1,zQ (by omega)];simp[hu]
   ·rw[List.getElem?_append]at ht
    split at ht
    ·exact h3 j t ht
    ·rename_i hj
     have:j=n:=by have:=(zG.1 ht).1;simp at this;omega
     subst this
     rw[hlen,Nat.sub_self]at ht
     simp only[List.getElem?_cons_zero,zR]at ht
     rw[←ht];exact hc
 obtain⟨us,h1,h2⟩:=key l.length (Nat.le_refl _)
 exact⟨us,by rw[h1,List.take_length],h2⟩
theorem range_keep {w w':World}{b o:Nat}{cs:List Value}(h:w.rangeAt b o cs) (hw :∀o,w'.cell? ⟨b,o,none⟩=w.cell? ⟨b,o,none⟩):w'.rangeAt b o cs:=fun i v hi=>(hw _).trans (h i v hi)
theorem range_ext {w w':World}{b o:Nat}{cs:List Value}(h:w.rangeAt b o cs) (hb:b<w.heap.size) (hE:Ext w w'):w'.rangeAt b o cs:=range_keep h fun o=>hE.old (p:=⟨b,o,none⟩) hb
theorem load_rule {w:World}{b o:Nat}{u:Rn}(h:w.rangeAt b o u.cells):(Instr.loadAt 49 (.pointer (some ⟨b,o,none⟩))).run Tryz.prog w=.ok (.agg u.cells.toArray) w:=by
 obtain⟨i0,hi,_,hz1,_⟩:=info_parts infoR
 exact run_loadAt_mid w b o 49 u.cells _ h Tryz.underlying49 rfl (by rw[hi];simp[hz1];rfl)
end Go.Proofs.YtmiencglfhpmeaaGreatDoor
namespace Go.Proofs.YtmiencglfhpmeaaGreatDoor
open Go.RowKit Hach Num
def Rl.text (r:Rl):List UInt8:=wrText r.nm++(wrInt r.pr++(wrText (txT r.e1)++(wrText (txT r.e2)++(wrText (txT r.e3)++wrText (txT r.e4)))))
def textsL (l:List Rl):List UInt8:=(l.map Rl.text).flatten
def txL (l:List Rl):List UInt8×Int:=if chkL l≠0 then([],chkL l) else(textsL l,0)
def Rl.same (a b:Rl):Bool:=decide (a.nm=b.nm)&&(decide (a.pr=b.pr)&&(a.e1.same b.e1&&(a.e2.same b.e2&&(a.e3.same b.e3&&a.e4.same b.e4))))
theorem Rl.same_iff (a b:Rl):a.same b=true↔a=b:=by
 cases a;cases b
 simp[Rl.same,Ex.same_iff]
def rdE (l:List UInt8):Option (Ex×List UInt8):=match rdText l with
 | none=>none
 | some (s,r)=>if (parseE s).2=0∧chkE (parseE s).1=0∧txT (parseE s).1=s then some ((parseE s).1,r) else none
def rdR (l:List UInt8):Option (Rl×List UInt8):=match rdText l with
 | none=>none
 | some (nm,l1)=>match rdInt l1 with
  | none=>none
  | some (pr,l2)=>match rdE l2 with
   | none=>none
   | some (e1,l3)=>match rdE l3 with
    | none=>none
    | some (e2,l4)=>match rdE l4 with
     | none=>none
     | some (e3,l5)=>match rdE l5 with
      | none=>none
      | some (e4,l6)=>some (⟨nm,pr,e1,e2,e3,e4⟩,l6)
inductive Got where
 | bad (n:Nat)
 | all (l:List Rl)
def rdRs:Nat→List Rl→List UInt8→Got
 | 0,acc,_=>.all acc
 | _+1,acc,[]=>.all acc
 | k+1,acc,c::l=>match rdR (c::l) with
  | none=>.bad (acc.length+1)
  | some (x,r)=>rdRs k (acc++[x]) r
def parseG:Got→List Rl×Int×Int
 | .bad n=>([],(n:Int),4)
 | .all l=>if chkL l≠0 then([],0,chkL l) else(l,0,0)
def parseL (s:List UInt8):List Rl×Int×Int:=if 262144<s.length then([],0,2) else parseG (rdRs s.length [] s)
end Go.Proofs.YtmiencglfhpmeaaGreatDoor
namespace Go.Proofs.YtmiencglfhpmeaaGreatDoor
open Go.RowKit Hach Num
theorem rdText_back {s:List UInt8}(h:s.length<4294967296) (r:List UInt8):rdText (wrText s++r)=some (s,r):=twinText.back s r ⟨by omega,by omega⟩
theorem rdE_back {e:Ex}{t:Int}(h:tyE e t=0) (r:List UInt8):rdE (wrText (txT e)++r)=some (e,r):=by
 obtain⟨h1,_⟩:=tyE_zero h
 obtain⟨hr,hz⟩:=tyE_rt h
 have ht:txT e=e.text:=by unfold txT;rw[if_pos h1]
 have hlen:=text_len26 hr
 have hp:parseE e.text=(e,0):=parse_ok hr hz (by omega) (read_text hr)
 unfold rdE
 rw[ht,rdText_back (by omega)]
 simp only[hp]
 rw[if_pos ⟨trivial,h1,ht⟩]
theorem rlnm_len {s:List UInt8}(h:nmOk s=true):1≤s.length∧s.length≤24:=by
 unfold nmOk at h
 simp only[zS,Bool.not_eq_true',Bool.or_eq_false_iff,decide_eq_false_iff_not]at h
 omega
theorem rdR_back {b:List Rl}{r:Rl}(h:r.err b=0) (q:List UInt8):rdR (r.text++q)=some (r,q):=by
 obtain⟨h1,_,h3,h4,h5,h6,h7⟩:=err_zero h
 have hn:=rlnm_len h1
 unfold rdR Rl.text
 simp only[zA]
 rw[rdText_back (by omega)]
 simp only
 rw[show rdInt (wrInt r.pr++_)=some (r.pr,_) from twinInt.back r.pr _ ⟨by omega,by omega⟩]
 simp only
 rw[rdE_back h4]
 simp only
 rw[rdE_back h5]
 simp only
 rw[rdE_back h6]
 simp only
 rw[rdE_back h7]
theorem textsL_cons (r:Rl) (l:List Rl):textsL (r::l)=r.text++textsL l:=rfl
theorem textsL_append (a b:List Rl):textsL (a++b)=textsL a++textsL b:=by simp[textsL]
theorem wrText_pos (s:List UInt8):wrText s≠[]:=twinText.ne s
theorem rl_text_ne (r:Rl):r.text≠[]:=by
 unfold Rl.text
 intro h
 exact wrText_pos r.nm (zB.1 h).1
theorem rdRs_back :∀(l acc:List Rl) (k:Nat),(∀r∈l,∃b,r.err b=0)→(textsL l).length≤k→rdRs k acc (textsL l)=.all (acc++l)
 | [],acc,k,_,_=>by
  rw[show textsL []=[] from rfl,List.append_nil]
  cases k<;>rfl
 | r::l,acc,k,h,hk=>by
  rw[textsL_cons]at hk ⊢
  have hne:=rl_text_ne r
  obtain⟨b,hb⟩:=h r zN
  have hR:=rdR_back hb (textsL l)
  have hpos:0<r.text.length:=List.length_pos_iff.2 hne
  rw[zH]at hk
  cases k with
  | zero=>omega
  | succ k=>
   cases hc:r.text++textsL l with
   | nil=>exact absurd (zB.1 hc).1 hne
   | cons c q=>
    rw[hc]at hR
    rw[rdRs,hR]
    simp only
    rw[rdRs_back l (acc++[r]) k (fun x hx=>h x (zM _ hx)) (by omega)]
    simp
theorem itoa_len {v:Int}(h:InI v):(Lib.itoa v).length≤21:=num_length (num_itoa h)
theorem wrText_len {s:List UInt8}(h:s.length<4294967296):(wrText s).length≤22+s.length:=by
 have:=itoa_len (v:=(s.length:Int)) ⟨by omega,by omega⟩
 unfold wrText
 simp only[zH,zI]
 omega
theorem txT_len {e:Ex}{t:Int}(h:tyE e t=0):(txT e).length≤1560:=by
 obtain⟨h1,_⟩:=tyE_zero h
 obtain⟨hr,hz⟩:=tyE_rt h
 have ht:txT e=e.text:=by unfold txT;rw[if_pos h1]
 have:=text_len26 hr
 rw[ht];omega
theorem rl_text_len {b:List Rl}{r:Rl}(h:r.err b=0):r.text.length≤6396:=by
 obtain⟨h1,_,h3,h4,h5,h6,h7⟩:=err_zero h
 have hn:=rlnm_len h1
 have l4:=txT_len h4
 have l5:=txT_len h5
 have l6:=txT_len h6
 have l7:=txT_len h7
 have t0:=wrText_len (s:=r.nm) (by omega)
 have t1:=itoa_len (v:=r.pr) ⟨by omega,by omega⟩
 have t4:=wrText_len (s:=txT r.e1) (by omega)
 have t5:=wrText_len (s:=txT r.e2) (by omega)
 have t6:=wrText_len (s:=txT r.e3) (by omega)
 have t7:=wrText_len (s:=txT r.e4) (by omega)
 have tI:(wrInt r.pr).length≤22:=by unfold wrInt;simp only[zH,List.length_singleton];omega
 unfold Rl.text
 simp only[zH]
 omega
theorem textsL_len :∀(l:List Rl),(∀r∈l,∃b,r.err b=0)→(textsL l).length≤6396*l.length
 | [],_=>by simp[textsL]
 | r::l,h=>by
  obtain⟨b,hb⟩:=h r zN
  have h1:=rl_text_len hb
  have h2:=textsL_len l fun x hx=>h x (zM _ hx)
  rw[textsL_cons,zH,zI]
  omega
theorem chk_texts {l:List Rl}(h:chkL l=0):(textsL l).length≤255840:=by
 have h1:=(chk_len h).1
 have h2:=textsL_len l fun r hr=>chk_mem h hr
 omega
theorem parse_back {l:List Rl}(h:chkL l=0):parseL (textsL l)=(l,0,0):=by
 have hl:=chk_texts h
 unfold parseL
 rw[if_neg (by omega),rdRs_back l [] _ (fun r hr=>chk_mem h hr) (Nat.le_refl _),List.nil_append]
 show(if chkL l≠0 then _ else _)=_
 rw[if_neg (by omega)]
theorem txL_of {l:List Rl}(h:chkL l=0):txL l=(textsL l,0):=by unfold txL;rw[if_neg (by omega)]
end Go.Proofs.YtmiencglfhpmeaaGreatDoor
namespace Go.Proofs.YtmiencglfhpmeaaGreatDoor
open Go.RowKit Hach Num
theorem tyE_of {e:Ex}{t:Int}(h:Rt e t) (hz:e.size≤60):tyE e t=0:=by
 obtain⟨h1,h2⟩:=chk_of h hz
 unfold tyE
 rw[if_neg (by omega),if_pos h1]
structure Mk1 (r:Rl):Prop where
 pr:0≤r.pr∧r.pr≤1000
 e1:tyE r.e1 2=0
 e2:tyE r.e2 1=0
 e3:tyE r.e3 1=0
 e4:tyE r.e4 1=0
theorem Mk1.err {r:Rl}(h:Mk1 r) (hn:nmOk r.nm=true) {b:List Rl}(hb :∀x∈b,x.nm≠r.nm):r.err b=0:=by
 have h2 :¬b.any (fun x=>decide (x.nm=r.nm))=true:=by
  rw[List.any_eq_true]
  rintro⟨x,hx,he⟩
  exact hb x hx (by simpa using he)
 have:=h.pr
 unfold Rl.err
 rw[if_neg (by simp[hn]),if_neg h2,if_neg (by omega),if_neg (by simp[h.e1]),if_neg (by simp[h.e2]),if_neg (by simp[h.e3]),h.e4]
def nmsL:List (List UInt8):=[[97,108,108],[114,49],[110,105,103,104,116],[98,105,103,32,119,97,121,115]]
def yesE:Ex:=.mk 1 0 2 0 true [] []
theorem yes_rt:Rt yesE 2:=Rt.con ⟨2,0,true,[]⟩ (by decide)
theorem yes_holds (x:En) {r:Rl}(h:r.e1=yesE):holds x r=true:=by
 unfold holds
 rw[h,evV_of yes_rt (by decide) x]
 rfl
structure Mk (l:List Rl):Prop where
 pos:0<l.length
 le:l.length≤4
 nms:l.map (·.nm)=nmsL.take l.length
 one :∀r∈l,Mk1 r
 yes :∀r,l[0]?=some r→r.e1=yesE∧r.pr=0
theorem Mk.nm_in {l:List Rl}(h:Mk l) {r:Rl}(hr:r∈l):r.nm∈nmsL:=by
 have:r.nm∈l.map (·.nm):=List.mem_map_of_mem hr
 rw[h.nms]at this
 exact List.mem_of_mem_take this
theorem nms_ok :∀s∈nmsL,nmOk s=true:=by decide
theorem Mk.head {l:List Rl}(h:Mk l) :∃r u,l=r::u∧r.nm=[97,108,108]∧r.e1=yesE∧r.pr=0:=by
 have hp:=h.pos
 have hn:=h.nms
 have hy:=h.yes
 cases l with
 | nil=>simp at hp
 | cons r u=>
  refine⟨r,u,rfl,?_,(hy r rfl).1,(hy r rfl).2⟩
  rw[zJ,zI,nmsL,List.take_succ_cons]at hn
  exact(List.cons.inj hn).1
theorem Mk.most {l:List Rl}(h:Mk l) (x:En) :∃m,Most x l m∧cnt x l=l.filter (pick x m):=by
 obtain⟨r,u,rfl,_,hy,_⟩:=h.head
 rcases cnt_ok x (r::u) with⟨_,h2⟩|h
 ·have:=yes_holds x hy
  rw[h2 r zN]at this
  cases this
 ·exact h
end Go.Proofs.YtmiencglfhpmeaaGreatDoor
