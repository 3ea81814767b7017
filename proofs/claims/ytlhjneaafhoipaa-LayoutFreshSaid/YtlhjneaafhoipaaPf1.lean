/- Packed: EngA, EngB, EngC, EngU, EngD, Mem, EngE, EngF, Ty, La, Lb, Lc, Ld, Le, Lf, Lg. No conditions. -/
import Derived.WalkKit
import Derived.KernelRfl
import Derived.Deep.LoopGhost
import Derived.ProofKit
import Derived.ChangeKeysEq
import Derived.Laws.StructEq
import Derived.OrdersHeld
import Derived.Test.YtlhjneaafhoipaaProg
import Derived.WalkLawsBesides
import Derived.WalkSpells
import Derived.Lib.Hide
import Derived.BigQuiet
import Derived.BigRegion
import Derived.Deep.QuietTactic
import Derived.Deep.RegionWith
import Derived.RangeFuncRecord
import Derived.Maps.OwnOps
import Derived.Maps.AppendAt
namespace Go.Proofs.Ytlhjneaafhoipaa.Eng
open Go
set_option linter.unusedSimpArgs false
set_option linter.unusedVariables false
inductive Ch where
 | blk (b:Nat) (o:Obj) (rw:Bool)
 | inv (F:Nat→Prop) (Φ:World→Prop) (rw:Bool)
def Ch.F:Ch→Nat→Prop
 | .blk b _ _=>fun k=>k=b
 | .inv F _ _=>F
def Ch.rw:Ch→Bool
 | .blk _ _ r=>r
 | .inv _ _ r=>r
def Ch.holds:Ch→World→Prop
 | .blk b o _=>fun w=>w.heap[b]? = some o
 | .inv _ Φ _=>Φ
def Ch.stable(c:Ch):Prop:=∀ w w':World,(∀ b,c.F b→w'.heap[b]? = w.heap[b]?)→c.holds w→c.holds w'
theorem Ch.Qp(b:Nat)(o:Obj)(r:Bool):(Ch.blk b o r).stable:=fun w w' h hw=>(h b rfl).trans hw
abbrev Key:=(Nat→Prop)×Bool
def Ch.key(c:Ch):Key:=(c.F,c.rw)
def Key.apart(c d:Key):Prop:=(c.2=true∨d.2=true)→∀ b,c.1 b→¬ d.1 b
structure AW where
 w0:World
 n:Nat
 σ:List Ch
structure Sat(A:AW)(w:World):Prop where
 os:w.os=A.w0.os
 tape:w.tape=A.w0.tape
 output:w.output=A.w0.output
 size:w.heap.size=A.n
 all:∀ c∈A.σ,c.holds w
 bnd:∀ c∈A.σ,∀ b,c.F b→b<A.n
 Oh:∀ c∈A.σ,c.stable
 Om:(A.σ.map Ch.key).Pairwise Key.apart
theorem Sat.at{A:AW}{w:World}(h:Sat A w){i:Nat}{c:Ch}(hc:A.σ[i]? = some c):c.holds w:=h.all _ (List.mem_of_getElem? hc)
theorem Sat.drew{A:AW}{w:World}(h:Sat A w):Sat A w.drew := 
 ⟨h.os,h.tape,h.output,h.size,fun c hc=>h.Oh c hc w w.drew (fun _ _=>rfl) (h.all c hc),h.bnd,h.Oh,h.Om⟩
theorem NE{l:List Key}(h:l.Pairwise Key.apart){i j:Nat}{c d:Key}(hi:l[i]? = some c)(hj:l[j]? = some d)(hij:i≠j)(hr:c.2=true):∀ b,c.1 b→¬ d.1 b:=by
 obtain⟨hi',rfl⟩:=List.getElem?_eq_some_iff.1 hi
 obtain⟨hj',rfl⟩:=List.getElem?_eq_some_iff.1 hj
 rcases Nat.lt_or_gt_of_ne hij with hlt | hlt
 ·exact List.pairwise_iff_getElem.1 h i j hi' hj' hlt (.inl hr)
 intro b hb hd
 exact List.pairwise_iff_getElem.1 h j i hj' hi' hlt (.inr hr) b hd hb
theorem Sat.put{A:AW}{w w':World}(h:Sat A w){i:Nat}{c c':Ch}(hc:A.σ[i]? = some c)(hrw:c.rw=true)(hk:c'.key=c.key)(hst:c'.stable)
   (hos:w'.os=w.os) (htp:w'.tape=w.tape) (hout:w'.output=w.output) (hsz:w'.heap.size=w.heap.size)
   (hb:∀ b,¬ c.F b→w'.heap[b]? = w.heap[b]?) (hh:c'.holds w'):Sat { A with σ:=A.σ.set i c' } w':=by
 have hF:c'.F=c.F:=congrArg Prod.fst hk
 obtain⟨hi,hci⟩:=List.getElem?_eq_some_iff.1 hc
 have hmap:(A.σ.set i c').map Ch.key=A.σ.map Ch.key:=by
   rw[List.map_set,hk]
   apply List.ext_getElem?
   intro j
   rw[List.getElem?_set]
   split
   · rename_i hij;subst hij;simp[hc,hi,hci]
   · rfl
 refine⟨hos.trans h.os,htp.trans h.tape,hout.trans h.output,hsz.trans h.size, ?_, ?_, ?_, ?_⟩
 · intro d hd
   obtain⟨j,hj⟩:=List.getElem?_of_mem hd
   by_cases hij:i=j
   · subst hij;rw[List.getElem?_set_self hi]at hj;cases hj;exact hh
   · rw[List.getElem?_set_ne hij]at hj
     refine h.Oh d (List.mem_of_getElem? hj) w w' (fun b hbd=>hb b (fun hcb => ?_)) (h.at hj)
     exact NE h.Om (i:=i) (j:=j) (by rw[List.getElem?_map,hc];rfl) (by rw[List.getElem?_map,hj];rfl) hij hrw b hcb hbd
 · intro d hd b hbd
   rcases List.mem_or_eq_of_mem_set hd with hd | rfl
   · exact h.bnd d hd b hbd
   · exact h.bnd c (List.mem_of_getElem? hc) b (by rw[←hF];exact hbd)
 · intro d hd
   rcases List.mem_or_eq_of_mem_set hd with hd | rfl
   · exact h.Oh d hd
   · exact hst
 · rw[hmap];exact h.Om
theorem Sat.new{A:AW}{w:World}(h:Sat A w)(o:Obj):Sat { A with n:=A.n+1,σ:=A.σ++[.blk A.n o true] } { w with heap:=w.heap.push o }:=by
 have hget:∀ b,b<A.n→(w.heap.push o)[b]? = w.heap[b]? := fun b hb=>by
  rw[Array.getElem?_push,if_neg (by rw[h.size];omega)]
 refine⟨h.os,h.tape,h.output,by simp[h.size], ?_, ?_, ?_, ?_⟩
 ·intro c hc
  rcases List.mem_append.1 hc with hc | hc
  ·exact h.Oh c hc w _ (fun b hb=>hget b (h.bnd c hc b hb)) (h.all c hc)
  simp only[List.mem_singleton]at hc;subst hc
  show(w.heap.push o)[A.n]? = some o
  rw[Array.getElem?_push,if_pos h.size.symm]
 ·intro c hc b hb
  show b<A.n+1
  rcases List.mem_append.1 hc with hc | hc
  ·have:=h.bnd c hc b hb;omega
  simp only[List.mem_singleton]at hc;subst hc;cases hb;omega
 ·intro c hc
  rcases List.mem_append.1 hc with hc | hc
  ·exact h.Oh c hc
  simp only[List.mem_singleton]at hc;subst hc;exact Ch.Qp _ _ _
 show((A.σ++[Ch.blk A.n o true]).map Ch.key).Pairwise Key.apart
 rw[List.map_append,List.pairwise_append]
 refine⟨h.Om,by simp, ?_⟩
 intro k hk k' hk' _ b hb hb'
 simp only[List.map_cons,List.map_nil,List.mem_singleton]at hk'
 subst hk'
 obtain⟨c,hc,rfl⟩:=List.mem_map.1 hk
 have h1:=h.bnd c hc b hb
 have h2:b=A.n:=hb'
 omega
inductive LC where
 | at (i:Nat)
 | atv (i:Nat) (v:Value)
 | via (i:Nat) (v:Value)
 | shp (i:Nat) (t n:Nat)
def Gu:List Prop→Prop
 | []=>True
 | p :: l=>p∧Gu l
theorem CZ{l m:List Prop}:Gu (l++m)↔Gu l∧Gu m:=by
 induction l with
 | nil=>simp[Gu]
 | cons p l ih=>simp[Gu,ih,and_assoc]
def scalar:Value→Bool
 | .agg _=>false
 | .tuple _=>false
 | _=>true
abbrev LH(α:Type):=Option (List Prop×List LC×α×AW)
def LH.and{α:Type}(ps:List Prop)(r:LH α):LH α:=match r with
 | some (qs,x)=>some (ps++qs,x)
 | none=>none
theorem LH.EQ{α:Type}{ps vs:List Prop}{r:LH α}{x:List LC×α×AW}(h:LH.and ps r=some (vs,x)):∃ qs,r=some (qs,x)∧vs=ps++qs:=by
 unfold LH.and at h
 split at h
 ·rename_i qs y;simp at h;exact⟨qs,by rw[h.2],h.1.symm⟩
 cases h
def CW(P:Program)(ro:Bool){α:Type}:Sem α→List LC→AW→LH α
 | .pure a,cs,A=>some ([],cs,a,A)
 | .load _ a k,.at i :: cs,A=>match A.σ[i]? with
  | some (.blk b (.cells c _ _) _)=>match a.spot,c[a.off]? with
   | none,some v=>(CW P ro (k v) cs A).and [a.block=b]
   | _,_=>none
  | _=>none
 | .load _ a k,.atv i v :: cs,A=>match A.σ[i]? with
  | some (.blk b (.cells c _ _) _)=>(CW P ro (k v) cs A).and [a.spot=none,a.block=b,c[a.off]? = some v]
  | _=>none
 | .load _ a k,.via i v :: cs,A=>match A.σ[i]? with
  | some c=>(CW P ro (k v) cs A).and [∀ w,c.holds w→w.cell? a=some v]
  | _=>none
 | .load _ _ _,_,_=>none
 | .store _ a v k,.at i :: cs,A=>match A.σ[i]? with
  | some (.blk b (.cells c t (0,0)) true)=>match ro,scalar v,c[a.off]?,a.spot with
   | false,true,some _,none=>(CW P ro k cs { A with σ:=A.σ.set i (.blk b (.cells (c.setIfInBounds a.off v) t (0,0)) true) }).and [a.block=b]
   | _,_,_,_=>none
  | _=>none
 | .store _ a v k,.atv i _ :: cs,A=>match A.σ[i]? with
  | some (.blk b (.cells c t (0,0)) true)=>match ro,scalar v with
   | false,true=>(CW P ro k cs { A with σ:=A.σ.set i (.blk b (.cells (c.setIfInBounds a.off v) t (0,0)) true) }).and [a.spot=none,a.block=b,a.off<c.size]
   | _,_=>none
  | _=>none
 | .store _ _ _ _,_,_=>none
 | .new o k,cs,A=>match ro with
  | false=>CW P ro (k A.n) cs { A with n:=A.n+1,σ:=A.σ++[.blk A.n o true] }
  | true=>none
 | .shape r k,.at i :: cs,A=>match A.σ[i]? with
  | some (.blk b (.cells c t _) _)=>(CW P ro (k (some (t,c.size))) cs A).and [r=b]
  | some (.blk b (.map _ _) _)=>(CW P ro (k none) cs A).and [r=b]
  | _=>none
 | .shape r k,.shp i t n :: cs,A=>match A.σ[i]? with
  | some c=>(CW P ro (k (some (t,n))) cs A).and [∀ w,c.holds w→w.shape? r=some (t,n)]
  | _=>none
 | .shape _ _,_,_=>none
 | .freeze _ _ _,_,_=>none
 | .frozen a k,.at i :: cs,A=>match A.σ[i]? with
  | some (.blk b (.cells _ _ (0,0)) _)=>(CW P ro (k false) cs A).and [a.block=b]
  | _=>none
 | .frozen _ _,_,_=>none
 | .getObj r k,.at i :: cs,A=>match A.σ[i]? with
  | some (.blk b (.map es c) _)=>(CW P ro (k (.map es c)) cs A).and [r=b]
  | _=>none
 | .getObj _ _,_,_=>none
 | .setObj r o k,.at i :: cs,A=>match A.σ[i]? with
  | some (.blk b (.map _ _) true)=>match ro with
   | false=>(CW P ro k cs { A with σ:=A.σ.set i (.blk b o true) }).and [r=b]
   | true=>none
  | _=>none
 | .setObj _ _ _,_,_=>none
 | .choose _ _,_,_=>none
 | .sys _ _,_,_=>none
 | .program k,cs,A=>CW P ro (k P) cs A
 | .mark _ k,cs,A=>CW P ro k cs A
 | .halt _,_,_=>none
theorem Qh(w:World)(a:Addr)(v:Value)(b:Nat)(h:¬ b=a.block):(w.setCell a v).heap[b]? = w.heap[b]? := by
 simp only[World.setCell,Array.getElem?_modify]
 rw[if_neg (fun e=>h e.symm)]
theorem OY(w:World)(a:Addr)(v:Value)(c:Array Value)(t:TypeId)(f:Nat×Nat)(hs:a.spot=none)(h:w.heap[a.block]? = some (.cells c t f)) :
   (w.setCell a v).heap[a.block]? = some (.cells (c.setIfInBounds a.off v) t f):=by
 simp only[World.setCell,Array.getElem?_modify,if_true,h,Option.map_some,hs,Option.isSome_none,Bool.false_eq_true,if_false]
theorem run_store{P:Program}{α:Type}{m:_root_.Go.Mode}{a:Addr}{v:Value}{k:Sem α}{w:World}(hs:scalar v=true){x:Value}(hc:w.cell? a=some x)(hf:w.frozen? a=false) :
   (Sem.store m a v k).run P w=k.run P (w.setCell a v):=by
 cases v <;> first | (simp[scalar]at hs;done) | simp[Sem.run,hc,hf]
theorem VW{P:Program}{ro:Bool}{α:Type}(s:Sem α):∀ (cs:List LC) (A:AW) (vs:List Prop) (cs':List LC) (x:α) (A':AW),CW P ro s cs A=some (vs,cs',x,A')→Gu vs→∀ w,Sat A w→∃ w',s.run P w = .ok x w'∧Sat A' w'∧A'.w0=A.w0:=by
 induction s with
 | pure a =>
  intro cs A vs cs' x A' h hv w hw
  simp only[CW,Option.some.injEq,Prod.mk.injEq]at h
  obtain⟨-, -,rfl,rfl⟩:=h
  exact⟨w,rfl,hw,rfl⟩
 | load m a k ih =>
  intro cs A vs cs' x A' h hv w hw
  cases cs with
  | nil=>simp[CW]at h
  | cons c cs =>
   cases c with
   | «at» i =>
    simp only[CW]at h
    split at h
    ·rename_i b c t f r hi
     split at h
     ·rename_i v h1 hc
      obtain⟨qs,h',rfl⟩:=LH.EQ h
      rw[CZ]at hv
      obtain⟨⟨h2, -⟩,hv⟩:=hv
      have hb:w.heap[a.block]? = some (.cells c t f):=h2 ▸ hw.at hi
      have hcell:w.cell? a=some v:=by simp[World.cell?,hb,h1,hc]
      obtain⟨w',hr,hs⟩:=ih v cs A qs cs' x A' h' hv w hw
      exact⟨w',by simp[Sem.run,hcell,hr],hs⟩
     cases h
    cases h
   | atv i v =>
    simp only[CW]at h
    split at h
    ·rename_i b c t f r hi
     obtain⟨qs,h',rfl⟩:=LH.EQ h
     rw[CZ]at hv
     obtain⟨⟨h1,h2,h3, -⟩,hv⟩:=hv
     have hb:w.heap[a.block]? = some (.cells c t f):=h2 ▸ hw.at hi
     have hcell:w.cell? a=some v:=by simp[World.cell?,hb,h1,h3]
     obtain⟨w',hr,hs⟩:=ih v cs A qs cs' x A' h' hv w hw
     exact⟨w',by simp[Sem.run,hcell,hr],hs⟩
    cases h
   | via i v =>
    simp only[CW]at h
    split at h
    ·rename_i c hi
     obtain⟨qs,h',rfl⟩:=LH.EQ h
     rw[CZ]at hv
     obtain⟨⟨h1, -⟩,hv⟩:=hv
     have hcell:w.cell? a=some v:=h1 w (hw.at hi)
     obtain⟨w',hr,hs⟩:=ih v cs A qs cs' x A' h' hv w hw
     exact⟨w',by simp[Sem.run,hcell,hr],hs⟩
    cases h
   | shp i t n=>simp[CW]at h
 | store m a v k ih =>
  intro cs A vs cs' x A' h hv w hw
  cases cs with
  | nil=>simp[CW]at h
  | cons c cs =>
   cases c with
   | «at» i =>
    simp only[CW]at h
    split at h
    ·rename_i b c t hi
     split at h
     ·rename_i y hsc hc h1
      obtain⟨qs,h',rfl⟩:=LH.EQ h
      rw[CZ]at hv
      obtain⟨⟨h2, -⟩,hv⟩:=hv
      have hb:w.heap[a.block]? = some (.cells c t (0,0)):=h2 ▸ hw.at hi
      have hcell:w.cell? a=some y:=by simp[World.cell?,hb,h1,hc]
      have hfz:w.frozen? a=false:=by simp[World.frozen?,hb]
      have hs':=hw.put (w':=w.setCell a v) hi rfl (c':= .blk b (.cells (c.setIfInBounds a.off v) t (0,0)) true) rfl (Ch.Qp _ _ _) rfl rfl rfl (by simp[World.setCell]) (fun k hk=>Qh w a v k (fun e=>hk (e.trans h2))) (by subst h2;exact OY w a v c t _ h1 hb)
      obtain⟨w',hr,hs⟩:=ih cs _ qs cs' x A' h' hv _ hs'
      exact⟨w',by rw[run_store hsc hcell hfz];exact hr,hs⟩
     cases h
    cases h
   | atv i _ =>
    simp only[CW]at h
    split at h
    ·rename_i b c t hi
     split at h
     ·rename_i _ hsc
      obtain⟨qs,h',rfl⟩:=LH.EQ h
      rw[CZ]at hv
      obtain⟨⟨h1,h2,h3, -⟩,hv⟩:=hv
      have hb:w.heap[a.block]? = some (.cells c t (0,0)):=h2 ▸ hw.at hi
      have hcell:w.cell? a=some c[a.off]:=by simp[World.cell?,hb,h1,h3]
      have hfz:w.frozen? a=false:=by simp[World.frozen?,hb]
      have hs':=hw.put (w':=w.setCell a v) hi rfl (c':= .blk b (.cells (c.setIfInBounds a.off v) t (0,0)) true) rfl (Ch.Qp _ _ _) rfl rfl rfl (by simp[World.setCell]) (fun k hk=>Qh w a v k (fun e=>hk (e.trans h2))) (by subst h2;exact OY w a v c t _ h1 hb)
      obtain⟨w',hr,hs⟩:=ih cs _ qs cs' x A' h' hv _ hs'
      exact⟨w',by rw[run_store hsc hcell hfz];exact hr,hs⟩
     cases h
    cases h
   | via i v=>simp[CW]at h
   | shp i t n=>simp[CW]at h
 | new o k ih =>
  intro cs A vs cs' x A' h hv w hw
  simp only[CW]at h
  split at h
  ·obtain⟨w',hr,hs⟩:=ih A.n cs _ vs cs' x A' h hv _ (hw.new o)
   exact⟨w',by simp only[Sem.run,hw.size];exact hr,hs⟩
  cases h
 | shape r k ih =>
  intro cs A vs cs' x A' h hv w hw
  cases cs with
  | nil=>simp[CW]at h
  | cons c cs =>
   cases c with
   | «at» i =>
    simp only[CW]at h
    split at h
    ·rename_i b c t f rw hi
     obtain⟨qs,h',rfl⟩:=LH.EQ h
     rw[CZ]at hv
     obtain⟨⟨h1, -⟩,hv⟩:=hv
     have hb:w.heap[r]? = some (.cells c t f):=h1 ▸ hw.at hi
     obtain⟨w',hr,hs⟩:=ih _ cs A qs cs' x A' h' hv w hw
     exact⟨w',by simp[Sem.run,World.shape?,hb,hr],hs⟩
    ·rename_i b es c rw hi
     obtain⟨qs,h',rfl⟩:=LH.EQ h
     rw[CZ]at hv
     obtain⟨⟨h1, -⟩,hv⟩:=hv
     have hb:w.heap[r]? = some (.map es c):=h1 ▸ hw.at hi
     obtain⟨w',hr,hs⟩:=ih _ cs A qs cs' x A' h' hv w hw
     exact⟨w',by simp[Sem.run,World.shape?,hb,hr],hs⟩
    cases h
   | atv i v=>simp[CW]at h
   | via i v=>simp[CW]at h
   | shp i t n =>
    simp only[CW]at h
    split at h
    ·rename_i c hi
     obtain⟨qs,h',rfl⟩:=LH.EQ h
     rw[CZ]at hv
     obtain⟨⟨h1, -⟩,hv⟩:=hv
     obtain⟨w',hr,hs⟩:=ih _ cs A qs cs' x A' h' hv w hw
     exact⟨w',by simp[Sem.run,h1 w (hw.at hi),hr],hs⟩
    cases h
 | freeze a n k ih=>intro cs A vs cs' x A' h;simp[CW]at h
 | frozen a k ih =>
  intro cs A vs cs' x A' h hv w hw
  cases cs with
  | nil=>simp[CW]at h
  | cons c cs =>
   cases c with
   | «at» i =>
    simp only[CW]at h
    split at h
    ·rename_i b c t rw hi
     obtain⟨qs,h',rfl⟩:=LH.EQ h
     rw[CZ]at hv
     obtain⟨⟨h1, -⟩,hv⟩:=hv
     have hb:w.heap[a.block]? = some (.cells c t (0,0)):=h1 ▸ hw.at hi
     have hfz:w.frozen? a=false:=by simp[World.frozen?,hb]
     obtain⟨w',hr,hs⟩:=ih _ cs A qs cs' x A' h' hv w hw
     exact⟨w',by simp[Sem.run,hfz,hr],hs⟩
    cases h
   | atv i v=>simp[CW]at h
   | via i v=>simp[CW]at h
   | shp i t n=>simp[CW]at h
 | getObj r k ih =>
  intro cs A vs cs' x A' h hv w hw
  cases cs with
  | nil=>simp[CW]at h
  | cons c cs =>
   cases c with
   | «at» i =>
    simp only[CW]at h
    split at h
    ·rename_i b es c rw hi
     obtain⟨qs,h',rfl⟩:=LH.EQ h
     rw[CZ]at hv
     obtain⟨⟨h1, -⟩,hv⟩:=hv
     have hb:w.heap[r]? = some (.map es c):=h1 ▸ hw.at hi
     obtain⟨w',hr,hs⟩:=ih _ cs A qs cs' x A' h' hv w hw
     exact⟨w',by simp[Sem.run,hb,hr],hs⟩
    cases h
   | atv i v=>simp[CW]at h
   | via i v=>simp[CW]at h
   | shp i t n=>simp[CW]at h
 | setObj r o k ih =>
  intro cs A vs cs' x A' h hv w hw
  cases cs with
  | nil=>simp[CW]at h
  | cons c cs =>
   cases c with
   | «at» i =>
    simp only[CW]at h
    split at h
    ·rename_i b es c hi
     split at h
     case h_2=>cases h
     obtain⟨qs,h',rfl⟩:=LH.EQ h
     rw[CZ]at hv
     obtain⟨⟨h1, -⟩,hv⟩:=hv
     have hb:w.heap[r]? = some (.map es c):=h1 ▸ hw.at hi
     have hlt:r<w.heap.size:=(Array.getElem?_eq_some_iff.1 hb).1
     have hs':=hw.put (w':={ w with heap:=w.heap.setIfInBounds r o }) hi rfl (c':= .blk b o true) rfl (Ch.Qp _ _ _) rfl rfl rfl (by simp) (fun k hk=>by
      have hne:r≠k:=fun e=>hk (show k=b from e ▸ h1)
      simp[Array.getElem?_setIfInBounds_ne hne]) (by subst h1;simp[Ch.holds,hlt])
     obtain⟨w',hr,hs⟩:=ih cs _ qs cs' x A' h' hv _ hs'
     exact⟨w',by simp[Sem.run,hb];exact hr,hs⟩
    cases h
   | atv i v=>simp[CW]at h
   | via i v=>simp[CW]at h
   | shp i t n=>simp[CW]at h
 | choose q k ih=>intro cs A vs cs' x A' h;simp[CW]at h
 | sys c k ih=>intro cs A vs cs' x A' h;simp[CW]at h
 | program k ih =>
  intro cs A vs cs' x A' h hv w hw
  simp only[CW]at h
  obtain⟨w',hr,hs⟩:=ih P cs _ vs cs' x A' h hv _ hw
  exact⟨w',by simp only[Sem.run];exact hr,hs⟩
 | mark m k ih =>
  intro cs A vs cs' x A' h hv w hw
  simp only[CW]at h
  obtain⟨w',hr,hs⟩:=ih cs _ vs cs' x A' h hv _ hw
  exact⟨w',by simp only[Sem.run];exact hr,hs⟩
 | halt h'=>intro cs A vs cs' x A' h;simp[CW]at h
theorem Pi{P:Program}{α:Type}(s:Sem α):∀ (cs:List LC) (A:AW) (vs:List Prop) (cs':List LC) (x:α) (A':AW),CW P true s cs A=some (vs,cs',x,A')→Gu vs→∀ w:World,(∀ c∈A.σ,c.holds w)→s.run P w = .ok x w∧A'=A:=by
 induction s with
 | pure a =>
  intro cs A vs cs' x A' h hv w hw
  simp only[CW,Option.some.injEq,Prod.mk.injEq]at h
  obtain⟨-, -,rfl,rfl⟩:=h
  exact⟨rfl,rfl⟩
 | load m a k ih =>
  intro cs A vs cs' x A' h hv w hw
  cases cs with
  | nil=>simp[CW]at h
  | cons c cs =>
   cases c with
   | «at» i =>
    simp only[CW]at h
    split at h
    ·rename_i b c t f r hi
     split at h
     ·rename_i v h1 hc
      obtain⟨qs,h',rfl⟩:=LH.EQ h
      rw[CZ]at hv
      obtain⟨⟨h2, -⟩,hv⟩:=hv
      have hb:w.heap[a.block]? = some (.cells c t f):=h2 ▸ hw _ (List.mem_of_getElem? hi)
      have hcell:w.cell? a=some v:=by simp[World.cell?,hb,h1,hc]
      obtain⟨hr,hs⟩:=ih v cs A qs cs' x A' h' hv w hw
      exact⟨by simp[Sem.run,hcell,hr],hs⟩
     cases h
    cases h
   | atv i v =>
    simp only[CW]at h
    split at h
    ·rename_i b c t f r hi
     obtain⟨qs,h',rfl⟩:=LH.EQ h
     rw[CZ]at hv
     obtain⟨⟨h1,h2,h3, -⟩,hv⟩:=hv
     have hb:w.heap[a.block]? = some (.cells c t f):=h2 ▸ hw _ (List.mem_of_getElem? hi)
     have hcell:w.cell? a=some v:=by simp[World.cell?,hb,h1,h3]
     obtain⟨hr,hs⟩:=ih v cs A qs cs' x A' h' hv w hw
     exact⟨by simp[Sem.run,hcell,hr],hs⟩
    cases h
   | via i v =>
    simp only[CW]at h
    split at h
    ·rename_i c hi
     obtain⟨qs,h',rfl⟩:=LH.EQ h
     rw[CZ]at hv
     obtain⟨⟨h1, -⟩,hv⟩:=hv
     have hcell:w.cell? a=some v:=h1 w (hw _ (List.mem_of_getElem? hi))
     obtain⟨hr,hs⟩:=ih v cs A qs cs' x A' h' hv w hw
     exact⟨by simp[Sem.run,hcell,hr],hs⟩
    cases h
   | shp i t n=>simp[CW]at h
 | store m a v k ih =>
  intro cs A vs cs' x A' h
  cases cs with
  | nil=>simp[CW]at h
  | cons c cs=>cases c <;> (simp only[CW]at h;repeat (split at h)) <;> simp_all
 | new o k ih=>intro cs A vs cs' x A' h;simp[CW]at h
 | shape r k ih =>
  intro cs A vs cs' x A' h hv w hw
  cases cs with
  | nil=>simp[CW]at h
  | cons c cs =>
   cases c with
   | «at» i =>
    simp only[CW]at h
    split at h
    ·rename_i b c t f rw hi
     obtain⟨qs,h',rfl⟩:=LH.EQ h
     rw[CZ]at hv
     obtain⟨⟨h1, -⟩,hv⟩:=hv
     have hb:w.heap[r]? = some (.cells c t f):=h1 ▸ hw _ (List.mem_of_getElem? hi)
     obtain⟨hr,hs⟩:=ih _ cs A qs cs' x A' h' hv w hw
     exact⟨by simp[Sem.run,World.shape?,hb,hr],hs⟩
    ·rename_i b es c rw hi
     obtain⟨qs,h',rfl⟩:=LH.EQ h
     rw[CZ]at hv
     obtain⟨⟨h1, -⟩,hv⟩:=hv
     have hb:w.heap[r]? = some (.map es c):=h1 ▸ hw _ (List.mem_of_getElem? hi)
     obtain⟨hr,hs⟩:=ih _ cs A qs cs' x A' h' hv w hw
     exact⟨by simp[Sem.run,World.shape?,hb,hr],hs⟩
    cases h
   | atv i v=>simp[CW]at h
   | via i v=>simp[CW]at h
   | shp i t n =>
    simp only[CW]at h
    split at h
    ·rename_i c hi
     obtain⟨qs,h',rfl⟩:=LH.EQ h
     rw[CZ]at hv
     obtain⟨⟨h1, -⟩,hv⟩:=hv
     obtain⟨hr,hs⟩:=ih _ cs A qs cs' x A' h' hv w hw
     exact⟨by simp[Sem.run,h1 w (hw _ (List.mem_of_getElem? hi)),hr],hs⟩
    cases h
 | freeze a n k ih=>intro cs A vs cs' x A' h;simp[CW]at h
 | frozen a k ih =>
  intro cs A vs cs' x A' h hv w hw
  cases cs with
  | nil=>simp[CW]at h
  | cons c cs =>
   cases c with
   | «at» i =>
    simp only[CW]at h
    split at h
    ·rename_i b c t rw hi
     obtain⟨qs,h',rfl⟩:=LH.EQ h
     rw[CZ]at hv
     obtain⟨⟨h1, -⟩,hv⟩:=hv
     have hb:w.heap[a.block]? = some (.cells c t (0,0)):=h1 ▸ hw _ (List.mem_of_getElem? hi)
     have hfz:w.frozen? a=false:=by simp[World.frozen?,hb]
     obtain⟨hr,hs⟩:=ih _ cs A qs cs' x A' h' hv w hw
     exact⟨by simp[Sem.run,hfz,hr],hs⟩
    cases h
   | atv i v=>simp[CW]at h
   | via i v=>simp[CW]at h
   | shp i t n=>simp[CW]at h
 | getObj r k ih =>
  intro cs A vs cs' x A' h hv w hw
  cases cs with
  | nil=>simp[CW]at h
  | cons c cs =>
   cases c with
   | «at» i =>
    simp only[CW]at h
    split at h
    ·rename_i b es c rw hi
     obtain⟨qs,h',rfl⟩:=LH.EQ h
     rw[CZ]at hv
     obtain⟨⟨h1, -⟩,hv⟩:=hv
     have hb:w.heap[r]? = some (.map es c):=h1 ▸ hw _ (List.mem_of_getElem? hi)
     obtain⟨hr,hs⟩:=ih _ cs A qs cs' x A' h' hv w hw
     exact⟨by simp[Sem.run,hb,hr],hs⟩
    cases h
   | atv i v=>simp[CW]at h
   | via i v=>simp[CW]at h
   | shp i t n=>simp[CW]at h
 | setObj r o k ih =>
  intro cs A vs cs' x A' h
  cases cs with
  | nil=>simp[CW]at h
  | cons c cs=>cases c <;> (simp only[CW]at h;repeat (split at h)) <;> simp_all
 | choose q k ih=>intro cs A vs cs' x A' h;simp[CW]at h
 | sys c k ih=>intro cs A vs cs' x A' h;simp[CW]at h
 | program k ih =>
  intro cs A vs cs' x A' h hv w hw
  simp only[CW]at h
  obtain⟨hr,hs⟩:=ih P cs _ vs cs' x A' h hv _ hw
  exact⟨by simp only[Sem.run];exact hr,hs⟩
 | mark m k ih =>
  intro cs A vs cs' x A' h hv w hw
  simp only[CW]at h
  obtain⟨hr,hs⟩:=ih cs _ vs cs' x A' h hv _ hw
  exact⟨by simp only[Sem.run];exact hr,hs⟩
 | halt h'=>intro cs A vs cs' x A' h;simp[CW]at h
abbrev Env:=List (Nat×Value)
def look:Env→Nat→Option Value
 | [],_=>none
 | (k,v) :: r,t=>bif Nat.beq k t then some v else look r t
def V8:Env→Nat→Env
 | [],_=>[]
 | (k,v) :: r,t=>bif Nat.beq k t then V8 r t else(k,v) :: V8 r t
def JG(env:Env)(d:Option Nat)(v:Value):Env:=match d with
 | none=>env
 | some t=>(t,v) :: V8 env t
def dropE(env:Env)(d:Option Nat):Env:=match d with
 | none=>env
 | some t=>V8 env t
def Lj:List Nat→Env→Env
 | [],_=>[]
 | t :: ts,env=>match look env t with
  | some v=>(t,v) :: Lj ts env
  | none=>Lj ts env
theorem XT{env:Env}{t u:Nat}{v:Value}(h:look (V8 env t) u=some v):u≠t∧look env u=some v:=by
 induction env with
 | nil=>simp[V8,look]at h
 | cons p r ih =>
  obtain⟨k,x⟩:=p
  simp only[V8]at h
  cases hk:Nat.beq k t with
  | true =>
   simp only[hk,cond_true]at h
   obtain⟨h1,h2⟩:=ih h
   have hkt:k=t:=Nat.eq_of_beq_eq_true hk
   refine⟨h1, ?_⟩
   simp only[look]
   have:Nat.beq k u=false:=by
    cases hb:Nat.beq k u with
    | false=>rfl
    | true=>exact absurd ((Nat.eq_of_beq_eq_true hb).symm.trans hkt) h1
   rw[this];exact h2
  | false =>
   simp only[hk,cond_false,look]at h
   simp only[look]
   cases hb:Nat.beq k u with
   | true =>
    rw[hb]at h
    refine⟨fun e => ?_,h⟩
    have h1:=Nat.eq_of_beq_eq_true hb
    rw[h1,e]at hk
    rw[Nat.beq_refl]at hk;cases hk
   | false=>rw[hb]at h;exact ih h
theorem JS{ts:List Nat}{env:Env}{u:Nat}{v:Value}(h:look (Lj ts env) u=some v):look env u=some v:=by
 induction ts with
 | nil=>simp[Lj,look]at h
 | cons t ts ih =>
  simp only[Lj]at h
  split at h
  ·rename_i x hx
   simp only[look]at h
   cases hb:Nat.beq t u with
   | true=>rw[hb]at h;have:=Nat.eq_of_beq_eq_true hb;subst this;simp at h;rw[hx,h]
   | false=>rw[hb]at h;exact ih h
  exact ih h
structure St(N:Nat)(env:Env)(ds:List Deferred)(A:AW)(a:Act)(w:World):Prop where
 sz:a.tmps.size=N
 df:a.defers=ds
 kn:∀ t v,look env t=some v→a.tmps.getD t undef=v
 mem:Sat A w
def known(env:Env):Operand→Bool
 | .tmp t=>(look env t).isSome
 | _=>true
def GR(env:Env):Operand→Value
 | .tmp t=>(look env t).getD undef
 | .const v=>v
 | .global g=> .pointer (some ⟨g,0,none⟩)
 | .func f=> .func (.func f) #[] #[]
theorem St.eval{N:Nat}{env:Env}{ds:List Deferred}{A:AW}{a:Act}{w:World}(h:St N env ds A a w){x:Operand}(hx:known env x=true):a.eval x=GR env x:=by
 cases x with
 | tmp t =>
  simp only[known,Option.isSome_iff_exists]at hx
  obtain⟨v,hv⟩:=hx
  simp only[Act.eval,GR,hv,Option.getD_some]
  exact h.kn t v hv
 | _=>rfl
theorem Y9(a:Array Value)(d t:Nat)(v:Value):(a.setIfInBounds d v).getD t undef=if d=t∧d<a.size then v else a.getD t undef:=by
 simp only[Array.getD_eq_getD_getElem?,Array.getElem?_setIfInBounds]
 by_cases h:d=t
 ·subst h
  by_cases h2:d<a.size
  ·simp[h2]
  simp[h2,Array.getElem?_eq_none (Nat.not_lt.1 h2)]
 simp[h]
def NZ(N:Nat):Option Nat→Bool
 | none=>true
 | some d=>Nat.blt d N
theorem St.put{N:Nat}{env:Env}{ds:List Deferred}{A A':AW}{a:Act}{w w':World}(h:St N env ds A a w)(hs:Sat A' w')(d:Option Nat)(hd:NZ N d=true)(v:Value):St N (JG env d v) ds A' (a.put d v) w':=by
 cases d with
 | none=>exact⟨h.sz,h.df,h.kn,hs⟩
 | some d =>
  have hlt:d<N:=by simpa[NZ]using hd
  refine⟨by simp[Act.put,h.sz],h.df,fun t x hx => ?_,hs⟩
  simp only[Act.put,Y9,h.sz]
  simp only[JG,look]at hx
  cases hb:Nat.beq d t with
  | true =>
   rw[hb]at hx
   simp only[cond_true,Option.some.injEq]at hx
   rw[if_pos ⟨Nat.eq_of_beq_eq_true hb,hlt⟩];exact hx
  | false =>
   rw[hb]at hx
   simp only[cond_false]at hx
   have:=XT hx
   rw[if_neg (fun e=>this.1 e.1.symm)]
   exact h.kn t x this.2
theorem St.drop{N:Nat}{env:Env}{ds:List Deferred}{A:AW}{a:Act}{w:World}(h:St N env ds A a w)(d:Option Nat)(v:Value):St N (dropE env d) ds A (a.put d v) w:=by
 cases d with
 | none=>exact h
 | some d =>
  refine⟨by simp[Act.put,h.sz],h.df,fun t x hx => ?_,h.mem⟩
  simp only[Act.put,Y9,h.sz]
  have:=XT hx
  rw[if_neg (fun e=>this.1 e.1.symm)]
  exact h.kn t x this.2
theorem St.sub{N:Nat}{env env':Env}{ds:List Deferred}{A:AW}{a:Act}{w:World}(h:St N env ds A a w)(he:∀ t v,look env' t=some v→look env t=some v):St N env' ds A a w :=
 ⟨h.sz,h.df,fun t v ht=>h.kn t v (he t v ht),h.mem⟩
def noSel:Op→Bool
 | .select _ _=>false
 | _=>true
theorem execOp_congr{ρ ρ':Operand→Value}{o:Oper}(hs:noSel o.op=true)(h:∀ x∈o.op.operands,ρ x=ρ' x):execOp ρ o=execOp ρ' o:=by
 have hcall:∀ (c:Call) (t:TypeId),(∀ x∈c.operands,ρ x=ρ' x)→resolve ρ c t=resolve ρ' c t:=by
  intro c t hc
  have hargs:c.args.map ρ=c.args.map ρ':=by
   apply Array.map_congr_left
   intro x hx
   exact hc x (by simp[Call.operands,hx])
  unfold resolve
  rw[hargs]
  cases hcal:c.callee with
  | value f=>simp only[hc f (by simp[Call.operands,hcal])]
  | invoke r m=>simp only[hc r (by simp[Call.operands,hcal])]
  | builtin b=>rfl
 have hparts:∀ (parts:Array (Nat×Operand)),(∀ x∈(parts.toList.map (·.2)).toArray,ρ x=ρ' x)→parts.map (fun(i,x)=>(i,ρ x))=parts.map (fun(i,x)=>(i,ρ' x)):=by
  intro parts hp
  apply Array.map_congr_left
  rintro⟨i,x⟩ hx
  have:=hp x (by simp;exact⟨i,hx⟩)
  simp[this]
 have hopt:∀ (r:Option Operand),(∀ x∈r.toArray,ρ x=ρ' x)→r.map ρ=r.map ρ':=by
  intro r hr
  cases r with
  | none=>rfl
  | some x=>simp[hr x (by simp)]
 have harr:∀ (r:Array Operand),(∀ x∈r,ρ x=ρ' x)→r.map ρ=r.map ρ':=fun r hr=>Array.map_congr_left hr
 unfold execOp
 cases hop:o.op <;> simp only[hop,Op.operands]at h <;> simp only[]
 case move x=>rw[h x (by simp)]
 case assign x=>rw[h x (by simp)]
 case pick c a b=>rw[h c (by simp),h a (by simp),h b (by simp)]
 case box e x=>rw[h x (by simp)]
 case build t ps=>rw[hparts ps h]
 case buildSlice t l ps=>rw[hparts ps h]
 case insert t m k v=>rw[h m (by simp),h k (by simp),h v (by simp)]
 case load t a=>rw[h a (by simp)]
 case store t a v=>rw[h a (by simp),h v (by simp)]
 case nilCheck x=>rw[h x (by simp)]
 case binOp op t x y u =>
  rw[h x (by simp),h y (by simp)]
 case unOp op t x=>rw[h x (by simp)]
 case convert s d x=>rw[h x (by simp)]
 case sliceToArrayPointer d x=>rw[h x (by simp)]
 case makeInterface t x=>rw[h x (by simp)]
 case makeFunc f a b=>rw[harr a (fun x hx=>h x (by simp[hx])),harr b (fun x hx=>h x (by simp[hx]))]
 case makeMap t r=>rw[hopt r h]
 case makeChan t s=>rw[h s (by simp)]
 case makeSlice t l c=>rw[h l (by simp),h c (by simp)]
 case slice t x lo hi mx=>rw[h x (by simp),hopt lo (fun x hx=>h x (by simp at hx;simp[hx])),hopt hi (fun x hx=>h x (by simp at hx;simp[hx])),hopt mx (fun x hx=>h x (by simp at hx;simp[hx]))]
 case fieldAddr t x f=>rw[h x (by simp)]
 case field t x f=>rw[h x (by simp)]
 case indexAddr t x i=>rw[h x (by simp),h i (by simp)]
 case index t x i=>rw[h x (by simp),h i (by simp)]
 case lookup t x i c=>rw[h x (by simp),h i (by simp)]
 case mapUpdate t m k v=>rw[h m (by simp),h k (by simp),h v (by simp)]
 case mapEntry t m k=>rw[h m (by simp),h k (by simp)]
 case entryStore t m k v=>rw[h m (by simp),h k (by simp),h v (by simp)]
 case range t x=>rw[h x (by simp)]
 case next i s=>rw[h i (by simp)]
 case entry i=>rw[h i (by simp)]
 case typeAssert x a b c=>rw[h x (by simp)]
 case extract t i=>rw[h t (by simp)]
 case call c=>rw[hcall c o.type h]
 case go c=>rw[hcall c o.type h]
 case defer c=>rw[hcall c o.type h]
 case panic x=>rw[h x (by simp)]
 case send c x=>rw[h c (by simp),h x (by simp)]
 case recv t c k=>simp only[h c (by simp)]
 case select cs b=>rw[hop]at hs;cases hs
inductive OK where
 | auto (cs:List LC)
 | idx (j:Nat)
 | aidx (j:Nat) (v:Value)
 | sidx (c:UInt8)
 | slc (l h:Nat) (moved:Bool)
 | row (i:Nat) (arr:Array Value)
 | seq (b:Bool)
 | aeq (b:Bool)
structure OC where
 k:OK
 asv:Option Value:=none
abbrev ORes:=Option (List Prop×Value×AW)
def Zw(w:World)(b k:Nat)(arr:Array Value):Prop:=∀ i v,arr[i]? = some v→w.cell? ⟨b,k+i,none⟩=some v
def RowOf(c:Ch)(b k:Nat)(arr:Array Value):Prop:=∀ w,c.holds w→Zw w b k arr
def EK(n j:Nat):Nat:=bif Nat.beq n 1 then j else j*n
theorem LY(n j:Nat):EK n j=j*n:=by
 unfold EK
 cases h:Nat.beq n 1 with
 | true=>have:=Nat.eq_of_beq_eq_true h;subst this;simp
 | false=>rfl
def Pe:Option Value→Nat→Option Int
 | none,d=>some d
 | some (.int _ i),_=>some i
 | some _,_=>none
def Xc(P:Program)(sub:TypeId→Array Value→Array Value→Option Bool)(xs ys:Array Value):List Field→Option Bool
 | []=>some true
 | f :: fs => match f.name == "_", P.underlying f.type, xs[f.offset]?, ys[f.offset]?, Xc P sub xs ys fs with
  | false,some (.int _),some (.int k a),some (.int k' b),some r=>match decide (k=k')with
   | true=>some ((a==b)&&r)
   | false=>none
  | false,some .bool,some (.bool a),some (.bool b),some r=>some ((a==b)&&r)
  | false,some .string,some (.string a),some (.string b),some r=>some ((a==b)&&r)
  | false,some (.struct _),_,_,some r=>match sub f.type (xs.extract f.offset (f.offset+P.cellsOf f.type)) (ys.extract f.offset (f.offset+P.cellsOf f.type))with
   | some a=>some (a&&r)
   | none=>none
  | _,_,_,_,_=>none
def WN(P:Program):Nat→TypeId→Array Value→Array Value→Option Bool
 | 0,_,_,_=>none
 | n+1,t,xs,ys=>match P.stoodInHeld t,P.underlying t with
  | false,some (.struct fs)=>Xc P (WN P n) xs ys fs.toList
  | _,_=>none
theorem Nv{P:Program}{t:TypeId}{d:TypeDesc}{cs:Array Value}{off:Nat}{v:Value}(hd:P.underlying t=some d)(h1:∀ x,d ≠ .struct x)(h2:∀ x y,d ≠ .array x y)(hv:cs[off]? = some v)(w:World):(part t cs off).run P w = .ok v w:=by
 have hagg:∀ w,(isAgg t).run P w = .ok false w:=by
  intro w
  cases d <;> first | (exact absurd rfl (h1 _)) | (exact absurd rfl (h2 _ _)) | simp[isAgg,underlying,program,Sem.run,hd]
 simp[part,hagg,hv,Sem.run]
theorem X8{P:Program}{t:TypeId}{fs:Array Field}{cs:Array Value}{off:Nat}(hd:P.underlying t=some (.struct fs))(w:World):(part t cs off).run P w = .ok (.agg (cs.extract off (off+P.cellsOf t))) w:=by
 have hagg:∀ w,(isAgg t).run P w = .ok true w:=by
  intro w
  simp[isAgg,underlying,program,Sem.run,hd]
 obtain⟨ti,hi, -⟩:∃ ti,P.info? t=some ti∧True:=by
  cases h:P.info? t with
  | none=>simp[Program.underlying,h]at hd
  | some ti=>exact⟨ti,rfl,trivial⟩
 simp[part,hagg,Sem.run_bind,run_sizeOf w hi,Program.cellsOf,hi]
theorem Yq{P:Program}{xs ys:Array Value}{sub:TypeId→Array Value→Array Value→Option Bool}(d:Nat)(hsub:∀ t fs cs es r,P.underlying t=some (.struct fs)→sub t cs es=some r→∀ w,(Op.equalIn (d+1) t (.agg cs) (.agg es)).run P w = .ok r w):∀ (fs:List Field) (r:Bool),Xc P sub xs ys fs=some r→∀ w,(Op.eqFields (d+1) xs ys fs).run P w = .ok r w
 | [],r,h,w=>by simp only[Xc,Option.some.injEq]at h;subst h;simp[Op.eqFields]
 | f :: fs,r,h,w=>by
  have key : ∀ (a b : Value) (e s : Bool), (f.name == "_") = false → (part f.type xs f.offset).run P w = .ok a w → (part f.type ys f.offset).run P w = .ok b w → (Op.equalIn (d + 1) f.type a b).run P w = .ok e w → Xc P sub xs ys fs = some s → (Op.eqFields (d + 1) xs ys (f :: fs)).run P w = .ok (e && s) w := by
   intro a b e s hn ha hb he hs
   have ih:=Yq d hsub fs s hs w
   have hn' : f.name ≠ "_" := by simpa using hn
   rw[Op.eqFields]
   simp only[if_pos hn',Sem.run_bind,ha,hb,he,Result.andThen_ok]
   cases e
   ·simp
   simpa using ih
  unfold Xc at h
  split at h
  ·rename_i k0 k a k' b s hn hd ha hb hs
   split at h
   ·rename_i hk
    simp only[Option.some.injEq]at h;subst h
    have hk':=of_decide_eq_true hk;subst hk'
    exact key _ _ _ _ hn (Nv hd (by simp) (by simp) ha w) (Nv hd (by simp) (by simp) hb w) (run_equalIn_int w d f.type _ _ a b hd) hs
   cases h
  ·rename_i a b s hn hd ha hb hs
   simp only[Option.some.injEq]at h;subst h
   exact key _ _ _ _ hn (Nv hd (by simp) (by simp) ha w) (Nv hd (by simp) (by simp) hb w) (run_equalIn_bool' w d f.type a b hd) hs
  ·rename_i a b s hn hd ha hb hs
   simp only[Option.some.injEq]at h;subst h
   exact key _ _ _ _ hn (Nv hd (by simp) (by simp) ha w) (Nv hd (by simp) (by simp) hb w) (by rw[run_equalIn_string w d f.type a b hd,beq_toListBytes]) hs
  ·rename_i gs s hn hd hs
   split at h
   ·rename_i a hsb
    simp only[Option.some.injEq]at h;subst h
    exact key _ _ _ _ hn (X8 hd w) (X8 hd w) (hsub _ _ _ _ _ hd hsb w) hs
   cases h
  cases h
theorem Yf{P:Program}(d:Nat):∀ (n:Nat) (t:TypeId) (xs ys:Array Value) (r:Bool),WN P n t xs ys=some r→∀ w,(Op.equalIn (d+1+n) t (.agg xs) (.agg ys)).run P w = .ok r w
 | 0,t,xs,ys,r,h=>by cases h
 | n+1,t,xs,ys,r,h=>by
  intro w
  unfold WN at h
  split at h
  ·rename_i fs hp hu
   have hf:P.fieldsOf t=fs:=by simp[Program.fieldsOf,hu]
   rw[show d+1+(n+1)=(d+1+n)+1 from rfl,run_equalIn_agg (P:=P) w (d+1+n) t xs ys (by rw[hf];exact hu) hp,hf]
   have e:d+1+n=(d+n)+1:=by omega
   rw[e]
   exact Yq (d+n) (fun t fs cs es r _ hs w=>by rw[←e];exact Yf d n t cs es r hs w) _ _ h w
  cases h
def Yt(xs ys:Array Value):List Nat→Option Bool
 | []=>some true
 | i :: is=>match xs[i]?,ys[i]?,Yt xs ys is with
  | some (.int k a),some (.int k' b),some r=>match decide (k=k')with
   | true=>some ((a==b)&&r)
   | false=>none
  | _,_,_=>none
theorem Y3{P:Program}{e:TypeId}{k0:IntKind}{xs ys:Array Value}(hu:P.underlying e=some (.int k0))(d:Nat):∀ (is:List Nat) (r:Bool),Yt xs ys is=some r→∀ w,(Op.eqItems (d+1) e 1 xs ys is).run P w = .ok r w
 | [],r,h,w=>by simp only[Yt,Option.some.injEq]at h;subst h;simp[Op.eqItems]
 | i :: is,r,h,w=>by
  unfold Yt at h
  split at h
  ·rename_i k a k' b s ha hb hs
   split at h
   ·rename_i hk
    simp only[Option.some.injEq]at h;subst h
    have hk':=of_decide_eq_true hk;subst hk'
    have ih:=Y3 hu d is s hs w
    have pa:=Nv (P:=P) hu (by simp) (by simp) ha
    have pb:=Nv (P:=P) hu (by simp) (by simp) hb
    simp only[Op.eqItems,Nat.mul_one,Sem.run_bind,pa,pb,run_equalIn_int w d e k k0 a b hu,Result.andThen_ok]
    cases a==b
    ·simp
    simpa using ih
   cases h
  cases h
def Qi(P:Program)(ro:Bool)(ρ:Operand→Value)(o:Oper)(A:AW):OK→ORes
 | .auto cs=>match CW P ro (execOp ρ o) cs A with
  | some (vs,[],.value v,A')=>some (vs,v,A')
  | some (vs,[],.skip,A')=>match ro with
   | false=>some (vs,undef,A')
   | true=>none
  | _=>none
 | .idx j=>match o.op with
  | .indexAddr t x ix=>match ρ x,ρ ix,P.underlying t with
   | .slice (some a) len _,.int _ i,some (.slice e)=>match P.info? e with
    | some f=>some ([i=(j:Int),j<len,a.spot=none],.pointer (some ⟨a.block,a.off+EK f.size j,none⟩),A)
    | none=>none
   | .pointer (some a),.int _ i,some (.array len e)=>match P.info? e with
    | some f=>some ([i=(j:Int),j<len,a.spot=none],.pointer (some ⟨a.block,a.off+EK f.size j,none⟩),A)
    | none=>none
   | _,_,_=>none
  | _=>none
 | .aidx j v=>match o.op with
  | .index t x ix=>match ρ x,ρ ix,P.underlying t with
   | .agg cs,.int _ i,some (.array len e)=>match P.info? e,P.underlying e with
    | some f,some (.struct _)=>none
    | some f,some (.array _ _)=>none
    | some f,some _=>some ([i=(j:Int),j<len,cs[EK f.size j]? = some v],v,A)
    | _,_=>none
   | _,_,_=>none
  | _=>none
 | .sidx c=>match o.op with
  | .index t x ix=>match ρ x,ρ ix,P.underlying t with
   | .string s,.int _ i,some .string=>some ([0≤i,s[i.toNat]? = some c],.int .u8 c.toNat,A)
   | _,_,_=>none
  | _=>none
 | .row i arr=>match o.op with
  | .load t x=>match ρ x,A.σ[i]?,P.info? t with
   | .pointer (some a),some c,some f=>match a.spot,Nat.beq arr.size f.size,(match P.underlying t with | some (.struct _)=>true | some (.array _ _)=>true | _=>false)with
    | none,true,true=>some ([RowOf c a.block a.off arr],.agg arr,A)
    | _,_,_=>none
   | _,_,_=>none
  | _=>none
 | .aeq b=>match o.op with
  | .binOp .eql t x y _=>match ρ x,ρ y,P.eqGuardType P.depth t,P.underlying t with
   | .agg xs,.agg ys,false,some (.array n e)=>match P.info? e,P.underlying e,Nat.beq (P.cellsOf e) 1,Yt xs ys (List.range n)with
    | some _,some (.int _),true,some r=>some ([r=b],.bool b,A)
    | _,_,_,_=>none
   | _,_,_,_=>none
  | _=>none
 | .seq b=>match o.op with
  | .binOp .eql t x y _=>match ρ x,ρ y,P.eqGuardType P.depth t,P.stoodInHeld t,P.underlying t with
   | .agg xs,.agg ys,false,false,some (.struct fs)=>match WN P 4 t xs ys with
    | some r=>some ([r=b],.bool b,A)
    | none=>none
   | _,_,_,_,_=>none
  | .binOp .neq t x y _=>match ρ x,ρ y,P.eqGuardType P.depth t,P.stoodInHeld t,P.underlying t with
   | .agg xs,.agg ys,false,false,some (.struct fs)=>match WN P 4 t xs ys with
    | some r=>some ([r=b],.bool (!b),A)
    | none=>none
   | _,_,_,_,_=>none
  | _=>none
 | .slc l h moved=>match o.op with
  | .slice t x lo hi none=>match ρ x,P.underlying t,Pe (lo.map ρ) 0 with
   | .slice a len cap,some (.slice e),some lo'=>match P.info? e,Pe (hi.map ρ) len with
    | some f,some hi'=>match a,moved with
     | a,false=>some ([lo'=(l:Int),hi'=(h:Int),l≤h,h≤cap,cap=l∨l=0],.slice a (h - l) (cap - l),A)
     | some a,true=>some ([lo'=(l:Int),hi'=(h:Int),l≤h,h≤cap,cap≠l,a.spot=none],.slice (some ⟨a.block,a.off+EK f.size l,none⟩) (h - l) (cap - l),A)
     | _,_=>none
    | _,_=>none
   | _,_,_=>none
  | _=>none
def Yields(P:Program)(ρ:Operand→Value)(o:Oper)(v:Value)(w w':World):Prop :=
 (execOp ρ o).run P w = .ok (.value v) w'∨((execOp ρ o).run P w = .ok .skip w'∧v=undef)
theorem MJ{a:Addr}(h:a.spot=none)(k:Nat):a.add k=⟨a.block,a.off+k,none⟩:=by
 obtain⟨b,o,s⟩:=a
 simp only at h;subst h
 simp[Addr.add]
theorem run_indexAt_slice{P:Program}{t e:TypeId}{f:TypeInfo}{a:Addr}{len cap:Nat}{k:IntKind}{i:Int}{j:Nat}(ht:P.underlying t=some (.slice e))(he:P.info? e=some f)(hi:i=(j:Int))(hj:j<len)(hs:a.spot=none)(w:World) :
   (Instr.indexAt t (.slice (some a) len cap) (.int k i)).run P w = .ok (.pointer (some ⟨a.block,a.off+EK f.size j,none⟩)) w:=by
 subst hi
 have hb:(0:Int)≤(j:Int)∧(j:Int)<(len:Int):=⟨Int.natCast_nonneg j,by exact_mod_cast hj⟩
 simp[Instr.indexAt,asIntOf,underlying,program,Sem.run,ht,sizeOf,typeInfo,he,hj,LY,MJ hs]
theorem run_indexAt_array{P:Program}{t e:TypeId}{f:TypeInfo}{a:Addr}{len:Nat}{k:IntKind}{i:Int}{j:Nat}(ht:P.underlying t=some (.array len e))(he:P.info? e=some f)(hi:i=(j:Int))(hj:j<len)(hs:a.spot=none)(w:World) :
   (Instr.indexAt t (.pointer (some a)) (.int k i)).run P w = .ok (.pointer (some ⟨a.block,a.off+EK f.size j,none⟩)) w:=by
 subst hi
 have hb:(0:Int)≤(j:Int)∧(j:Int)<(len:Int):=⟨Int.natCast_nonneg j,by exact_mod_cast hj⟩
 simp[Instr.indexAt,asIntOf,underlying,program,Sem.run,ht,sizeOf,typeInfo,he,hj,LY,MJ hs,Instr.sureAddr]
theorem VP{P:Program}{t e:TypeId}{f:TypeInfo}{d:TypeDesc}{cs:Array Value}{len:Nat}{k:IntKind}{i:Int}{j:Nat}{v:Value}(ht:P.underlying t=some (.array len e))(he:P.info? e=some f)(hd:P.underlying e=some d)(h1:∀ x,d ≠ .struct x)(h2:∀ x y,d ≠ .array x y)(hi:i=(j:Int))(hj:j<len)(hv:cs[EK f.size j]? = some v)(w:World) :
   (Instr.index t (.agg cs) (.int k i)).run P w = .ok v w:=by
 subst hi
 have hagg:∀ w,(isAgg e).run P w = .ok false w:=by
   intro w
   cases d <;> first | (exact absurd rfl (h1 _)) | (exact absurd rfl (h2 _ _)) | simp[isAgg,underlying,program,Sem.run,hd]
 rw[LY]at hv
 simp[Instr.index,asIntOf,underlying,program,Sem.run,ht,sizeOf,typeInfo,he,hj,part,hagg,hv]
theorem run_index_string{P:Program}{t:TypeId}{s:ByteArray}{k:IntKind}{i:Int}{c:UInt8}(ht:P.underlying t=some .string)(hi:0≤i)(hv:s[i.toNat]? = some c)(w:World) :
   (Instr.index t (.string s) (.int k i)).run P w = .ok (.int .u8 c.toNat) w:=by
 simp[Instr.index,asIntOf,underlying,program,Sem.run,ht,hi,hv]
theorem Vx{P:Program}{t e:TypeId}{f:TypeInfo}{a:Option Addr}{len cap:Nat}{lo hi:Option Value}{lo' hi':Int}{l h:Nat}(ht:P.underlying t=some (.slice e))(he:P.info? e=some f)
   (h1:Pe lo 0=some lo') (h2:Pe hi len=some hi') (e1:lo'=(l:Int)) (e2:hi'=(h:Int)) (hlh:l≤h) (hc:h≤cap) (w:World) :
   (Instr.sliceAt t (.slice a len cap) lo hi none).run P w = .ok (.slice (if cap=l then a else a.map (·.add (l*f.size))) (h - l) (cap - l)) w:=by
 subst e1;subst e2
 have hb:∀ w,(Instr.sliceBounds true len cap lo hi none).run P w = .ok (l,h,cap) w:=by
   intro w
   have B:∀ (x:Value) (y n:Nat) (c:BoundsCode) (d:Nat),Pe (some x) d=some (n:Int)→n≤y→∀ w,(Instr.sliceBound x y c).run P w = .ok n w:=by
     intro x y n c d hx hn w
     cases x <;> simp[Pe]at hx
     subst hx
     simp[Instr.sliceBound,asIntOf,Sem.run,hn]
   cases hi with
   | none =>
     simp[Pe]at h2
     have h2':len=h:=by exact_mod_cast h2
     subst h2'
     cases lo with
     | none =>
       simp[Pe]at h1
       have h1':l=0:=by omega
       subst h1'
       simp[Instr.sliceBounds]
     | some v=>simp[Instr.sliceBounds,B v len l .sliceB 0 h1 hlh]
   | some u =>
     have hB:=B u cap h .sliceAcap len h2 hc
     cases lo with
     | none =>
       simp[Pe]at h1
       have h1':l=0:=by omega
       subst h1'
       simp[Instr.sliceBounds,hB]
     | some v=>simp[Instr.sliceBounds,hB,B v h l .sliceB 0 h1 hlh]
 simp[Instr.sliceAt,Instr.slice,underlying,program,Sem.run,ht,hb,sizeOf,typeInfo,he]
theorem run_loadCells{P:Program}{w:World}{b k:Nat}{arr:Array Value}(h:Zw w b k arr):∀ (n i:Nat) (acc:Array Value),i+n=arr.size→(loadCellsFrom ⟨b,k,none⟩ i n acc).run P w = .ok (acc++(arr.toList.drop i).toArray) w:=by
 intro n
 induction n with
 | zero=>intro i acc hi;simp[loadCellsFrom,Sem.run,List.drop_eq_nil_of_le (show arr.toList.length≤i by simp;omega)]
 | succ n ih =>
  intro i acc hi
  have hlt:i<arr.size:=by omega
  have hc:=h i arr[i] (by simp[hlt])
  have hd:arr.toList.drop i=arr[i] :: arr.toList.drop (i+1):=by rw[List.drop_eq_getElem_cons (by simpa using hlt)];simp
  simp only[loadCellsFrom,load,Sem.run_bind,Sem.run,MJ (show(⟨b,k,none⟩:Addr).spot=none from rfl),hc,Result.andThen_ok]
  rw[ih (i+1) _ (by omega),hd]
  simp
theorem Zr{P:Program}{w:World}{a:Addr}{arr:Array Value}{t:TypeId}{f:TypeInfo}(h:Zw w a.block a.off arr)(hs:a.spot=none)(hf:P.info? t=some f)(hn:arr.size=f.size)(hagg:(match P.underlying t with | some (.struct _)=>true | some (.array _ _)=>true | _=>false)=true) :
   (Instr.loadAt t (.pointer (some a))).run P w = .ok (.agg arr) w:=by
 obtain⟨b,k,sp⟩:=a
 simp only at hs;subst hs
 have ha:∀ w,(isAgg t).run P w = .ok true w:=by
   intro w
   cases hu:P.underlying t with
   | none=>rw[hu]at hagg;cases hagg
   | some d=>rw[hu]at hagg;cases d <;> first | (cases hagg;done) | simp[isAgg,underlying,program,Sem.run,hu]
 have hl:=run_loadCells (P:=P) h f.size 0 #[] (by omega)
 simp at hl
 simp[Instr.loadAt,Instr.sureAddr,loadVar,ha,sizeOf,typeInfo,program,Sem.run,hf,loadCells,hl]
theorem Xr{P:Program}{ro:Bool}{ρ:Operand→Value}{o:Oper}{A A':AW}{k:OK}{vs:List Prop}{v:Value}(hk:∀ cs,k ≠ .auto cs)(h:Qi P ro ρ o A k=some (vs,v,A'))(hv:Gu vs):A'=A∧∀ w:World,(∀ c∈A.σ,c.holds w)→(execOp ρ o).run P w = .ok (.value v) w:=by
 cases k with
 | auto cs=>exact absurd rfl (hk cs)
 | idx j =>
  simp only[Qi]at h
  split at h
  ·rename_i t x ix hop
   split at h
   ·rename_i a len cap k i e hx hix ht
    split at h
    ·rename_i f he
     simp only[Option.some.injEq,Prod.mk.injEq]at h
     obtain⟨rfl,rfl,rfl⟩:=h
     obtain⟨h1,h2,h3, -⟩:=hv
     exact⟨rfl,fun w _=>by simp[execOp,hop,hx,hix,run_indexAt_slice ht he h1 h2 h3,Sem.run,Result.andThen]⟩
    cases h
   ·rename_i a k i len e hx hix ht
    split at h
    ·rename_i f he
     simp only[Option.some.injEq,Prod.mk.injEq]at h
     obtain⟨rfl,rfl,rfl⟩:=h
     obtain⟨h1,h2,h3, -⟩:=hv
     exact⟨rfl,fun w _=>by simp[execOp,hop,hx,hix,run_indexAt_array ht he h1 h2 h3,Sem.run,Result.andThen]⟩
    cases h
   cases h
  cases h
 | aidx j u =>
  simp only[Qi]at h
  split at h
  ·rename_i t x ix hop
   split at h
   ·rename_i cs k i len e hx hix ht
    split at h
    ·cases h
    ·cases h
    ·rename_i f d hn1 hn2 he hd
     simp only[Option.some.injEq,Prod.mk.injEq]at h
     obtain⟨rfl,rfl,rfl⟩:=h
     obtain⟨h1,h2,h3, -⟩:=hv
     exact⟨rfl,fun w _=>by simp[execOp,hop,hx,hix,VP ht he hd hn1 hn2 h1 h2 h3,Sem.run,Result.andThen]⟩
    cases h
   cases h
  cases h
 | sidx c =>
  simp only[Qi]at h
  split at h
  ·rename_i t x ix hop
   split at h
   ·rename_i s k i hx hix ht
    simp only[Option.some.injEq,Prod.mk.injEq]at h
    obtain⟨rfl,rfl,rfl⟩:=h
    obtain⟨h1,h2, -⟩:=hv
    exact⟨rfl,fun w _=>by simp[execOp,hop,hx,hix,run_index_string ht h1 h2,Sem.run,Result.andThen]⟩
   cases h
  cases h
 | row i arr =>
  simp only[Qi]at h
  split at h
  ·rename_i t x hop
   split at h
   ·rename_i a c f hx hi hf
    split at h
    ·rename_i hs hn hagg
     simp only[Option.some.injEq,Prod.mk.injEq]at h
     obtain⟨rfl,rfl,rfl⟩:=h
     exact⟨rfl,fun w hw=>by simp[execOp,hop,hx,Zr (hv.1 w (hw c (List.mem_of_getElem? hi))) hs hf (Nat.eq_of_beq_eq_true hn) hagg,Sem.run,Result.andThen]⟩
    cases h
   cases h
  cases h
 | aeq b =>
  simp only[Qi]at h
  split at h
  ·rename_i t x y tt hop
   split at h
   ·rename_i xs ys n e hx hy hm hu
    split at h
    ·rename_i i k0 r hi hek hc hr
     simp only[Option.some.injEq,Prod.mk.injEq]at h
     obtain⟨rfl,rfl,rfl⟩:=h
     obtain⟨rfl, -⟩:=hv
     have hc1:P.cellsOf e=1:=Nat.eq_of_beq_eq_true hc
     have eqr:∀ w,(Op.equalIn 10000 t (.agg xs) (.agg ys)).run P w = .ok r w:=fun w=>by
      rw[run_equalIn_array (P:=P) w 9999 xs ys hu hi,hc1]
      exact Y3 hek 9998 _ _ hr w
     exact⟨rfl,fun w _=>by simp[execOp,hop,hx,hy,run_eqGuard_agg (P:=P) w .eql t x y xs ys hm,run_eql_struct,eqr w,Sem.run,Result.andThen]⟩
    cases h
   cases h
  cases h
 | seq b =>
  have eqr:∀ (t:TypeId) (xs ys:Array Value) (fs:Array Field) (r:Bool) (w:World),P.stoodInHeld t=false→P.underlying t=some (.struct fs)→WN P 4 t xs ys=some r→(Op.equalIn 10000 t (.agg xs) (.agg ys)).run P w = .ok r w:=fun t xs ys fs r w _ _ he=>Yf 9995 4 t xs ys r he w
  simp only[Qi]at h
  split at h
  ·rename_i t x y tt hop
   split at h
   ·rename_i xs ys fs hx hy hm hp hu
    split at h
    ·rename_i r hr
     simp only[Option.some.injEq,Prod.mk.injEq]at h
     obtain⟨rfl,rfl,rfl⟩:=h
     obtain⟨rfl, -⟩:=hv
     exact⟨rfl,fun w _=>by simp[execOp,hop,hx,hy,run_eqGuard_agg (P:=P) w .eql t x y xs ys hm,run_eql_struct,eqr t xs ys fs _ w hp hu hr,Sem.run,Result.andThen]⟩
    cases h
   cases h
  ·rename_i t x y tt hop
   split at h
   ·rename_i xs ys fs hx hy hm hp hu
    split at h
    ·rename_i r hr
     simp only[Option.some.injEq,Prod.mk.injEq]at h
     obtain⟨rfl,rfl,rfl⟩:=h
     obtain⟨rfl, -⟩:=hv
     exact⟨rfl,fun w _=>by simp[execOp,hop,hx,hy,run_eqGuard_agg (P:=P) w .neq t x y xs ys hm,run_neq_struct,eqr t xs ys fs _ w hp hu hr,Sem.run,Result.andThen]⟩
    cases h
   cases h
  cases h
 | slc l m moved =>
  simp only[Qi]at h
  split at h
  ·rename_i t x lo hi hop
   split at h
   ·rename_i a len cap e lo' hx ht h1
    split at h
    ·rename_i f hi' he h2
     split at h
     ·simp only[Option.some.injEq,Prod.mk.injEq]at h
      obtain⟨rfl,rfl,rfl⟩:=h
      obtain⟨e1,e2,e3,e4,e5, -⟩:=hv
      refine⟨rfl,fun w _ => ?_⟩
      have hr:=Vx (a:=a) (cap:=cap) ht he h1 h2 e1 e2 e3 e4 w
      have ha:(if cap=l then a else a.map (·.add (l*f.size)))=a:=by
       rcases e5 with rfl | rfl
       ·simp
       split
       ·rfl
       cases a <;> simp[Addr.add]
      rw[ha]at hr
      simp[execOp,hop,hx,hr,Sem.run,Result.andThen]
     ·rename_i a
      simp only[Option.some.injEq,Prod.mk.injEq]at h
      obtain⟨rfl,rfl,rfl⟩:=h
      obtain⟨e1,e2,e3,e4,e5,e6, -⟩:=hv
      refine⟨rfl,fun w _ => ?_⟩
      have hr:=Vx (a:=some a) (cap:=cap) ht he h1 h2 e1 e2 e3 e4 w
      rw[if_neg e5]at hr
      simp only[Option.map_some,MJ e6]at hr
      simp[execOp,hop,hx,hr,Sem.run,Result.andThen,LY]
     cases h
    cases h
   cases h
  cases h
theorem Uz{P:Program}{ro:Bool}{ρ:Operand→Value}{o:Oper}{A A':AW}{k:OK}{vs:List Prop}{v:Value}(h:Qi P ro ρ o A k=some (vs,v,A'))(hv:Gu vs){w:World}(hw:Sat A w) :
   ∃ w',Yields P ρ o v w w'∧Sat A' w'∧A'.w0=A.w0:=by
 by_cases hk:∃ cs,k = .auto cs
 · obtain⟨cs,rfl⟩:=hk
   simp only[Qi]at h
   split at h
   · rename_i vs' v' A'' hr
     simp only[Option.some.injEq,Prod.mk.injEq]at h
     obtain⟨rfl,rfl,rfl⟩:=h
     obtain⟨w',h1,h2,h3⟩:=VW _ _ _ _ _ _ _ hr hv w hw
     exact⟨w',.inl h1,h2,h3⟩
   · rename_i vs' A'' hr
     split at h
     · simp only[Option.some.injEq,Prod.mk.injEq]at h
       obtain⟨rfl,rfl,rfl⟩:=h
       obtain⟨w',h1,h2,h3⟩:=VW _ _ _ _ _ _ _ hr hv w hw
       exact⟨w',.inr ⟨h1,rfl⟩,h2,h3⟩
     · cases h
   · cases h
 · obtain⟨rfl,h1⟩:=Xr (fun cs e=>hk ⟨cs,e⟩) h hv
   exact⟨w,.inl (h1 w hw.all),hw,rfl⟩
theorem Yg{P:Program}{ρ:Operand→Value}{o:Oper}{A A':AW}{k:OK}{vs:List Prop}{v:Value}(h:Qi P true ρ o A k=some (vs,v,A'))(hv:Gu vs){w:World}(hw:∀ c∈A.σ,c.holds w) :
   (execOp ρ o).run P w = .ok (.value v) w:=by
 by_cases hk:∃ cs,k = .auto cs
 · obtain⟨cs,rfl⟩:=hk
   simp only[Qi]at h
   split at h
   · rename_i vs' v' A'' hr
     simp only[Option.some.injEq,Prod.mk.injEq]at h
     obtain⟨rfl,rfl,rfl⟩:=h
     exact(Pi _ _ _ _ _ _ _ hr hv w hw).1
   · cases h
   · cases h
 · exact(Xr (fun cs e=>hk ⟨cs,e⟩) h hv).2 w hw
def NM(ops:Array Oper)(env:Env)(o:Oper):Option Bool:=match o.guard with
 | none=>some true
 | some (j,want)=>match(ops[j]?).bind (·.dst)with
  | some d=>match look env d with
   | some (.bool b)=>some (b==want)
   | some (.tuple _)=>some false
   | _=>none
  | none=>none
theorem FK{N:Nat}{env:Env}{ds:List Deferred}{A:AW}{a:Act}{w:World}{ops:Array Oper}{o:Oper}{b:Bool}(h:NM ops env o=some b)(hs:St N env ds A a w):Region.wanted o (yielded ops a.tmps)=b:=by
 unfold NM at h
 unfold Region.wanted
 split at h
 ·rename_i hg;simp only[hg];simpa using h
 rename_i j want hg
 simp only[hg]
 split at h
 ·rename_i d hd
  split at h
  ·rename_i c hc
   have hk:=hs.kn _ _ hc
   have hy:yielded ops a.tmps j=some c:=by
    have h1:a.tmps[d]? = some (.bool c):=by
     rw[Array.getD_eq_getD_getElem?]at hk
     cases h2:a.tmps[d]? with
     | none=>rw[h2]at hk;cases hk
     | some y=>rw[h2]at hk;exact congrArg some hk
    unfold yielded
    simp only[hd,Option.bind_some,h1]
   simp only[Option.some.injEq]at h
   rw[hy,←h];cases c <;> cases want <;> rfl
  ·rename_i c hc
   have hk:=hs.kn _ _ hc
   have hy:yielded ops a.tmps j=none:=by
    have h1:a.tmps[d]? = some (.tuple c)∨a.tmps[d]? = none:=by
     rw[Array.getD_eq_getD_getElem?]at hk
     cases h2:a.tmps[d]? with
     | none=>exact .inr rfl
     | some y=>rw[h2]at hk;exact .inl (congrArg some hk)
    unfold yielded
    rcases h1 with h1 | h1 <;> simp only[hd,Option.bind_some,h1]
   simp only[Option.some.injEq]at h
   rw[hy,←h];cases want <;> rfl
  cases h
 cases h
def JZ(env:Env)(o:Oper):Bool:=noSel o.op&&o.op.operands.all (known env)
abbrev NW:=Option (List Prop×Env×AW)
def NW.and(ps:List Prop)(r:NW):NW:=match r with
 | some (qs,x)=>some (ps++qs,x)
 | none=>none
theorem NW.EQ{ps vs:List Prop}{r:NW}{x:Env×AW}(h:NW.and ps r=some (vs,x)):∃ qs,r=some (qs,x)∧vs=ps++qs:=by
 unfold NW.and at h
 split at h
 ·rename_i qs y;simp at h;exact⟨qs,by rw[h.2],h.1.symm⟩
 cases h
def NQ(P:Program)(N:Nat)(ops:Array Oper):Nat→List OC→List Oper→Env→AW→NW
 | 0,[],_,env,A=>some ([],env,A)
 | 0,_ :: _,_,_,_=>none
 | _+1,_,[],_,_=>none
 | m+1,cs,o :: l,env,A=>match NM ops env o with
  | some false=>match NZ N o.dst with
   | true=>NQ P N ops m cs l (JG env o.dst undef) A
   | false=>none
  | some true=>match cs with
   | []=>none
   | c :: cs=>match JZ env o,NZ N o.dst,Qi P false (GR env) o A c.k with
    | true,true,some (vs,v,A')=>match c.asv with
     | none=>(NQ P N ops m cs l (JG env o.dst v) A').and vs
     | some u=>(NQ P N ops m cs l (JG env o.dst u) A').and (vs++[v=u])
    | _,_,_=>none
  | none=>none
inductive Kt where
 | seq (c:Code)
 | blk (id:Nat)
 | inv (R:Act→World→Prop)
def QQ(P:Program):List Kt→(Exit→Act→World→Prop)→Exit→Act→World→Prop
 | [],Q=>Q
 | .seq c :: s,Q=>Exit.then (c.wp P (QQ P s Q)) (QQ P s Q)
 | .blk id :: s,Q=>Exit.inBlock id (QQ P s Q)
 | .inv R :: s,Q=>Exit.then R (QQ P s Q)
def Lg(P:Program)(N:Nat)(env:Env)(ds:List Deferred)(A:AW)(ops:Array Oper)(l:List Oper)(s:List Kt)(Q:Exit→Act→World→Prop):Prop :=
 ∀ a w,St N env ds A a w→wpList P ops (QQ P s Q) l a w
def G(P:Program)(N:Nat)(env:Env)(ds:List Deferred)(A:AW)(c:Code)(s:List Kt)(Q:Exit→Act→World→Prop):Prop :=
 ∀ a w,St N env ds A a w→c.wp P (QQ P s Q) a w
def E(P:Program)(N:Nat)(env:Env)(ds:List Deferred)(A:AW)(e:Exit)(s:List Kt)(Q:Exit→Act→World→Prop):Prop :=
 ∀ a w,St N env ds A a w→QQ P s Q e a w
theorem Oo{P:Program}{ops:Array Oper}{Q:Exit→Act→World→Prop}{l:List Oper}{o:Oper}{a:Act}{w w':World}{v:Value}(hw:Region.wanted o (yielded ops a.tmps)=true)(hy:Yields P a.eval o v w w')(h:wpList P ops Q l (a.put o.dst v) w'):wpList P ops Q (o :: l) a w:=by
 unfold wpList
 rw[if_pos hw]
 left
 unfold Oper.wp
 rcases hy with hy | ⟨hy,rfl⟩ <;> rw[hy] <;> exact h
theorem Jc{N:Nat}{env:Env}{ds:List Deferred}{A:AW}{a:Act}{w:World}{o:Oper}(hs:St N env ds A a w)(hk:JZ env o=true):execOp a.eval o=execOp (GR env) o:=by
 simp only[JZ,Bool.and_eq_true,Array.all_eq_true_iff_forall_mem]at hk
 exact execOp_congr hk.1 (fun x hx=>hs.eval (hk.2 x hx))
theorem RU{P:Program}{N:Nat}{ops:Array Oper}{ds:List Deferred}{s:List Kt}{Q:Exit→Act→World→Prop}:∀ (m:Nat) (cs:List OC) (l:List Oper) (env:Env) (A:AW) (vs:List Prop) (env':Env) (A':AW),
   NQ P N ops m cs l env A=some (vs,env',A')→Gu vs→(A'.w0=A.w0→Lg P N env' ds A' ops (l.drop m) s Q)→Lg P N env ds A ops l s Q:=by
 intro m
 induction m with
 | zero =>
   intro cs l env A vs env' A' h hv K
   cases cs with
   | nil=>simp only[NQ,Option.some.injEq,Prod.mk.injEq]at h;obtain⟨-,rfl,rfl⟩:=h;simpa using K rfl
   | cons c cs=>simp[NQ]at h
 | succ m ih =>
   intro cs l env A vs env' A' h hv K a w hs
   cases l with
   | nil=>simp[NQ]at h
   | cons o l =>
     simp only[NQ]at h
     split at h
     · rename_i hw
       have hw':=FK hw hs
       unfold wpList
       rw[if_neg (by rw[hw'];simp)]
       split at h
       · rename_i hd
         exact ih cs l _ A vs env' A' h hv K _ _ (hs.put hs.mem _ hd _)
       · cases h
     · rename_i hw
       have hw':=FK hw hs
       cases cs with
       | nil=>cases h
       | cons c cs =>
         simp only at h
         split at h
         · rename_i vs1 v A1 hk hd hx
           have hcg:=Jc hs hk
           split at h
           · rename_i hcas
             obtain⟨qs,h',rfl⟩:=NW.EQ h
             rw[CZ]at hv
             obtain⟨w',hy,hsat,h0⟩:=Uz hx hv.1 hs.mem
             refine Oo hw' (by unfold Yields at hy ⊢;rw[hcg];exact hy) ?_
             exact ih cs l _ _ qs env' A' h' hv.2 (fun h1=>K (h1.trans h0)) _ _ (hs.put hsat _ hd v)
           · rename_i u hcas
             obtain⟨qs,h',rfl⟩:=NW.EQ h
             rw[CZ,CZ]at hv
             obtain⟨⟨hv1,hvu, -⟩,hv2⟩:=hv
             have hvu':v=u:=hvu
             subst hvu'
             obtain⟨w',hy,hsat,h0⟩:=Uz hx hv1 hs.mem
             refine Oo hw' (by unfold Yields at hy ⊢;rw[hcg];exact hy) ?_
             exact ih cs l _ _ qs env' A' h' hv2 (fun h1=>K (h1.trans h0)) _ _ (hs.put hsat _ hd v)
         · cases h
     · cases h
section rules
variable {P:Program}{N:Nat}{env:Env}{ds:List Deferred}{A:AW}{ops:Array Oper}{l:List Oper}{s:List Kt}{Q:Exit→Act→World→Prop}
theorem l_nil(hl:List.isEmpty l=true)(K:E P N env ds A .normal s Q):Lg P N env ds A ops l s Q:=by
 intro a w hs
 cases l with
 | nil=>exact K a w hs
 | cons x l=>cases hl
theorem Ui(keep:List Nat)(env':Env)(K:Lg P N env' ds A ops l s Q)(h:Lj keep env=env':=by as_aux_lemma=>kernel_rfl):Lg P N env ds A ops l s Q:=fun a w hs=>K a w (hs.sub (fun t v ht=>JS (by rw[h];exact ht)))
theorem Eb{c:Code}(keep:List Nat)(env':Env)(K:G P N env' ds A c s Q)(h:Lj keep env=env':=by as_aux_lemma=>kernel_rfl):G P N env ds A c s Q:=fun a w hs=>K a w (hs.sub (fun t v ht=>JS (by rw[h];exact ht)))
def UK(P:Program)(env:Env)(A:AW)(cs:List LC)(ops:Array Oper):List Oper→Option (List Prop×FuncId×Array Value×Option Nat)
 | []=>none
 | o :: _=>match NM ops env o,JZ env o,CW P true (execOp (GR env) o) cs A with
  | some true,true,some (vs,[],.enter f args,_)=>some (vs,f,args,o.dst)
  | _,_,_=>none
theorem l_call(cs:List LC)(vs:List Prop)(f:FuncId)(args:Array Value)(d:Option Nat)(hv:Gu vs)
   (hc:∀ w,Sat A w→Calls P f args w fun e w'=>∃ v A',e = .returned v∧Sat A' w'∧Lg P N (JG env d v) ds A' ops (l.drop 1) s Q) (h:UK P env A cs ops l=some (vs,f,args,d):=by as_aux_lemma=>kernel_rfl) (hd:NZ N d=true:=by kernel_rfl):Lg P N env ds A ops l s Q:=by
 intro a w hs
 cases l with
 | nil=>simp[UK]at h
 | cons o l =>
   simp only[UK]at h
   split at h
   · rename_i vs' f' args' A' hw hk hr
     simp only[Option.some.injEq,Prod.mk.injEq]at h
     obtain⟨rfl,rfl,rfl,rfl⟩:=h
     obtain⟨hrun, -⟩:=Pi _ _ _ _ _ _ _ hr hv w hs.mem.all
     unfold wpList
     rw[if_pos (FK hw hs)]
     left
     unfold Oper.wp
     rw[Jc hs hk,hrun]
     refine(hc w hs.mem).mono ?_
     rintro e w' ⟨v,A1,rfl,hs1,K⟩
     exact K _ _ (hs.put hs1 _ hd v)
   · cases h
theorem g_region{id:Nat}{os:Array Oper}(h:Lg P N env ds A os os.toList s Q):G P N env ds A (.region id os false) s Q:=fun a w hs=>wp_region_list (h a w hs)
theorem CP{x y:Code}(h:G P N env ds A x (.seq y :: s) Q):G P N env ds A (.seq x y) s Q:=fun a w hs=>wp_seq (h a w hs)
theorem g_skip(h:E P N env ds A .normal s Q):G P N env ds A .skip s Q:=fun a w hs=>wp_skip (h a w hs)
theorem g_label{n:Nat}(h:E P N env ds A .normal s Q):G P N env ds A (.label n) s Q:=fun a w hs=>wp_label (h a w hs)
theorem g_block{id:Nat}{c:Code}(h:G P N env ds A c (.blk id :: s) Q):G P N env ds A (.block id c) s Q:=fun a w hs=>wp_block (h a w hs)
theorem g_exit{id:Nat}(h:E P N env ds A (.exit id) s Q):G P N env ds A (.exit id) s Q:=fun a w hs=>wp_exit (h a w hs)
theorem g_ret(h:E P N env ds A .ret s Q):G P N env ds A .ret s Q:=fun a w hs=>wp_ret (h a w hs)
theorem g_true{c:Operand}{x y:Code}(h:G P N env ds A x s Q)(hc:GR env c = .bool true:=by rfl)(hk:known env c=true:=by rfl):G P N env ds A (.cond c x y) s Q:=fun a w hs=>wp_cond_true ((hs.eval hk).trans hc) (h a w hs)
theorem Xh{c:Operand}{x y:Code}(h:G P N env ds A y s Q)(hc:GR env c = .bool false:=by rfl)(hk:known env c=true:=by rfl):G P N env ds A (.cond c x y) s Q:=fun a w hs=>wp_cond_false ((hs.eval hk).trans hc) (h a w hs)
theorem Ce{c:Code}(I:Nat→Act→World→Prop)(n₀:Nat)(h₀:∀ a w,St N env ds A a w→I n₀ a w)(round:∀ n a w,I n a w→c.wp P (QQ P (.inv (fun a' w'=>∃ n',n'<n∧I n' a' w') :: s) Q) a w):G P N env ds A (.loop c) s Q :=
 fun a w hs=>wp_loop_ghost I n₀ (h₀ a w hs) round
theorem UI{c:Code}(h:G P N env ds A c s Q):E P N env ds A .normal (.seq c :: s) Q:=h
theorem e_blk{id:Nat}(h:E P N env ds A .normal s Q):E P N env ds A .normal (.blk id :: s) Q:=h
theorem Bz{R:Act→World→Prop}(h:∀ a w,St N env ds A a w→R a w):E P N env ds A .normal (.inv R :: s) Q:=h
theorem e_hit{id:Nat}(h:E P N env ds A .normal s Q):E P N env ds A (.exit id) (.blk id :: s) Q:=fun a w hs=>by
 show Exit.inBlock id (QQ P s Q) (.exit id) a w
 simp only[Exit.inBlock,if_true];exact h a w hs
theorem e_miss{id id':Nat}(hne:Nat.beq id id'=false)(h:E P N env ds A (.exit id) s Q):E P N env ds A (.exit id) (.blk id' :: s) Q:=fun a w hs=>by
 show Exit.inBlock id' (QQ P s Q) (.exit id) a w
 simp only[Exit.inBlock]
 rw[if_neg (fun e=>by subst e;rw[Nat.beq_refl]at hne;cases hne)]
 exact h a w hs
theorem e_out{id:Nat}{c:Code}(h:E P N env ds A (.exit id) s Q):E P N env ds A (.exit id) (.seq c :: s) Q:=h
theorem e_outI{id:Nat}{R:Act→World→Prop}(h:E P N env ds A (.exit id) s Q):E P N env ds A (.exit id) (.inv R :: s) Q:=h
theorem Wp:∀ (s:List Kt) {a:Act} {w:World},Q .ret a w→QQ P s Q .ret a w
 | [],_,_,h=>h
 | .seq _ :: s,_,_,h=>Wp s h
 | .blk _ :: s,_,_,h=>Wp s h
 | .inv _ :: s,_,_,h=>Wp s h
def Z5(fn:Func)(env:Env):Sem Value:=do
 let vs ← fn.results.mapM fun
  | .tmp t=>pure ((look env t).getD undef)
  | .cell a t=>do loadVar t (← asAddr ((look env a).getD undef))
 pure (if h:vs.size=1 then vs[0]else .tuple vs)
def QH(env:Env):ResultVar→Bool
 | .tmp t=>(look env t).isSome
 | .cell t _=>(look env t).isSome
theorem Xw{t:Nat}(h:(look env t).isSome=true){a:Act}{w:World}(hs:St N env ds A a w):a.tmps.getD t undef=(look env t).getD undef:=by
 simp only[Option.isSome_iff_exists]at h
 obtain⟨v,hv⟩:=h
 rw[hv];exact hs.kn t v hv
theorem mapM_congr{α β:Type}{f g:α→Sem β}:∀ (l:List α),(∀ x∈l,f x=g x)→l.mapM f=l.mapM g
 | [],_=>rfl
 | x :: l,h=>by simp only[List.mapM_cons,h x (by simp),mapM_congr l (fun y hy=>h y (by simp[hy]))]
theorem VS{fn:Func}{a:Act}{w:World}(hk:fn.results.all (QH env)=true)(hs:St N env ds A a w):results fn a.tmps=Z5 fn env:=by
 simp only[Array.all_eq_true_iff_forall_mem]at hk
 unfold results Z5
 simp only[Array.mapM_eq_mapM_toList]
 refine congrArg (fun z:Sem (List Value)=>(List.toArray <$> z >>= fun vs=>pure (if h:vs.size=1 then vs[0]else Value.tuple vs))) (mapM_congr _ fun x hx => ?_)
 have hx':=hk x (by simpa using hx)
 cases x with
 | tmp t=>simp only[Xw (by simpa[QH]using hx') hs]
 | cell b t=>simp only[Xw (by simpa[QH]using hx') hs]
theorem AZ{fn:Func}{R:Ending→World→Prop}(cs:List LC)(vs:List Prop)(v:Value)(hv:Gu vs)(K:∀ w,Sat A w→R (.returned v) w)(hk:fn.results.all (QH env)=true:=by kernel_rfl)(h:CW P true (Z5 fn env) cs A=some (vs,[],v,A):=by as_aux_lemma=>kernel_rfl):E P N env [] A .ret s (bodyPost P fn R):=by
 intro a w hs
 obtain⟨hrun, -⟩:=Pi _ _ _ _ _ _ _ h hv w hs.mem.all
 exact Wp s ⟨hs.df,v,by rw[VS hk hs];exact hrun,K w hs.mem⟩
theorem RI{fn:Func}{R:Ending→World→Prop}(cs:List LC)(vs:List Prop)(v:Value)(hv:Gu vs)(K:∀ w,Sat A w→R (.returned v) w)(hk:fn.results.all (QH env)=true:=by kernel_rfl)(h:CW P true (Z5 fn env) cs A=some (vs,[],v,A):=by as_aux_lemma=>kernel_rfl):E P N env [] A .normal [] (bodyPost P fn R):=by
 intro a w hs
 obtain⟨hrun, -⟩:=Pi _ _ _ _ _ _ _ h hv w hs.mem.all
 exact⟨hs.df,v,by rw[VS hk hs];exact hrun,K w hs.mem⟩
end rules
def Yr:List Value→Nat→Env
 | [],_=>[]
 | v :: r,i=>(i,v) :: Yr r (i+1)
theorem Yo:∀ (l:List Value) (i t:Nat) (v:Value),look (Yr l i) t=some v→i≤t∧l[t - i]? = some v
 | [],_,_,_,h=>by simp[Yr,look]at h
 | x :: r,i,t,v,h=>by
  simp only[Yr,look]at h
  cases hb:Nat.beq i t with
  | true=>rw[hb]at h;have:=Nat.eq_of_beq_eq_true hb;subst this;simp at h;simp[h]
  | false =>
   rw[hb]at h
   obtain⟨h1,h2⟩:=Yo r (i+1) t v h
   refine⟨by omega, ?_⟩
   rw[show t - i=(t - (i+1))+1 from by omega];simpa using h2
theorem BV{P:Program}{f:FuncId}{fn:Func}{c:Code}{args:List Value}{w:World}{R:Ending→World→Prop}(N:Nat)(A:AW)(hf:P.funcs[f]? = some fn)(hb:fn.body=some c)(hn:fn.ntmps=N)(hl:Nat.ble args.length N=true)(hs:Sat A w)
   (h:G P N (Yr args 0) [] A c [] (bodyPost P fn R)):Calls P f args.toArray w R:=by
 refine calls_of_wp hf hb (h _ _ ⟨?_,rfl, ?_,hs⟩)
 · have:=Nat.le_of_ble_eq_true hl
   simp[hn];omega
 · intro t v ht
   obtain⟨-,h2⟩:=Yo args 0 t v ht
   have hlt:t<args.length:=(List.getElem?_eq_some_iff.1 h2).1
   simp only[Array.getD_eq_getD_getElem?]
   rw[Array.getElem?_append_left (by simpa using hlt)]
   simp at h2 ⊢
   rw[h2];rfl
abbrev pt(b:Nat):Value:= .pointer (some ⟨b,0,none⟩)
abbrev i6(n:Int):Value:= .int .i64 n
abbrev bk(b:Nat)(cs:Array Value)(t:TypeId):Ch:= .blk b (.cells cs t (0,0)) true
abbrev a1(i:Nat):OC:=⟨.auto [.at i],none⟩
abbrev an(n i:Nat):OC:=⟨.auto (List.replicate n (.at i)),none⟩
inductive Vt where
 | code (c:Code)
 | out (e:Exit)
 | reg (os:Array Oper) (l:List Oper)
inductive Seg where
 | ops (os:Array Oper) (l:List Oper)
 | cnd (x:Operand) (b lit:Bool)
abbrev Stp:=Option (List Seg×Vt×List Kt×List Nat)
def step1:Vt→List Kt→List Nat→Stp
 | .code c,s,bs=>match c with
  | .seq x y=>some ([],.code x,.seq y :: s,bs)
  | .skip=>some ([],.out .normal,s,bs)
  | .label _=>some ([],.out .normal,s,bs)
  | .block id c=>some ([],.code c,.blk id :: s,bs)
  | .region _ os false=>some ([],.reg os os.toList,s,bs)
  | .exit id=>some ([],.out (.exit id),s,bs)
  | .ret=>some ([],.out .ret,s,bs)
  | .cond x c d=>match bs with
   | 0 :: bs=>some ([.cnd x false true],.code d,s,bs)
   | 1 :: bs=>some ([.cnd x true true],.code c,s,bs)
   | 2 :: bs=>some ([.cnd x false false],.code d,s,bs)
   | 3 :: bs=>some ([.cnd x true false],.code c,s,bs)
   | _=>none
  | _=>none
 | .reg os l,s,bs=>some ([.ops os l],.out .normal,s,bs)
 | .out .normal,.seq c :: s,bs=>some ([],.code c,s,bs)
 | .out .normal,.blk _ :: s,bs=>some ([],.out .normal,s,bs)
 | .out (.exit id),.seq _ :: s,bs=>some ([],.out (.exit id),s,bs)
 | .out (.exit id),.inv _ :: s,bs=>some ([],.out (.exit id),s,bs)
 | .out (.exit id),.blk id' :: s,bs=>match Nat.beq id id' with
  | true=>some ([],.out .normal,s,bs)
  | false=>some ([],.out (.exit id),s,bs)
 | _,_,_=>none
def path:Nat→Nat→List Nat→Vt→List Kt→Option (List Seg×Vt×List Kt)
 | 0,last,_,p,s=>match last with
  | 0=>some ([],p,s)
  | k+1=>match p with
   | .reg os l=>some ([.ops os (l.take (k+1))],.reg os (l.drop (k+1)),s)
   | _=>none
 | n+1,last,bs,p,s=>match step1 p s bs with
  | some (sg,p',s',bs')=>match path n last bs' p' s' with
   | some (sgs,r)=>some (sg++sgs,r)
   | none=>none
  | none=>none
def Ia(P:Program)(N:Nat):List Seg→List (List OC)→Env→AW→NW
 | [],[],env,A=>some ([],env,A)
 | .ops os l :: r,cs :: css,env,A=>match NQ P N os l.length cs l env A with
  | some (vs,env',A')=>(Ia P N r css env' A').and vs
  | none=>none
 | .cnd x b lit :: r,css,env,A=>match known env x with
  | true=>match lit with
   | false=>(Ia P N r css env A).and [GR env x = .bool b]
   | true=>match GR env x,b with
    | .bool true,true=>Ia P N r css env A
    | .bool false,false=>Ia P N r css env A
    | _,_=>none
  | false=>none
 | _,_,_,_=>none
section
variable {P:Program}{N:Nat}{ds:List Deferred}{Q:Exit→Act→World→Prop}
abbrev Gl(P:Program)(N:Nat)(env:Env)(ds:List Deferred)(A:AW)(p:Vt)(s:List Kt)(Q:Exit→Act→World→Prop):Prop:=match p with
 | .code c=>G P N env ds A c s Q
 | .out e=>E P N env ds A e s Q
 | .reg os l=>Lg P N env ds A os l s Q
theorem YU{p p':Vt}{s s':List Kt}{bs bs':List Nat}{sg:List Seg}(h:step1 p s bs=some (sg,p',s',bs')) :
   ∀ (css css':List (List OC)) (env env':Env) (A A':AW) (vs:List Prop) (r:List Seg),Ia P N (sg++r) css env A=some (vs,env',A')→Gu vs →
     (∀ (css2:List (List OC)) (env2:Env) (A2:AW) (vs2:List Prop),Ia P N r css2 env2 A2=some (vs2,env',A')→Gu vs2→Gl P N env2 ds A2 p' s' Q)→Gl P N env ds A p s Q:=by
 intro css css' env env' A A' vs r hr hv K
 unfold step1 at h
 split at h
 · rename_i c s0 bs0
   split at h
   · cases h;exact CP (K _ _ _ _ hr hv)
   · cases h;exact g_skip (K _ _ _ _ hr hv)
   · cases h;exact g_label (K _ _ _ _ hr hv)
   · cases h;exact g_block (K _ _ _ _ hr hv)
   · cases h;exact g_region (K _ _ _ _ hr hv)
   · cases h;exact g_exit (K _ _ _ _ hr hv)
   · cases h;exact g_ret (K _ _ _ _ hr hv)
   · have key:∀ (x:Operand) (b lit:Bool),Ia P N ([.cnd x b lit]++r) css env A=some (vs,env',A')→known env x=true∧GR env x = .bool b∧∃ vs2,Ia P N r css env A=some (vs2,env',A')∧Gu vs2:=by
       intro x b lit hr
       simp only[List.cons_append,List.nil_append,Ia]at hr
       split at hr
       · rename_i hk
         split at hr
         · obtain⟨qs,h1,rfl⟩:=NW.EQ hr
           rw[CZ]at hv
           exact⟨hk,hv.1.1,qs,h1,hv.2⟩
         · split at hr
           · rename_i he;exact⟨hk,he,vs,hr,hv⟩
           · rename_i he;exact⟨hk,he,vs,hr,hv⟩
           · cases hr
       · cases hr
     split at h
     · cases h
       obtain⟨h1,h2,vs2,h3,h4⟩:=key _ _ _ hr
       exact Xh (K _ _ _ _ h3 h4) h2 h1
     · cases h
       obtain⟨h1,h2,vs2,h3,h4⟩:=key _ _ _ hr
       exact g_true (K _ _ _ _ h3 h4) h2 h1
     · cases h
       obtain⟨h1,h2,vs2,h3,h4⟩:=key _ _ _ hr
       exact Xh (K _ _ _ _ h3 h4) h2 h1
     · cases h
       obtain⟨h1,h2,vs2,h3,h4⟩:=key _ _ _ hr
       exact g_true (K _ _ _ _ h3 h4) h2 h1
     · cases h
   · cases h
 · rename_i os l
   cases h
   cases css with
   | nil=>simp[Ia]at hr
   | cons cs css =>
     simp only[List.cons_append,List.nil_append,Ia]at hr
     split at hr
     · rename_i vs1 e1 A1 h1
       obtain⟨qs,h2,rfl⟩:=NW.EQ hr
       rw[CZ]at hv
       refine RU l.length cs l env A vs1 e1 A1 h1 hv.1 (fun _ a w hs => ?_)
       rw[List.drop_length]
       exact K _ _ _ _ h2 hv.2 a w hs
     · cases hr
 · cases h;exact UI (K _ _ _ _ hr hv)
 · cases h;exact e_blk (K _ _ _ _ hr hv)
 · cases h;exact e_out (K _ _ _ _ hr hv)
 · cases h;exact e_outI (K _ _ _ _ hr hv)
 · split at h
   · rename_i hb
     cases h
     have:=Nat.eq_of_beq_eq_true hb
     subst this
     exact e_hit (K _ _ _ _ hr hv)
   · rename_i hb
     cases h
     exact e_miss hb (K _ _ _ _ hr hv)
 · cases h
theorem ZI:∀ (n last:Nat) (bs:List Nat) (p p':Vt) (s s':List Kt) (sgs:List Seg),path n last bs p s=some (sgs,p',s') →
   ∀ (css:List (List OC)) (env env':Env) (A A':AW) (vs:List Prop),Ia P N sgs css env A=some (vs,env',A')→Gu vs→Gl P N env' ds A' p' s' Q→Gl P N env ds A p s Q:=by
 intro n
 induction n with
 | zero =>
   intro last bs p p' s s' sgs h css env env' A A' vs hr hv K
   unfold path at h
   split at h
   · cases h
     cases css with
     | nil=>simp only[Ia,Option.some.injEq,Prod.mk.injEq]at hr;obtain⟨-,rfl,rfl⟩:=hr;exact K
     | cons c cs=>simp[Ia]at hr
   · rename_i k
     split at h
     · rename_i os l
       cases h
       cases css with
       | nil=>simp[Ia]at hr
       | cons cs css =>
         simp only[Ia]at hr
         split at hr
         · rename_i vs1 e1 A1 h1
           obtain⟨qs,h2,rfl⟩:=NW.EQ hr
           rw[CZ]at hv
           cases css with
           | nil =>
             simp only[Ia,Option.some.injEq,Prod.mk.injEq]at h2
             obtain⟨-,rfl,rfl⟩:=h2
             have hlen:(l.take (k+1)).length=min (k+1) l.length:=List.length_take
             by_cases hkl:k+1≤l.length
             · have h3:=listA_take (P:=P) (N:=N) (ops:=os) (k+1) cs l env A hkl
               rw[hlen,Nat.min_eq_left hkl,h3]at h1
               exact RU (k+1) cs l env A vs1 _ _ h1 hv.1 (fun _=>K)
             · have ht:l.take (k+1)=l:=List.take_of_length_le (by omega)
               have hd:l.drop (k+1)=l.drop l.length:=by rw[List.drop_of_length_le (by omega),List.drop_length]
               rw[ht]at h1
               refine RU l.length cs l env A vs1 _ _ h1 hv.1 (fun _ => ?_)
               rw[←hd];exact K
           | cons c cs=>simp[Ia]at h2
         · cases hr
     · cases h
 | succ n ih =>
   intro last bs p p' s s' sgs h css env env' A A' vs hr hv K
   unfold path at h
   split at h
   · rename_i sg p1 s1 bs1 h1
     split at h
     · rename_i sgs2 r h2
       cases h
       exact YU h1 css css env env' A A' vs sgs2 hr hv (fun css2 env2 A2 vs2 hr2 hv2=>ih last bs1 p1 p' s1 s' sgs2 h2 css2 env2 env' A2 A' vs2 hr2 hv2 K)
     · cases h
   · cases h
where
 listA_take:∀ {P:Program} {N:Nat} {ops:Array Oper} (m:Nat) (cs:List OC) (l:List Oper) (env:Env) (A:AW),m≤l.length→NQ P N ops m cs (l.take m) env A=NQ P N ops m cs l env A
  | P,N,ops,0,cs,l,env,A,_=>by cases cs <;> simp[NQ]
  | P,N,ops,m+1,cs,[],env,A,h=>by simp at h
  | P,N,ops,m+1,cs,o :: l,env,A,h=>by
   have h':m≤l.length:=by simpa using h
   rw[List.take_succ_cons]
   simp only[NQ]
   have ih:=fun cs env A=>listA_take (P:=P) (N:=N) (ops:=ops) m cs l env A h'
   simp only[ih]
def UA(P:Program)(N:Nat)(sgs:List Seg)(css:List (List OC))(keep:List Nat)(env:Env)(A:AW):NW:=match Ia P N sgs css env A with
 | some (vs,e,A')=>some (vs,Lj keep e,A')
 | none=>none
theorem gl_keep{env env':Env}{A:AW}{p:Vt}{s:List Kt}{keep:List Nat}(h:Lj keep env=env')(K:Gl P N env' ds A p s Q):Gl P N env ds A p s Q:=by
 cases p <;> exact fun a w hs=>K a w (hs.sub (fun t v ht=>JS (by rw[h];exact ht)))
abbrev Vl(env:Env):List Nat:=env.map (·.1)
theorem UO{p p':Vt}{s s':List Kt}{sgs:List Seg}{env:Env}{A:AW}(n last:Nat)(bs:List Nat)(css:List (List OC))(keep:List Nat)(vs:List Prop)(env':Env)(A':AW)(hp:path n last bs p s=some (sgs,p',s'))(hv:Gu vs)(K:Gl P N env' ds A' p' s' Q)(h:UA P N sgs css keep env A=some (vs,env',A')):Gl P N env ds A p s Q:=by
 unfold UA at h
 split at h
 ·rename_i vs' e A1 h1
  simp only[Option.some.injEq,Prod.mk.injEq]at h
  obtain⟨rfl,rfl,rfl⟩:=h
  exact ZI n last bs p p' s s' sgs hp css env e A _ _ h1 hv (gl_keep rfl K)
 cases h
variable {env:Env}{A:AW}{p':Vt}{s s':List Kt}{sgs:List Seg}
theorem q_c{c:Code}(n last:Nat)(bs:List Nat)(css:List (List OC))(vs:List Prop)(env':Env)(A':AW)(hp:path n last bs (.code c) s=some (sgs,p',s'))(hv:Gu vs)(K:Gl P N env' ds A' p' s' Q)(h:UA P N sgs css (Vl env') env A=some (vs,env',A'):=by as_aux_lemma=>kernel_rfl):G P N env ds A c s Q:=UO (p:= .code c) n last bs css _ vs env' A' hp hv K h
theorem A8{c:Code}(n last:Nat)(bs:List Nat)(css:List (List OC))(vs:List Prop)(env':Env)(hp:path n last bs (.code c) s=some (sgs,p',s'))(hv:Gu vs)(K:Gl P N env' ds A p' s' Q)(h:UA P N sgs css (Vl env') env A=some (vs,env',A):=by as_aux_lemma=>kernel_rfl):G P N env ds A c s Q:=UO (p:= .code c) n last bs css _ vs env' A hp hv K h
theorem q_o{e:Exit}(n last:Nat)(bs:List Nat)(css:List (List OC))(vs:List Prop)(env':Env)(A':AW)(hp:path n last bs (.out e) s=some (sgs,p',s'))(hv:Gu vs)(K:Gl P N env' ds A' p' s' Q)(h:UA P N sgs css (Vl env') env A=some (vs,env',A'):=by as_aux_lemma=>kernel_rfl):E P N env ds A e s Q:=UO (p:= .out e) n last bs css _ vs env' A' hp hv K h
theorem Ja{e:Exit}(n last:Nat)(bs:List Nat)(css:List (List OC))(vs:List Prop)(env':Env)(hp:path n last bs (.out e) s=some (sgs,p',s'))(hv:Gu vs)(K:Gl P N env' ds A p' s' Q)(h:UA P N sgs css (Vl env') env A=some (vs,env',A):=by as_aux_lemma=>kernel_rfl):E P N env ds A e s Q:=UO (p:= .out e) n last bs css _ vs env' A hp hv K h
theorem Hu{os:Array Oper}{l:List Oper}(n last:Nat)(bs:List Nat)(css:List (List OC))(vs:List Prop)(env':Env)(A':AW)(hp:path n last bs (.reg os l) s=some (sgs,p',s'))(hv:Gu vs)(K:Gl P N env' ds A' p' s' Q)(h:UA P N sgs css (Vl env') env A=some (vs,env',A'):=by as_aux_lemma=>kernel_rfl):Lg P N env ds A os l s Q:=UO (p:= .reg os l) n last bs css _ vs env' A' hp hv K h
theorem Di{os:Array Oper}{l:List Oper}(n last:Nat)(bs:List Nat)(css:List (List OC))(vs:List Prop)(env':Env)(hp:path n last bs (.reg os l) s=some (sgs,p',s'))(hv:Gu vs)(K:Gl P N env' ds A p' s' Q)(h:UA P N sgs css (Vl env') env A=some (vs,env',A):=by as_aux_lemma=>kernel_rfl):Lg P N env ds A os l s Q:=UO (p:= .reg os l) n last bs css _ vs env' A hp hv K h
end
section
variable {P:Program}{ops:Array Oper}{Q:Exit→Act→World→Prop}{md:Region.Mode}{C:World→Prop}{late:Nat}
def Closed(md:Region.Mode)(ops:Array Oper)(listed:Array Bool):Prop :=
 (∀ j oj,ops[j]? = some oj→listed.getD j false=true→∀ e∈oj.after,Region.binds md e=true→listed.getD e.on false=true)∧∀ j,listed.getD j false=true→j<ops.size
def Zc(md:Region.Mode)(ops:Array Oper):Nat→Nat→List Nat
 | 0,_=>[]
 | f+1,j=>match ops[j]? with
  | none=>[]
  | some o=>o.after.toList.flatMap fun e=>if Region.binds md e then e.on :: Zc md ops f e.on else[]
theorem Z4{listed:Array Bool}(hc:Closed md ops listed):∀ (f j:Nat) (o:Oper),ops[j]? = some o→(∀ e∈o.after,Region.binds md e=true→listed.getD e.on false=true)→∀ m∈Zc md ops f j,listed.getD m false=true:=by
 intro f
 induction f with
 | zero=>intro j o _ _ m hm;simp[Zc]at hm
 | succ f ih =>
  intro j o ho ha m hm
  simp only[Zc,ho,List.mem_flatMap]at hm
  obtain⟨e,he,hm⟩:=hm
  have he':e∈o.after:=by simpa using he
  split at hm
  ·rename_i hb
   have h1:=ha e he' hb
   rcases List.mem_cons.1 hm with rfl | hm
   ·exact h1
   cases hoe:ops[e.on]? with
   | none=>cases f <;> simp[Zc,hoe]at hm
   | some oe=>exact ih e.on oe hoe (hc.1 e.on oe hoe h1) m hm
  cases hm
theorem NR{listed:Array Bool}{i:Nat}(hc:Closed md ops listed)(hi:i∈Region.ready md ops listed):Closed md ops (listed.setIfInBounds i true):=by
 obtain⟨-,o,ho,hall⟩:=mem_ready.1 hi
 refine⟨?_,fun j hl => ?_⟩
 ·intro j oj hj hl e he hb
  by_cases hij:i=j
  ·subst hij
   rw[hj]at ho;cases ho
   exact getD_set_true (hall e he hb)
  rw[getD_set_ne false hij]at hl
  exact getD_set_true (hc.1 j oj hj hl e he hb)
 by_cases hij:i=j
 ·subst hij;exact(Array.getElem?_eq_some_iff.1 ho).1
 rw[getD_set_ne false hij]at hl
 exact hc.2 j hl
def Kw(P:Program)(md:Region.Mode)(ops:Array Oper)(Q:Exit→Act→World→Prop)(late:Nat)(C:World→Prop):Nat→Array Bool→Act→World→Prop
 | 0,listed,a,w=>Region.ready md ops listed=[]∧Q .normal a w
 | fuel+1,listed,a,w =>
  (Region.ready md ops listed=[]→Q .normal a w) ∧
  ∀ i∈Region.ready md ops listed,wpOp P ops Q i (fun a' w'=>((listed.setIfInBounds i true).getD late false=false→C w')∧Kw P md ops Q late C fuel (listed.setIfInBounds i true) a' w') a w
def ahead(md:Region.Mode)(ops:Array Oper)(late i:Nat):Bool:=Nat.ble ops.size late||(Zc md ops ops.size late).contains i
theorem TW{i:Nat}{oi:Oper}{listed:Array Bool}(hl:ahead md ops late i=true)(hi:ops[i]? = some oi)(hc:Closed md ops listed)(hr:i∈Region.ready md ops listed):listed.getD late false=false:=by
 cases hb:listed.getD late false with
 | false=>rfl
 | true =>
  exfalso
  have hlt:=hc.2 late hb
  unfold ahead at hl
  rcases Bool.or_eq_true_iff.1 hl with hl | hl
  ·have h1:=Nat.le_of_ble_eq_true hl
   omega
  have h0:=(mem_ready.1 hr).1
  have h1:=Z4 hc ops.size late ops[late] (by simp[hlt]) (hc.1 late ops[late] (by simp[hlt]) hb) i (by simpa using hl)
  rcases Nat.lt_or_ge i listed.size with h' | h'
  ·simp[h']at h0 h1;rw[h0]at h1;cases h1
  simp[Array.getElem?_eq_none h']at h1
theorem first{i:Nat}{oi:Oper}{v:Value}(hl:ahead md ops late i=true)(hi:ops[i]? = some oi)(hsel:∀ (j:Nat) (o:Oper) cs b,ops[j]? = some o→o.op ≠ .select cs b)
   (hQ:∀ c a w,Q (.panic c) (a.put oi.dst v) w→Q (.panic c) a w) :
   ∀ (fuel:Nat) (listed:Array Bool) (a:Act) (w:World),Closed md ops listed →
     (∀ j oj,ops[j]? = some oj→j≠i→listed.getD j true=false→(∀ e∈oj.after,Region.binds md e=true→e.on≠i)→oi.apart ops oj=true) →
     i∈Region.ready md ops listed→YieldsIf P ops C oi v a→C w→i≠late →
     Kw P md ops Q late C fuel (listed.setIfInBounds i true) (a.put oi.dst v) w→Kw P md ops Q late C (fuel+1) listed a w:=by
 intro fuel
 induction fuel with
 | zero =>
   intro listed a w _ _ hr hy hS hil H
   refine⟨fun h=>(by rw[h]at hr;cases hr),fun j hj => ?_⟩
   by_cases hji:j=i
   · subst hji;exact hy.wpOp hi hS ⟨fun _=>hS,H⟩
   · have:=ready_mono hj hji
     rw[H.1]at this
     cases this
 | succ fuel ih =>
   intro listed a w hcl hfree hr hy hS hil H
   refine⟨fun h=>(by rw[h]at hr;cases hr),fun j hj => ?_⟩
   by_cases hji:j=i
   · subst hji;exact hy.wpOp hi hS ⟨fun _=>hS,H⟩
   · have h1:=H.2 j (ready_mono hj hji)
     obtain⟨hjun,oj,hoj,hall⟩:=mem_ready.1 hj
     have hnot:∀ e∈oj.after,Region.binds md e=true→e.on≠i:=fun e he hb heq=>by
       have h1:=hall e he hb
       have h0:=(mem_ready.1 hr).1
       rw[heq]at h1
       rcases Nat.lt_or_ge i listed.size with h' | h'
       · simp[h']at h0 h1;rw[h0]at h1;cases h1
       · simp[Array.getElem?_eq_none h']at h1
     have hlate:(listed.setIfInBounds j true).getD late false=false:=TW hl hi (NR hcl hj) (ready_mono hr (Ne.symm hji))
     have hlate2:((listed.setIfInBounds i true).setIfInBounds j true).getD late false=(listed.setIfInBounds j true).getD late false∨i=late:=by
       by_cases hil:i=late
       · exact .inr hil
       · left;rw[Array.setIfInBounds_comm _ _ (Ne.symm hji),getD_set_ne false hil]
     have h2:=wpOp_putIf hoj (hfree j oj hoj hji hjun hnot) (fun cs b=>hsel i oi cs b hi) (fun cs b=>hsel j oj cs b hoj) hQ hy h1
     have hfree':∀ k ok,ops[k]? = some ok→k≠i→(listed.setIfInBounds j true).getD k true=false →
         (∀ e∈ok.after,Region.binds md e=true→e.on≠i)→oi.apart ops ok=true:=fun k ok hk hki hun hno=>by
       refine hfree k ok hk hki ?_ hno
       by_cases hjk:j=k
       · subst hjk;exact hjun
       · rw[getD_set_ne true hjk]at hun;exact hun
     refine wpOp_mono (fun a' w' h3 => ?_) h2
     have hCw:C w':=h3.2.1 (by
       rcases hlate2 with e | e
       · rw[e];exact hlate
       · exact absurd e hil)
     refine⟨fun _=>hCw,ih (listed.setIfInBounds j true) a' w' (NR hcl hj) hfree' (ready_mono hr (Ne.symm hji)) h3.1 hCw hil ?_⟩
     rw[Array.setIfInBounds_comm _ _ hji]
     exact h3.2.2
def Quiet(Q:Exit→Act→World→Prop)(e:Exit)(a:Act)(w:World):Prop:=(e = .normal∧Q .normal a w)∨∃ ch,e = .panic ch∧∀ a':Act,a'.tmps.size=a.tmps.size→a'.defers=a.defers→Q (.panic ch) a' w
theorem Ug{a:Act}{w:World}(h:Quiet Q .normal a w):Q .normal a w:=by
 rcases h with h | ⟨ch,e, -⟩
 ·exact h.2
 cases e
theorem Vz{ch:List PanicEntry}{a:Act}{w:World}(h:Quiet Q (.panic ch) a w):Q (.panic ch) a w:=by
 rcases h with h | ⟨ch,e,h⟩
 ·exact absurd h.1 (by simp)
 cases e;exact h a rfl rfl
theorem Xu{ch:List PanicEntry}{a:Act}{w:World}{d:Option Tmp}{v:Value}(h:Quiet Q (.panic ch) (a.put d v) w):Quiet Q (.panic ch) a w:=by
 rcases h with h | ⟨ch,e,h⟩
 ·exact absurd h.1 (by simp)
 refine .inr ⟨ch,e,fun a' h1 h2=>h a' ?_ ?_⟩
 ·cases d <;> simp[Act.put,h1]
 cases d <;> simp[Act.put,h2]
theorem any_plain:∀ (fuel:Nat) (listed:Array Bool) (a:Act) (w:World),Kw P md ops (Quiet Q) late C fuel listed a w→wpAny P md ops Q fuel listed a w:=by
 intro fuel
 induction fuel with
 | zero=>exact fun _ _ _ h=>⟨h.1,Ug h.2⟩
 | succ fuel ih =>
  intro listed a w h
  refine⟨fun h0=>Ug (h.1 h0),fun i hi => ?_⟩
  have h1:=h.2 i hi
  unfold wpOp at h1 ⊢
  cases ho:ops[i]? with
  | none=>simp only[ho]at h1;exact ih _ _ _ h1.2
  | some o =>
   simp only[ho]at h1
   simp only[]
   split
   ·rename_i hw
    simp only[hw,if_true]at h1
    rcases h1 with h1 | ⟨-,a',w',e⟩
    ·left
     unfold Oper.wp at h1 ⊢
     generalize (execOp a.eval o).run P w=r at *
     cases r with
     | ok x w' =>
      cases x <;> simp only[Oper.upon]at h1 ⊢ <;> first
       | exact ih _ _ _ h1.2
       | exact h1
       | exact Calls.mono h1 (fun e w'' he=>by cases e <;> first | exact ih _ _ _ he.2 | exact Vz he | (obtain⟨_,_,⟨e, -⟩ | ⟨_,e, -⟩⟩:=he <;> cases e))
       | exact Rows.mono h1 (fun _ _ he=>ih _ _ _ he.2)
     | halt x w'=>cases x <;> simp only[Oper.upon]at h1 ⊢ <;> first | exact h1 | exact Vz h1
    rcases e with⟨e, -⟩ | ⟨_,e, -⟩ <;> cases e
   rename_i hw
   simp only[hw,Bool.false_eq_true,if_false]at h1
   exact ih _ _ _ h1.2
end
def Cs(σC:List Ch)(w:World):Prop:=∀ c∈σC,c.holds w
def Wg(P:Program)(N:Nat)(env:Env)(ds:List Deferred)(A:AW)(ops:Array Oper)(σC:List Ch)(late fuel:Nat)(listed:List Bool)(s:List Kt)(Q:Exit→Act→World→Prop):Prop :=
 ∀ a w,St N env ds A a w→Closed .any ops listed.toArray→(listed.toArray.getD late false=false→Cs σC w)→Kw P .any ops (Quiet (QQ P s Q)) late (Cs σC) fuel listed.toArray a w
def WO(P:Program)(N:Nat)(env:Env)(ds:List Deferred)(A:AW)(ops:Array Oper)(σC:List Ch)(late fuel:Nat)(listed:List Bool)(s:List Kt)(Q:Exit→Act→World→Prop)(i:Nat):Prop :=
 ∀ a w,St N env ds A a w→Closed .any ops (listed.set i true).toArray→wpOp P ops (Quiet (QQ P s Q)) i (fun a' w'=>((listed.set i true).toArray.getD late false=false→Cs σC w')∧Kw P .any ops (Quiet (QQ P s Q)) late (Cs σC) fuel (listed.set i true).toArray a' w') a w
section
variable {P:Program}{N:Nat}{env:Env}{ds:List Deferred}{A:AW}{ops:Array Oper}{σC:List Ch}{late fuel:Nat}{listed:List Bool}{s:List Kt}{Q:Exit→Act→World→Prop}
def takes(P:Program)(N:Nat)(ops:Array Oper)(σC:List Ch)(w0:World)(late:Nat):List (Nat×OC)→List Bool→Env→Option (List Prop×List Bool×Env)
 | [],listed,env=>some ([],listed,env)
 | (i,c) :: r,listed,env=>match ahead .any ops late i && !Nat.beq i late,Region.free .any ops listed.toArray i,(Region.ready .any ops listed.toArray).contains i,ops[i]? with
  | true,true,true,some o=>match NZ N o.dst,NM ops env o with
   | true,some false=>takes P N ops σC w0 late r (listed.set i true) (JG env o.dst undef)
   | true,some true=>match JZ env o,Qi P true (GR env) o ⟨w0,0,σC⟩ c.k with
    | true,some (vs,v,_)=>match c.asv with
     | none=>match takes P N ops σC w0 late r (listed.set i true) (JG env o.dst v)with
      | some (us,x)=>some (vs++us,x)
      | none=>none
     | some u=>match takes P N ops σC w0 late r (listed.set i true) (JG env o.dst u)with
      | some (us,x)=>some (vs++(v=u) :: us,x)
      | none=>none
    | _,_=>none
   | _,_=>none
  | _,_,_,_=>none
theorem YR(hs:Region.noSelect ops=true){w0:World}:∀ (cs:List (Nat×OC)) (listed:List Bool) (env:Env) (vs:List Prop) (listed':List Bool) (env':Env),
   takes P N ops σC w0 late cs listed env=some (vs,listed',env')→Gu vs→Wg P N env' ds A ops σC late fuel listed' s Q→Wg P N env ds A ops σC late (fuel+cs.length) listed s Q:=by
 intro cs
 induction cs with
 | nil =>
   intro listed env vs listed' env' h hv K
   simp only[takes,Option.some.injEq,Prod.mk.injEq]at h
   obtain⟨-,rfl,rfl⟩:=h
   exact K
 | cons x r ih =>
   obtain⟨i,c⟩:=x
   intro listed env vs listed' env' h hv K a w hst hcl hC
   simp only[takes]at h
   split at h
   · rename_i o hah0 hfr hrd hi
     rw[Bool.and_eq_true]at hah0
     obtain⟨hah,hil0⟩:=hah0
     have hil:i≠late:=fun e=>by subst e;rw[Nat.beq_refl]at hil0;cases hil0
     have hrd':i∈Region.ready .any ops listed.toArray:=by simpa using hrd
     have hC0:=hC (TW hah hi hcl hrd')
     have hQ:∀ v c a w,Quiet (QQ P s Q) (.panic c) (a.put o.dst v) w→Quiet (QQ P s Q) (.panic c) a w:=fun _ _ _ _ h=>Xu h
     have hset:∀ l:List Bool,l.toArray.setIfInBounds i true=(l.set i true).toArray:=fun l=>by simp
     have hcl':Closed .any ops (listed.set i true).toArray:=by rw[←hset];exact NR hcl hrd'
     have go:∀ v,YieldsIf P ops (Cs σC) o v a→Kw P .any ops (Quiet (QQ P s Q)) late (Cs σC) (fuel+r.length) (listed.set i true).toArray (a.put o.dst v) w→Kw P .any ops (Quiet (QQ P s Q)) late (Cs σC) (fuel+(r.length+1)) listed.toArray a w:=by
       intro v hy hw
       exact first (md:= .any) (late:=late) (C:=Cs σC) hah hi (Region.noSelect_spec hs) (hQ v) (fuel+r.length) listed.toArray a w hcl (Region.free_spec hi hfr) hrd' hy hC0 hil (by rw[hset];exact hw)
     split at h
     · rename_i hd hw
       exact go undef (.inr ⟨FK hw hst,rfl⟩) (ih _ _ vs listed' env' h hv K _ _ (hst.put hst.mem _ hd undef) hcl' (fun _=>hC0))
     · rename_i hd hw
       have hw':=FK hw hst
       split at h
       · rename_i vs1 v A1 hk hx
         have hcg:=Jc hst hk
         have hy:Gu vs1→YieldsIf P ops (Cs σC) o v a:=fun h1=> .inl ⟨hw',fun w1 hC1=>by rw[hcg];exact Yg hx h1 hC1⟩
         split at h
         · split at h
           · rename_i us x hx2
             simp only[Option.some.injEq,Prod.mk.injEq]at h
             obtain⟨rfl,rfl,rfl⟩:=h
             rw[CZ]at hv
             exact go v (hy hv.1) (ih _ _ us _ _ hx2 hv.2 K _ _ (hst.put hst.mem _ hd v) hcl' (fun _=>hC0))
           · cases h
         · rename_i u hcas
           split at h
           · rename_i us x hx2
             simp only[Option.some.injEq,Prod.mk.injEq]at h
             obtain⟨rfl,rfl,rfl⟩:=h
             rw[CZ]at hv
             obtain⟨h1,h2,h3⟩:=hv
             have h2':v=u:=h2
             subst h2'
             exact go v (hy h1) (ih _ _ us _ _ hx2 h3 K _ _ (hst.put hst.mem _ hd v) hcl' (fun _=>hC0))
           · cases h
       · cases h
     · cases h
   · cases h
theorem w_take(cs:List (Nat×OC))(keep:List Nat)(vs:List Prop)(listed':List Bool)(env':Env)(hf:Nat.ble cs.length fuel=true)
   (h:(match takes P N ops σC A.w0 late cs listed env with | some (vs,l,e)=>some (vs,l,Lj keep e) | none=>none)=some (vs,listed',env')) (hs:Region.noSelect ops=true) (hv:Gu vs) (K:Wg P N env' ds A ops σC late (fuel - cs.length) listed' s Q):Wg P N env ds A ops σC late fuel listed s Q:=by
 split at h
 · rename_i vs' l e h1
   simp only[Option.some.injEq,Prod.mk.injEq]at h
   obtain⟨rfl,rfl,rfl⟩:=h
   have hle:=Nat.le_of_ble_eq_true hf
   have:=YR (fuel:=fuel - cs.length) hs cs listed env _ _ _ h1 hv (fun a w hst hcl hC=>K a w (hst.sub (fun t v=>JS)) hcl hC)
   rwa [Nat.sub_add_cancel hle]at this
 · cases h
theorem CU(cs:List (Nat×OC))(keep:List Nat)(vs:List Prop)(listed':List Bool)(env':Env)(hv:Gu vs)(K:Wg P N env' ds A ops σC late (fuel - cs.length) listed' s Q)(hf:Nat.ble cs.length fuel=true:=by rfl)(h:(match takes P N ops σC A.w0 late cs listed env with | some (vs,l,e)=>some (vs,l,Lj keep e) | none=>none)=some (vs,listed',env'):=by as_aux_lemma=>kernel_rfl)(hs:Region.noSelect ops=true:=by as_aux_lemma=>kernel_rfl):Wg P N env ds A ops σC late fuel listed s Q:=w_take cs keep vs listed' env' hf h hs hv K
theorem w_all(rs:List Nat)(hr:Region.ready .any ops listed.toArray=rs)(hne:List.isEmpty rs=false)(hf:Nat.ble 1 fuel=true)(h:∀ i∈rs,WO P N env ds A ops σC late (fuel - 1) listed s Q i):Wg P N env ds A ops σC late fuel listed s Q:=by
 intro a w hst hcl hC
 obtain⟨f,rfl⟩:∃ f,fuel=f+1:=⟨fuel - 1,by have:=Nat.le_of_ble_eq_true hf;omega⟩
 refine⟨fun h0 => ?_,fun i hi => ?_⟩
 ·rw[h0]at hr;subst hr;cases hne
 have hset:listed.toArray.setIfInBounds i true=(listed.set i true).toArray:=by simp
 have hcl':Closed .any ops (listed.set i true).toArray:=by rw[←hset];exact NR hcl hi
 rw[hr]at hi
 have:=h i hi a w hst hcl'
 rw[hset];exact this
theorem Rk(rs:List Nat)(h:∀ i∈rs,WO P N env ds A ops σC late (fuel - 1) listed s Q i)(hr:Region.ready .any ops listed.toArray=rs:=by as_aux_lemma=>kernel_rfl)(hne:List.isEmpty rs=false:=by rfl)(hf:Nat.ble 1 fuel=true:=by rfl):Wg P N env ds A ops σC late fuel listed s Q:=w_all rs hr hne hf h
theorem w_done(hr:Region.ready .any ops listed.toArray=[])(K:E P N env ds A .normal s Q):Wg P N env ds A ops σC late fuel listed s Q:=by
 intro a w hst hcl hC
 cases fuel with
 | zero=>exact⟨hr,.inl ⟨rfl,K a w hst⟩⟩
 | succ f=>exact⟨fun _=> .inl ⟨rfl,K a w hst⟩,by rw[hr];simp⟩
theorem D9(K:E P N env ds A .normal s Q)(hr:Region.ready .any ops listed.toArray=[]:=by as_aux_lemma=>kernel_rfl):Wg P N env ds A ops σC late fuel listed s Q:=w_done hr K
def picks:List Nat→List Ch→Option (List Ch)
 | [],_=>some []
 | i :: r,l=>match l[i]?,picks r l with
  | some c,some cs=>some (c :: cs)
  | _,_=>none
theorem Dt:∀ {is:List Nat} {l cs:List Ch},picks is l=some cs→∀ c∈cs,c∈l
 | [],_,_,h,c,hc=>by simp[picks]at h;subst h;cases hc
 | i :: r,l,cs,h,c,hc=>by
  simp only[picks]at h
  split at h
  ·rename_i d ds hd hds
   simp only[Option.some.injEq]at h;subst h
   rcases List.mem_cons.1 hc with rfl | hc
   ·exact List.mem_of_getElem? hd
   exact Dt hds c hc
  cases h
def effA(P:Program)(N:Nat)(ops:Array Oper)(i:Nat)(c:OC)(env:Env)(A:AW):NW:=match ops[i]? with
 | some o=>match NZ N o.dst,NM ops env o,JZ env o,Qi P false (GR env) o A c.k with
  | true,some true,true,some (vs,v,A')=>match c.asv with
   | none=>some (vs,JG env o.dst v,A')
   | some u=>some (vs++[v=u],JG env o.dst u,A')
  | true,some false,_,_=>some ([],JG env o.dst undef,A)
  | _,_,_,_=>none
 | none=>none
theorem cs_of{i:Nat}{A':AW}{w':World}{cix:List Nat}(hcl:Closed .any ops (listed.set i true).toArray)(hC:Nat.beq i late=true∨picks cix A'.σ=some σC)(hi:i<listed.length)(hs:Sat A' w'):(listed.set i true).toArray.getD late false=false→Cs σC w':=by
 intro hl
 rcases hC with hC | hC
 ·have:=Nat.eq_of_beq_eq_true hC
  subst this
  simp[hi]at hl
 exact fun c hc=>hs.all c (Dt hC c hc)
theorem wo_eff{i:Nat}(c:OC)(keep:List Nat)(vs:List Prop)(env':Env)(A':AW)(cix:List Nat)
   (h:(match effA P N ops i c env A with | some (vs,e,A')=>some (vs,Lj keep e,A') | none=>none)=some (vs,env',A')) (hi:Nat.blt i listed.length=true) (hv:Gu vs) (hC:Nat.beq i late=true∨picks cix A'.σ=some σC)
   (K:Wg P N env' ds A' ops σC late fuel (listed.set i true) s Q):WO P N env ds A ops σC late fuel listed s Q i:=by
 intro a w hst hcl
 have hlt:i<listed.length:=by simpa using hi
 split at h
 · rename_i vs' e A1 h1
   simp only[Option.some.injEq,Prod.mk.injEq]at h
   obtain⟨rfl,rfl,rfl⟩:=h
   unfold effA at h1
   unfold wpOp
   split at h1
   · rename_i o ho
     simp only[ho]
     split at h1
     · rename_i vs1 v A2 hd hw hk hx
       have hw':=FK hw hst
       rw[if_pos hw']
       left
       have done:∀ u,e=JG env o.dst u→v=u→Gu vs1→A2=A1→o.wp P a w (fun a' w'=>((listed.set i true).toArray.getD late false=false→Cs σC w')∧Kw P .any ops (Quiet (QQ P s Q)) late (Cs σC) fuel (listed.set i true).toArray a' w') (Quiet (QQ P s Q)):=by
         rintro u rfl rfl hv1 rfl
         obtain⟨w',hy,hsat, -⟩:=Uz hx hv1 hst.mem
         have hcs:=cs_of (listed:=listed) hcl hC hlt hsat
         have hfin:=K _ _ ((hst.put hsat _ hd v).sub (fun t v=>JS)) hcl hcs
         unfold Oper.wp
         rw[Jc hst hk]
         rcases hy with hy | ⟨hy,rfl⟩ <;> rw[hy] <;> exact⟨hcs,hfin⟩
       split at h1
       · simp only[Option.some.injEq,Prod.mk.injEq]at h1
         obtain⟨rfl,rfl,rfl⟩:=h1
         exact done v rfl rfl hv rfl
       · simp only[Option.some.injEq,Prod.mk.injEq]at h1
         obtain⟨rfl,rfl,rfl⟩:=h1
         rw[CZ]at hv
         exact done _ rfl hv.2.1 hv.1 rfl
     · rename_i hd hw
       have hw':=FK hw hst
       simp only[Option.some.injEq,Prod.mk.injEq]at h1
       obtain⟨rfl,rfl,rfl⟩:=h1
       rw[if_neg (by rw[hw'];simp)]
       have hcs:=cs_of (listed:=listed) hcl hC hlt hst.mem
       exact⟨hcs,K _ _ ((hst.put hst.mem _ hd undef).sub (fun t v=>JS)) hcl hcs⟩
     · cases h1
   · cases h1
 · cases h
theorem EJ{i:Nat}(c:OC)(keep:List Nat)(vs:List Prop)(env':Env)(A':AW)(cix:List Nat)(hv:Gu vs)(hC:Nat.beq i late=true∨picks cix A'.σ=some σC)(K:Wg P N env' ds A' ops σC late fuel (listed.set i true) s Q)(h:(match effA P N ops i c env A with | some (vs,e,A')=>some (vs,Lj keep e,A') | none=>none)=some (vs,env',A'):=by as_aux_lemma=>kernel_rfl)(hi:Nat.blt i listed.length=true:=by rfl):WO P N env ds A ops σC late fuel listed s Q i:=wo_eff c keep vs env' A' cix h hi hv hC K
theorem FZ{i:Nat}(cs:List LC)(vs:List Prop)(f:FuncId)(args:Array Value)(d:Option Nat)(h:(match ops[i]? with | some o=>UK P env A cs ops [o] | none=>none)=some (vs,f,args,d))(hd:NZ N d=true)(hi:Nat.blt i listed.length=true)(hv:Gu vs)
   (hc:∀ w,Sat A w→Calls P f args w fun e w'=>∃ v A',e = .returned v∧Sat A' w'∧(Nat.beq i late=true∨Cs σC w')∧Wg P N (JG env d v) ds A' ops σC late fuel (listed.set i true) s Q):WO P N env ds A ops σC late fuel listed s Q i:=by
 intro a w hst hcl
 have hlt:i<listed.length:=by simpa using hi
 split at h
 · rename_i o ho
   simp only[UK]at h
   split at h
   · rename_i vs' f' args' A' hw hk hr
     simp only[Option.some.injEq,Prod.mk.injEq]at h
     obtain⟨rfl,rfl,rfl,rfl⟩:=h
     obtain⟨hrun, -⟩:=Pi _ _ _ _ _ _ _ hr hv w hst.mem.all
     unfold wpOp
     simp only[ho]
     rw[if_pos (FK hw hst)]
     left
     unfold Oper.wp
     rw[Jc hst hk,hrun]
     refine(hc w hst.mem).mono ?_
     rintro e w' ⟨v,A1,rfl,hs1,hC1,K⟩
     have hcs:(listed.set i true).toArray.getD late false=false→Cs σC w':=by
       intro hl
       rcases hC1 with hC1 | hC1
       · have:=Nat.eq_of_beq_eq_true hC1
         subst this
         simp[hlt]at hl
       · exact hC1
     exact⟨hcs,K _ _ (hst.put hs1 _ hd v) hcl hcs⟩
   · cases h
 · cases h
theorem ZM{C C':World→Prop}{late':Nat}{Q:Exit→Act→World→Prop}:∀ (fuel:Nat) (listed:Array Bool) (a:Act) (w:World),listed.getD late false=true→Kw P .any ops Q late' C' fuel listed a w→Kw P .any ops Q late C fuel listed a w:=by
 intro fuel
 induction fuel with
 | zero=>exact fun _ _ _ _ h=>h
 | succ fuel ih =>
  intro listed a w hl h
  refine⟨h.1,fun i hi=>wpOp_mono (fun a' w' h3=>⟨fun hn => ?_,ih _ _ _ (getD_set_true hl) h3.2⟩) (h.2 i hi)⟩
  rw[getD_set_true hl]at hn;cases hn
theorem IA(late':Nat)(cix:List Nat)(σC':List Ch)(hl:listed.toArray.getD late false=true)(hC:picks cix A.σ=some σC')(h:Wg P N env ds A ops σC' late' fuel listed s Q):Wg P N env ds A ops σC late fuel listed s Q :=
 fun a w hst hcl _=>ZM _ _ _ _ hl (h a w hst hcl (fun _ c hc=>hst.mem.all c (Dt hC c hc)))
theorem Fp{id:Nat}(late:Nat)(cix:List Nat)(σC:List Ch)(hm:P.follows .mixedOrders=true)(hC:picks cix A.σ=some σC)(h:Wg P N env ds A ops σC late ops.size (List.replicate ops.size false) s Q):G P N env ds A (.region id ops true) s Q:=by
 intro a w hst
 have hst':St N env ds A a w.drew:=⟨hst.sz,hst.df,hst.kn,hst.mem.drew⟩
 refine wp_region_any hm (any_plain (late:=late) (C:=Cs σC) _ _ _ _ ?_)
 have hr:Array.replicate ops.size false=(List.replicate ops.size false).toArray:=by simp
 rw[hr]
 refine h a w.drew hst' ⟨fun j oj hj hl => ?_,fun j hl => ?_⟩ (fun _ c hc=>hst'.mem.all c (Dt hC c hc))
 all_goals
  rw[Array.getD_eq_getD_getElem?]at hl
  by_cases hlt:j<ops.size <;> simp[List.getElem?_replicate,hlt]at hl
end
end Go.Proofs.Ytlhjneaafhoipaa.Eng
namespace Go.Proofs.Ytlhjneaafhoipaa.Mem
open Go.RowKit
def At(w:World)(b:Nat)(o:Obj):Prop:=w.heap[b]? = some o
section
variable {w:World}{b:Nat}{o:Obj}
theorem At.eq(h:At w b o):w.heap[b]? = some o:=h
theorem At.lt(h:At w b o):b<w.heap.size:=(Array.getElem?_eq_some_iff.1 h).1
theorem At.ne(h:At w b o):b≠w.heap.size:=by have:=h.lt;omega
theorem At.cell{c:Array Value}{t:TypeId}{fr:Nat×Nat}(h:At w b (.cells c t fr)){i:Nat}{v:Value}(hc:c[i]? = some v):w.cell? ⟨b,i,none⟩=some v:=by
 simp[World.cell?,h.eq,hc]
theorem At.free{c:Array Value}{t:TypeId}(h:At w b (.cells c t (0,0)))(i:Nat):w.frozen? ⟨b,i,none⟩=false:=by
 simp[World.frozen?,h.eq]
end
def setRow(i:Nat)(v:Value):Option Obj→Option Obj
 | some (.cells c t fr)=>some (.cells (c.setIfInBounds i v) t fr)
 | x=>x
theorem heap_setCell(w:World)(b i:Nat)(v:Value)(k:Nat):(w.setCell ⟨b,i,none⟩ v).heap[k]? = if b=k then setRow i v w.heap[k]? else w.heap[k]? := by
 simp only[World.setCell,Array.getElem?_modify]
 by_cases h:b=k
 ·subst h
  simp only[if_true]
  cases hk:w.heap[b]? with
  | none=>rfl
  | some o=>cases o <;> simp[setRow]
 simp[h]
theorem heap_alloc(w:World)(o:Obj)(k:Nat):(w.alloc o).heap[k]? = if k=w.heap.size then some o else w.heap[k]? := by
 show(w.heap.push o)[k]? = _
 rw[Array.getElem?_push]
theorem size_setCell(w:World)(a:Addr)(v:Value):(w.setCell a v).heap.size=w.heap.size:=by simp[World.setCell]
theorem size_alloc(w:World)(o:Obj):(w.alloc o).heap.size=w.heap.size+1:=by simp
theorem At.alloc{w:World}{b:Nat}{o:Obj}(h:At w b o)(o':Obj):At (w.alloc o') b o:=by
 unfold At;rw[heap_alloc,if_neg h.ne];exact h
theorem At.new(w:World)(o:Obj):At (w.alloc o) w.heap.size o:=by unfold At;rw[heap_alloc,if_pos rfl]
structure BN(S:Nat→Prop)(w w':World):Prop where
 os:w'.os=w.os
 tape:w'.tape=w.tape
 output:w'.output=w.output
 size:w.heap.size≤w'.heap.size
 block:∀ k,k<w.heap.size→¬ S k→w'.heap[k]? = w.heap[k]?
section
variable {S T:Nat→Prop}{a w w':World}
theorem BN.refl(S:Nat→Prop)(w:World):BN S w w:=⟨rfl,rfl,rfl,Nat.le_refl _,fun _ _ _=>rfl⟩
theorem BN.trans(h:BN S a w)(k:BN T w w')(hT:∀ i,i<a.heap.size→T i→S i):BN S a w' :=
 ⟨k.os.trans h.os,k.tape.trans h.tape,k.output.trans h.output,Nat.le_trans h.size k.size,
  fun i hi hn=>(k.block i (Nat.lt_of_lt_of_le hi h.size) (fun x=>hn (hT i hi x))).trans (h.block i hi hn)⟩
theorem BN.mono(h:BN S a w)(hT:∀ i,i<a.heap.size→S i→T i):BN T a w :=
 ⟨h.os,h.tape,h.output,h.size,fun i hi hn=>h.block i hi (fun x=>hn (hT i hi x))⟩
theorem BN.drew(h:BN S a w):BN S a w.drew:=⟨h.os,h.tape,h.output,h.size,h.block⟩
theorem BN.setCell(h:BN S a w){b i:Nat}{v:Value}(hb:S b∨a.heap.size≤b):BN S a (w.setCell ⟨b,i,none⟩ v) :=
 ⟨h.os,h.tape,h.output,by rw[size_setCell];exact h.size,fun k hk hn=>by
  rw[heap_setCell,if_neg (fun e=>by rcases hb with x | x;exact hn (e ▸ x);omega)];exact h.block k hk hn⟩
theorem BN.alloc(h:BN S a w)(o:Obj):BN S a (w.alloc o) :=
 ⟨h.os,h.tape,h.output,by rw[size_alloc];have:=h.size;omega,fun k hk hn=>by
  rw[heap_alloc,if_neg (by have:=h.size;omega)];exact h.block k hk hn⟩
theorem BN.below(h:BN S w w'){B:Nat}(hB:B≤w.heap.size)(hS:∀ k,k<B→¬ S k):Below B w w' :=
 ⟨h.os,h.tape,h.output,h.size,fun k hk=>h.block k (by omega) (hS k hk)⟩
theorem BN.of_grownBy{row:Option Nat}(h:w.grownBy w' row):BN (fun k=>some k=row) w w' :=
 ⟨h.os,h.tape,h.output,h.size,fun k hk hn=>h.block k hk hn⟩
end
def XN(w:World)(b:Nat)(l:List (Int×Value)):Prop :=
 ∃ es c,At w b (.map es c)∧es.toList.map (fun e=>(e.key,e.val))=l.map (fun x=>(Value.int .i64 x.1,x.2))
theorem XN.at{w:World}{b:Nat}{l:List (Int×Value)}(h:XN w b l):∃ o,At w b o:=by obtain⟨es,c,h,_⟩:=h;exact⟨_,h⟩
theorem XN.lt{w:World}{b:Nat}{l:List (Int×Value)}(h:XN w b l):b<w.heap.size:=by obtain⟨o,h⟩:=h.at;exact h.lt
def find(k:Int):List (Int×Value)→Nat→Option (Nat×Value)
 | [],_=>none
 | x :: r,i=>if k=x.1 then some (i,x.2)else find k r (i+1)
theorem RD{k:Int}:∀ {l:List (Int×Value)} {i:Nat},find k l i=none↔∀ v,(k,v) ∉ l
 | [],_=>by simp[find]
 | x :: l,i=>by
  simp only[find]
  by_cases h:k=x.1
  ·simp only[if_pos h]
   constructor
   ·intro h';cases h'
   intro h';exact absurd (List.mem_cons.2 (.inl (by rw[h]))) (h' x.2)
  rw[if_neg h,RD]
  constructor
  ·intro h' v hm
   rcases List.mem_cons.1 hm with e | e
   ·exact h (by rw[←e])
   exact h' v e
  intro h' v hm;exact h' v (List.mem_cons_of_mem _ hm)
section ops
variable {P:Program}{t tk te:TypeId}{w:World}{b:Nat}{l:List (Int×Value)}
end ops
end Go.Proofs.Ytlhjneaafhoipaa.Mem
namespace Go.Proofs.Ytlhjneaafhoipaa.Eng
open Go Go.Proofs.Ytlhjneaafhoipaa.Mem
set_option linter.unusedSimpArgs false
set_option linter.unusedVariables false
def nodupB:List Nat→Bool
 | []=>true
 | x :: r => !(r.contains x)&&nodupB r
theorem VD:∀ {l:List Nat},nodupB l=true→l.Nodup
 | [],_=>List.nodup_nil
 | x :: r,h=>by
  simp only[nodupB,Bool.and_eq_true,Bool.not_eq_true',List.contains_eq_mem,decide_eq_false_iff_not]at h
  exact List.nodup_cons.2 ⟨h.1,VD h.2⟩
theorem Key.TV{c d:Key}(h:Key.apart c d):Key.apart d c:=fun hr b hb hc=>h (hr.symm) b hc hb
theorem V7{l:List Key}(h:l.Pairwise Key.apart){i j:Nat}{c d:Key}(hi:l[i]? = some c)(hj:l[j]? = some d)(hij:i≠j):Key.apart c d:=by
 obtain⟨hi',rfl⟩:=List.getElem?_eq_some_iff.1 hi
 obtain⟨hj',rfl⟩:=List.getElem?_eq_some_iff.1 hj
 rcases Nat.lt_or_gt_of_ne hij with hlt | hlt
 ·exact List.pairwise_iff_getElem.1 h i j hi' hj' hlt
 exact Key.TV (List.pairwise_iff_getElem.1 h j i hj' hi' hlt)
theorem Ox:∀ {is:List Nat} {l cs:List Ch},picks is l=some cs→∀ c∈cs,∃ i∈is,l[i]? = some c
 | [],_,_,h,c,hc=>by simp[picks]at h;subst h;cases hc
 | i :: r,l,cs,h,c,hc=>by
  simp only[picks]at h
  split at h
  ·rename_i d ds hd hds
   simp only[Option.some.injEq]at h;subst h
   rcases List.mem_cons.1 hc with rfl | hc
   ·exact⟨i,by simp,hd⟩
   obtain⟨j,hj,hl⟩:=Ox hds c hc
   exact⟨j,by simp[hj],hl⟩
  cases h
theorem RQ{l:List Ch}(h:(l.map Ch.key).Pairwise Key.apart):∀ {is:List Nat} {cs:List Ch},is.Nodup→picks is l=some cs→(cs.map Ch.key).Pairwise Key.apart
 | [],_,_,h=>by simp[picks]at h;subst h;simp
 | i :: r,cs,hn,hp=>by
  simp only[picks]at hp
  split at hp
  ·rename_i d ds hd hds
   simp only[Option.some.injEq]at hp;subst hp
   rw[List.nodup_cons]at hn
   simp only[List.map_cons,List.pairwise_cons]
   refine⟨?_,RQ h hn.2 hds⟩
   intro k hk
   obtain⟨c,hc,rfl⟩:=List.mem_map.1 hk
   obtain⟨j,hj,hl⟩:=Ox hds c hc
   exact V7 h (i:=i) (j:=j) (by rw[List.getElem?_map,hd];rfl) (by rw[List.getElem?_map,hl];rfl) (fun e=>hn.1 (e ▸ hj))
  cases hp
theorem Sat.pick{A:AW}{w:World}(h:Sat A w)(is:List Nat){σ':List Ch}(hn:nodupB is=true)(hp:picks is A.σ=some σ'):Sat { A with σ:=σ' } w :=
 ⟨h.os,h.tape,h.output,h.size,fun c hc=>h.all c (Dt hp c hc),fun c hc=>h.bnd c (Dt hp c hc),fun c hc=>h.Oh c (Dt hp c hc),RQ h.Om (VD hn) hp⟩
theorem Sat.exch{A:AW}{w w':World}{M:Nat→Prop}(h:Sat A w)(is:List Nat){kept:List Ch}(hn:nodupB is=true)(hp:picks is A.σ=some kept)(hk:BN M w w')(hM:∀ c∈kept,∀ b,c.F b→¬ M b)(new:List Ch)
   (h1:∀ c∈new,c.holds w'∧c.stable∧∀ b,c.F b→b<w'.heap.size) (h2:(new.map Ch.key).Pairwise Key.apart) (h3:∀ c∈kept,∀ d∈new,Key.apart c.key d.key):Sat { A with n:=w'.heap.size,σ:=kept++new } w':=by
 refine⟨hk.os.trans h.os,hk.tape.trans h.tape,hk.output.trans h.output,rfl, ?_, ?_, ?_, ?_⟩
 · intro c hc
   rcases List.mem_append.1 hc with hc | hc
   · have hm:=Dt hp c hc
     exact h.Oh c hm w w' (fun b hb=>hk.block b (by rw[h.size];exact h.bnd c hm b hb) (hM c hc b hb)) (h.all c hm)
   · exact(h1 c hc).1
 · intro c hc b hb
   rcases List.mem_append.1 hc with hc | hc
   · have:=h.bnd c (Dt hp c hc) b hb
     have h2:=hk.size
     rw[h.size]at h2
     show b<w'.heap.size
     omega
   · exact(h1 c hc).2.2 b hb
 · intro c hc
   rcases List.mem_append.1 hc with hc | hc
   · exact h.Oh c (Dt hp c hc)
   · exact(h1 c hc).2.1
 · show((kept++new).map Ch.key).Pairwise Key.apart
   rw[List.map_append,List.pairwise_append]
   refine⟨RQ h.Om (VD hn) hp,h2, ?_⟩
   intro x hx y hy
   obtain⟨c,hc,rfl⟩:=List.mem_map.1 hx
   obtain⟨d,hd,rfl⟩:=List.mem_map.1 hy
   exact h3 c hc d hd
theorem Sat.keeps{A:AW}{w w':World}(h:Sat A w)(hk:BN (fun _=>False) w w'):Sat { A with n:=w'.heap.size } w':=by
 refine⟨hk.os.trans h.os,hk.tape.trans h.tape,hk.output.trans h.output,rfl,fun c hc => ?_,fun c hc b hb => ?_,h.Oh,h.Om⟩
 ·exact h.Oh c hc w w' (fun b hb=>hk.block b (by rw[h.size];exact h.bnd c hc b hb) id) (h.all c hc)
 have:=h.bnd c hc b hb
 have h2:=hk.size
 rw[h.size]at h2
 show b<w'.heap.size
 omega
theorem Sat.keeps1{A:AW}{w w':World}(h:Sat A w)(hk:BN (fun _=>False) w w')(c:Ch)(hc:c.holds w')(hst:c.stable)(hF:∀ b,c.F b→A.n≤b∧b<w'.heap.size):Sat { A with n:=w'.heap.size,σ:=A.σ++[c] } w':=by
 have h':=h.keeps hk
 refine⟨h'.os,h'.tape,h'.output,rfl, ?_, ?_, ?_, ?_⟩
 ·intro d hd
  rcases List.mem_append.1 hd with hd | hd
  ·exact h'.all d hd
  simp only[List.mem_singleton]at hd;subst hd;exact hc
 ·intro d hd b hb
  rcases List.mem_append.1 hd with hd | hd
  ·exact h'.bnd d hd b hb
  simp only[List.mem_singleton]at hd;subst hd;exact(hF b hb).2
 ·intro d hd
  rcases List.mem_append.1 hd with hd | hd
  ·exact h'.Oh d hd
  simp only[List.mem_singleton]at hd;subst hd;exact hst
 show((A.σ++[c]).map Ch.key).Pairwise Key.apart
 rw[List.map_append,List.pairwise_append]
 refine⟨h.Om,by simp, ?_⟩
 intro x hx y hy _ b hb hb'
 simp only[List.map_cons,List.map_nil,List.mem_singleton]at hy
 subst hy
 obtain⟨d,hd,rfl⟩:=List.mem_map.1 hx
 have h1:=h.bnd d hd b hb
 have h2:=(hF b hb').1
 omega
def old(S:Nat→Prop)(w:World):Ch:= .inv (fun b=>b<w.heap.size∧¬ S b) (fun w'=>∀ b,b<w.heap.size→¬ S b→w'.heap[b]? = w.heap[b]?) false
theorem Zn(S:Nat→Prop)(w:World):(old S w).stable:=fun w1 w2 h hw b hb hS=>(h b ⟨hb,hS⟩).trans (hw b hb hS)
theorem sat_old(w:World):Sat ⟨w,w.heap.size,[old (fun _=>False) w]⟩ w:=by
 refine⟨rfl,rfl,rfl,rfl, ?_, ?_, ?_,by simp⟩
 ·intro c hc;simp only[List.mem_singleton]at hc;subst hc;exact fun _ _ _=>rfl
 ·intro c hc b hb;simp only[List.mem_singleton]at hc;subst hc;exact hb.1
 intro c hc;simp only[List.mem_singleton]at hc;subst hc;exact Zn _ _
theorem Sat.back{A:AW}{w0 w:World}{S:Nat→Prop}(h:Sat A w)(hw:A.w0=w0)(hn:w0.heap.size≤A.n)(hin:old S w0∈A.σ):BN S w0 w:=by
 subst hw
 refine⟨h.os,h.tape,h.output,by rw[h.size];exact hn,fun b hb hS => ?_⟩
 exact h.all _ hin b hb hS
theorem Dx{A:AW}{w w':World}{S:Nat→Prop}(h:Sat A w)(hk:BN S w w'):A.n≤w'.heap.size:=by have:=hk.size;rw[h.size]at this;exact this
theorem H5{P:Program}{N:Nat}{env:Env}{ds:List Deferred}{A:AW}{ops:Array Oper}{l:List Oper}{s:List Kt}{Q:Exit→Act→World→Prop}(f:FuncId)(args:Array Value)(d:Option Nat)(v:Value)(hc:∀ w,Sat A w→Calls P f args w fun e w'=>e = .returned v∧BN (fun _=>False) w w')(K:∀ n,A.n≤n→Lg P N (JG env d v) ds { A with n:=n } ops (l.drop 1) s Q)(h:UK P env A [] ops l=some ([],f,args,d):=by as_aux_lemma=>kernel_rfl)(hd:NZ N d=true:=by kernel_rfl):Lg P N env ds A ops l s Q :=
 l_call [] [] f args d trivial (fun w hw=>(hc w hw).mono fun e w' ⟨he,hk⟩=>⟨v,{ A with n:=w'.heap.size },he,hw.keeps hk,K _ (Dx hw hk)⟩) h hd
theorem Bg{w w':World}{n:Nat}{S:Nat→Prop}{σ:List Ch}(h:Sat ⟨w,n,old S w :: σ⟩ w')(hn:w.heap.size≤n:=by omega):BN S w w':=h.back rfl hn (List.mem_cons_self ..)
theorem old_cell{S:Nat→Prop}{w:World}{b k:Nat}{v:Value}(h:w.cell? ⟨b,k,none⟩=some v)(hS:¬ S b):∀ w',(old S w).holds w'→w'.cell? ⟨b,k,none⟩=some v:=by
 intro w' hw
 have hlt:b<w.heap.size:=by
  simp only[World.cell?]at h
  split at h
  ·rename_i hb;exact(Array.getElem?_eq_some_iff.1 hb).1
  cases h
 rw[←h]
 simp only[World.cell?]
 rw[hw b hlt hS]
theorem BA{w:World}{b k:Nat}{v:Value}(h:w.cell? ⟨b,k,none⟩=some v):∀ w',(old (fun _=>False) w).holds w'→w'.cell? ⟨b,k,none⟩=some v:=old_cell h id
def NV(base:Nat)(e:TypeId)(size:Nat)(v:Value)(n:Nat)(xs:List Value):Ch:= .inv (fun b=>v.ownBlock=some b) (fun w=>w.ownsRow base e size v n xs) true
theorem MH(base:Nat)(e:TypeId)(size:Nat)(v:Value)(n:Nat)(xs:List Value):(NV base e size v n xs).stable:=by
 intro w w' h hw
 refine⟨hw.1, ?_⟩
 rcases hw.2 with hn | ⟨g,cap,cur,rfl,hb,hgg,rest⟩
 ·exact .inl hn
 exact .inr ⟨g,cap,cur,rfl,hb,(h g (by simp[NV,Ch.F,Value.ownBlock])).trans hgg,rest⟩
theorem Sat.more{A:AW}{w:World}(h:Sat A w)(c:Ch)(hc:c.holds w)(hst:c.stable)(hF:∀ b,¬ c.F b):Sat { A with σ:=A.σ++[c] } w:=by
 refine⟨h.os,h.tape,h.output,h.size, ?_, ?_, ?_, ?_⟩
 ·intro d hd
  rcases List.mem_append.1 hd with hd | hd
  ·exact h.all d hd
  simp only[List.mem_singleton]at hd;subst hd;exact hc
 ·intro d hd b hb
  rcases List.mem_append.1 hd with hd | hd
  ·exact h.bnd d hd b hb
  simp only[List.mem_singleton]at hd;subst hd;exact absurd hb (hF b)
 ·intro d hd
  rcases List.mem_append.1 hd with hd | hd
  ·exact h.Oh d hd
  simp only[List.mem_singleton]at hd;subst hd;exact hst
 show((A.σ++[c]).map Ch.key).Pairwise Key.apart
 rw[List.map_append,List.pairwise_append]
 refine⟨h.Om,by simp, ?_⟩
 intro x hx y hy _ b hb hb'
 simp only[List.map_cons,List.map_nil,List.mem_singleton]at hy
 subst hy
 exact hF b hb'
theorem Sat.row{A:AW}{w:World}(h:Sat A w)(base:Nat)(e:TypeId)(size:Nat):Sat { A with σ:=A.σ++[NV base e size (.slice none 0 0) 0 []] } w :=
 h.more _ (World.ownsRow_nil w base e size) (MH _ _ _ _ _ _) (fun b hb=>by simp[NV,Ch.F,Value.ownBlock]at hb)
section
variable {P:Program}{N:Nat}{env:Env}{ds:List Deferred}{A:AW}{ops:Array Oper}{l:List Oper}{s:List Kt}{Q:Exit→Act→World→Prop}{c:Code}
theorem l_row(base:Nat)(e:TypeId)(size:Nat)(h:Lg P N env ds { A with σ:=A.σ++[NV base e size (.slice none 0 0) 0 []] } ops l s Q):Lg P N env ds A ops l s Q:=fun a w hs=>h a w ⟨hs.sz,hs.df,hs.kn,hs.mem.row base e size⟩
theorem g_row(base:Nat)(e:TypeId)(size:Nat)(h:G P N env ds { A with σ:=A.σ++[NV base e size (.slice none 0 0) 0 []] } c s Q):G P N env ds A c s Q:=fun a w hs=>h a w ⟨hs.sz,hs.df,hs.kn,hs.mem.row base e size⟩
theorem BO{x:Exit}(is:List Nat)(σ':List Ch)(hn:nodupB is=true)(hp:picks is A.σ=some σ')(h:E P N env ds { A with σ:=σ' } x s Q):E P N env ds A x s Q:=fun a w hs=>h a w ⟨hs.sz,hs.df,hs.kn,hs.mem.pick is hn hp⟩
theorem Dp{x:Exit}(keep:List Nat)(env':Env)(K:E P N env' ds A x s Q)(h:Lj keep env=env':=by as_aux_lemma=>kernel_rfl):E P N env ds A x s Q:=fun a w hs=>K a w (hs.sub (fun t v ht=>JS (by rw[h];exact ht)))
theorem row_slice{w:World}{base:Nat}{e:TypeId}{size n:Nat}{v:Value}{xs:List Value}(h:w.ownsRow base e size v n xs):∃ a cap,v = .slice a n cap:=by
 rcases h.2 with⟨rfl,rfl⟩ | ⟨g,cap,cur,rfl, -⟩
 ·exact⟨none,0,rfl⟩
 exact⟨_,cap,rfl⟩
theorem VV{base:Nat}{ρ:Operand→Value}{o:Oper}{x y:Operand}{t e:TypeId}{f:TypeInfo}{z:Value}{i:Nat}{v:Value}{n:Nat}{xs:List Value}{ad:Addr}{m cp:Nat}{news:List Value}
   (ho:o.op = .call { callee:= .builtin .append,args:= #[x,y],argTypes:= #[t,t] }) (ht:P.underlying t=some (.slice e)) (hf:P.info? e=some f) (hz:f.zero=some z) (hzs:z.cells.size=f.size) (hsz:0<f.size)
   (hi:A.σ[i]? = some (NV base e f.size v n xs)) (hx:ρ x=v) (hy:ρ y = .slice (some ad) m cp) (hl:news.length=m*f.size) (h1:∀ u∈news,u.oneCell'=true) {w:World} (hs:Sat A w) (hnews:∀ j u,news[j]? = some u→w.cell? (ad.add j)=some u)
   (h63:n+m≤maxLen) (hb:(n+m)*f.bytes≤140737488355328) (hbase:base≤A.n) :
   ∃ a' cap' w',(execOp ρ o).run P w = .ok (.value (.slice a' (n+m) cap')) w'∧A.n≤w'.heap.size∧Sat { A with n:=w'.heap.size,σ:=A.σ.set i (NV base e f.size (.slice a' (n+m) cap') (n+m) (xs++news)) } w':=by
 have hown:w.ownsRow base e f.size v n xs:=hs.at hi
 obtain⟨v',w',hr,ho',hg, -,hat⟩:=run_append_own_at (P:=P) w base t o.type e f z f.size f.bytes ht hf hz rfl rfl hzs hsz v n xs hown ad m cp news hl hnews h1 h63 hb (by rw[hs.size];exact hbase)
 obtain⟨a',cap',rfl⟩:=row_slice ho'
 have hk:BN (fun k=>some k=v.ownBlock) w w':=BN.of_grownBy hg
 have hsize:A.n≤w'.heap.size:=by have:=hk.size;rw[hs.size]at this;exact this
 refine⟨a',cap',w', ?_,hsize, ?_⟩
 · unfold execOp
   simp only[ho,resolve,invoke,builtin,Sem.run_bind,Sem.run_pure,Result.andThen_ok,List.map_toArray,List.map_cons,List.map_nil,hx,hy,hr]
 · obtain⟨hlt,hix⟩:=List.getElem?_eq_some_iff.1 hi
   have hvb:∀ b,v.ownBlock=some b→b<A.n:=fun b hb=>hs.bnd _ (List.mem_of_getElem? hi) b hb
   have hnew:∀ b,(Value.slice a' (n+m) cap').ownBlock=some b→v.ownBlock=some b∨b=w.heap.size:=by
     intro b hb
     rcases hat with e1 | e1
     · exact .inl (e1 ▸ hb)
     · rw[e1]at hb;simp at hb;exact .inr hb.symm
   have hap:∀ j d,j≠i→A.σ[j]? = some d→∀ b,d.F b→v.ownBlock≠some b:=by
     intro j d hji hj b hd hb
     exact NE hs.Om (i:=i) (j:=j) (by rw[List.getElem?_map,hi];rfl) (by rw[List.getElem?_map,hj];rfl) (Ne.symm hji) rfl b hb hd
   refine⟨hk.os.trans hs.os,hk.tape.trans hs.tape,hk.output.trans hs.output,rfl, ?_, ?_, ?_, ?_⟩
   · intro d hd
     obtain⟨j,hj⟩:=List.getElem?_of_mem hd
     by_cases hij:i=j
     · subst hij;rw[List.getElem?_set_self hlt]at hj;cases hj;exact ho'
     · rw[List.getElem?_set_ne hij]at hj
       have hm:=List.mem_of_getElem? hj
       exact hs.Oh d hm w w' (fun b hb=>hk.block b (by rw[hs.size];exact hs.bnd d hm b hb) (fun e1=>hap j d (Ne.symm hij) hj b hb e1.symm)) (hs.all d hm)
   · intro d hd b hb
     show b<w'.heap.size
     rcases List.mem_or_eq_of_mem_set hd with hd | rfl
     · have:=hs.bnd d hd b hb;omega
     · have:=ho'.lt b hb;exact this.2
   · intro d hd
     rcases List.mem_or_eq_of_mem_set hd with hd | rfl
     · exact hs.Oh d hd
     · exact MH _ _ _ _ _ _
   · show((A.σ.set i _).map Ch.key).Pairwise Key.apart
     rw[List.map_set,List.pairwise_iff_getElem]
     intro p q hp hq hpq
     simp only[List.length_set,List.length_map]at hp hq
     have key:∀ j (hj:j<A.σ.length),j≠i→Key.apart (Ch.key (NV base e f.size (.slice a' (n+m) cap') (n+m) (xs++news))) (Ch.key A.σ[j]):=by
       intro j hj hji _ b hb hd
       have hjs:A.σ[j]? = some A.σ[j]:=by simp[hj]
       rcases hnew b hb with e1 | e1
       · exact hap j _ hji hjs b hd e1
       · have:=hs.bnd _ (List.mem_of_getElem? hjs) b hd
         rw[←hs.size]at this;omega
     simp only[List.getElem_set,List.getElem_map]
     by_cases h1:i=p
     · subst h1
       rw[if_pos rfl,if_neg (by omega)]
       exact key q hq (by omega)
     · rw[if_neg h1]
       by_cases h2:i=q
       · subst h2;rw[if_pos rfl];exact Key.TV (key p hp (by omega))
       · rw[if_neg h2]
         exact V7 hs.Om (i:=p) (j:=q) (by simp[hp]) (by simp[hq]) (by omega)
def XL(o:Oper):Option (Operand×Operand×TypeId×TypeId):=match o.op with
 | .call c=>match c.callee,c.args.toList,c.argTypes.toList with
  | .builtin .append,[x,y],[t,u]=>some (x,y,t,u)
  | _,_,_=>none
 | _=>none
theorem WJ{o:Oper}{x y:Operand}{t u:TypeId}(h:XL o=some (x,y,t,u)):o.op = .call { callee:= .builtin .append,args:= #[x,y],argTypes:= #[t,u] }:=by
 unfold XL at h
 split at h
 ·rename_i c hop
  split at h
  ·rename_i x' y' t' u' h1 h2 h3
   simp only[Option.some.injEq,Prod.mk.injEq]at h
   obtain⟨rfl,rfl,rfl,rfl⟩:=h
   obtain⟨c1,c2,c3⟩:=c
   obtain⟨c2⟩:=c2
   obtain⟨c3⟩:=c3
   simp only at h1 h2 h3
   subst h1 h2 h3
   exact hop
  cases h
 cases h
def YE(P:Program)(N:Nat)(ops:Array Oper)(env:Env)(o:Oper):Option (TypeId×Nat×Nat×Value×Addr×Nat×Nat):=match XL o,NM ops env o,JZ env o,NZ N o.dst with
 | some (x,y,t,u),some true,true,true=>match Nat.beq t u,P.underlying t,GR env y with
  | true,some (.slice e),.slice (some ad) m cp=>match P.info? e with
   | some f=>match f.zero with
    | some z=>match Nat.beq z.cells.size f.size&&Nat.blt 0 f.size with
     | true=>some (e,f.size,f.bytes,GR env x,ad,m,cp)
     | false=>none
    | none=>none
   | none=>none
  | _,_,_=>none
 | _,_,_,_=>none
theorem YF{base:Nat}{o:Oper}{e:TypeId}{sz by':Nat}{v:Value}{ad:Addr}{m cp:Nat}(h:YE P N ops env o=some (e,sz,by',v,ad,m,cp)){i n:Nat}{xs news:List Value}{a:Act}{w:World}(hst:St N env ds A a w)
   (hi:A.σ[i]? = some (NV base e sz v n xs)) (hl:news.length=m*sz) (h1:news.all Value.oneCell'=true) (hnews:∀ j u,news[j]? = some u→w.cell? (ad.add j)=some u) (h63:n+m≤maxLen) (hb:(n+m)*by'≤140737488355328) (hbase:base≤A.n) :
   Region.wanted o (yielded ops a.tmps)=true∧NZ N o.dst=true∧∃ a' cap' w',(execOp a.eval o).run P w = .ok (.value (.slice a' (n+m) cap')) w'∧A.n≤w'.heap.size∧Sat { A with n:=w'.heap.size,σ:=A.σ.set i (NV base e sz (.slice a' (n+m) cap') (n+m) (xs++news)) } w':=by
 unfold YE at h
 split at h
 · rename_i x y t u hop0 hw hk hd
   have hop:=WJ hop0
   split at h
   · rename_i e' ad' m' cp' htu ht hy
     split at h
     · rename_i f' hf
       split at h
       · rename_i z' hz
         split at h
         · rename_i hsz
           simp only[Option.some.injEq,Prod.mk.injEq]at h
           obtain⟨rfl,rfl,rfl,rfl,rfl,rfl,rfl⟩:=h
           have htu':=Nat.eq_of_beq_eq_true htu
           subst htu'
           rw[Bool.and_eq_true]at hsz
           refine⟨FK hw hst,hd, ?_⟩
           rw[Jc hst hk]
           exact VV (ρ:=GR env) hop ht hf hz (Nat.eq_of_beq_eq_true hsz.1) (by simpa using hsz.2) hi rfl hy hl (fun u hu=>List.all_eq_true.1 h1 u hu) hst.mem hnews h63 hb hbase
         · cases h
       · cases h
     · cases h
   · cases h
 · cases h
theorem YD{j b:Nat}{cs:Array Value}{t:TypeId}{fr:Nat×Nat}{rw':Bool}{w:World}(hs:Sat A w)(hj:A.σ[j]? = some (.blk b (.cells cs t fr) rw')){news:List Value}(hn:cs.toList=news):∀ k u,news[k]? = some u→w.cell? ((⟨b,0,none⟩:Addr).add k)=some u:=by
 intro k u hu
 subst hn
 have hb:w.heap[b]? = some (.cells cs t fr):=hs.at hj
 have hadd:(⟨b,0,none⟩:Addr).add k=⟨b,k,none⟩:=by rw[MJ rfl];simp
 rw[hadd]
 simp only[World.cell?,hb]
 simpa using hu
theorem l_append(base i j n:Nat)(xs news:List Value)(e:TypeId)(sz by':Nat)(v:Value)(b m cp:Nat)(cs:Array Value)(t:TypeId)(fr:Nat×Nat)(rw':Bool)(d:Option Nat)
   (h:(match l with | o :: _=>(YE P N ops env o).map (fun x=>(x,o.dst)) | []=>none)=some ((e,sz,by',v,⟨b,0,none⟩,m,cp),d)) (hi:A.σ[i]? = some (NV base e sz v n xs)) (hj:A.σ[j]? = some (.blk b (.cells cs t fr) rw')) (hn:cs.toList=news)
   (hl:Nat.beq news.length (m*sz)=true) (h1:news.all Value.oneCell'=true) (h63:n+m≤maxLen) (hb:(n+m)*by'≤140737488355328) (hbase:base≤A.n)
   (K:∀ a' cap' n',A.n≤n'→Lg P N (JG env d (.slice a' (n+m) cap')) ds { A with n:=n',σ:=A.σ.set i (NV base e sz (.slice a' (n+m) cap') (n+m) (xs++news)) } ops (l.drop 1) s Q):Lg P N env ds A ops l s Q:=by
 intro a w hst
 cases l with
 | nil=>cases h
 | cons o l =>
   simp only[Option.map_eq_some_iff]at h
   obtain⟨y,hy,h⟩:=h
   simp only[Prod.mk.injEq]at h
   obtain⟨rfl,rfl⟩:=h
   obtain⟨hw,hd,a',cap',w',hr,hsz,hs'⟩:=YF hy hst hi (Nat.eq_of_beq_eq_true hl) h1 (YD hst.mem hj hn) h63 hb hbase
   refine Oo hw (.inl hr) ?_
   exact K a' cap' _ hsz _ _ (hst.put hs' _ hd _)
end
abbrev Qb(b:Nat):Prop:=b=b
abbrev Ak(w:World):Ch:=old (fun _=>False) w
theorem Fv{w:World}{z:Nat}(h:z=w.heap.size):Sat ⟨w,z,[Ak w]⟩ w:=by subst h;exact sat_old w
abbrev Old(w:World)(b k:Nat)(v:Value):Prop:=∀ w',Ch.holds (old (fun _=>False) w) w'→w'.cell? ⟨b,k,none⟩=some v
abbrev Eh(w:World)(b k:Nat)(arr:Array Value):Prop:=RowOf (old (fun _=>False) w) b k arr
theorem CB{w:World}{b k:Nat}{l:List Value}(h:∀ i v,l[i]? = some v→w.cell? ⟨b,k+i,none⟩=some v):Eh w b k l.toArray:=fun w' hw i v hv=>BA (h i v (by simpa using hv)) w' hw
abbrev BT(p:Prop)[Decidable p]:Prop:=Value.bool (decide p) = .bool true
abbrev BF(p:Prop)[Decidable p]:Prop:=Value.bool (decide p) = .bool false
abbrev ET(x y:Int):Prop:=Value.bool (x==y) = .bool true
abbrev EF(x y:Int):Prop:=Value.bool (x==y) = .bool false
abbrev NT(x y:Int):Prop:=Value.bool (x != y) = .bool true
abbrev NF(x y:Int):Prop:=Value.bool (x != y) = .bool false
theorem bt{p:Prop}[Decidable p](h:p:=by omega):BT p:=congrArg Value.bool (decide_eq_true h)
theorem bf{p:Prop}[Decidable p](h:¬ p:=by omega):BF p:=congrArg Value.bool (decide_eq_false h)
theorem et{x y:Int}(h:x=y:=by omega):ET x y:=congrArg Value.bool (beq_iff_eq.2 h)
theorem ef{x y:Int}(h:¬ x=y:=by omega):EF x y:=congrArg Value.bool (beq_eq_false_iff_ne.2 h)
theorem nt{x y:Int}(h:¬ x=y:=by omega):NT x y:=congrArg Value.bool (bne_iff_ne.2 h)
theorem nf{x y:Int}(h:x=y:=by omega):NF x y:=congrArg Value.bool (bne_eq_false_iff_eq.2 h)
abbrev oT:OC:=⟨.auto [],some (.bool true)⟩
abbrev oF:OC:=⟨.auto [],some (.bool false)⟩
abbrev ol(i:Nat)(arr:Array Value):OC:=⟨.row i arr,none⟩
abbrev o0:OC:=⟨.auto [],none⟩
abbrev oa(cs:List LC):OC:=⟨.auto cs,none⟩
abbrev ov(v:Value):OC:=⟨.auto [],some v⟩
abbrev oi(j:Nat):OC:=⟨.idx j,none⟩
theorem ZU{a b:Int}(h:a=b)(lo : -9223372036854775808≤b)(hi:b≤9223372036854775807):IntKind.i64.wrap a=b:=by
 subst h;simp only[IntKind.wrap,IntKind.bits,IntKind.signed];simp;omega
abbrev Wr(x y:Int):Prop:=Value.int .i64 (IntKind.i64.wrap x)=Value.int .i64 y
theorem Be{a b:Int}(h:a=b:=by omega)(lo : -9223372036854775808≤b:=by omega)(hi:b≤9223372036854775807:=by omega):Value.int .i64 (IntKind.i64.wrap a)=Value.int .i64 b:=congrArg (Value.int .i64) (ZU h lo hi)
theorem I5{x c z:Int}(hz:x / c=z)(h0:0≤x)(h1:x≤9223372036854775807)(hc:0<c:=by decide):IntKind.i64.wrap (x.tdiv c)=z:=by
 rw[Int.tdiv_eq_ediv_of_nonneg h0]
 have h2:x / c≤x:=Int.ediv_le_self _ h0
 have h3:0≤x / c:=Int.ediv_nonneg h0 (Int.le_of_lt hc)
 exact ZU hz (by omega) (by omega)
theorem Ze{x c z:Int}(hz:x % c=z)(h0:0≤x):x.tmod c=z:=by rw[Int.tmod_eq_emod_of_nonneg h0];exact hz
def Fb:IntKind→Int→Prop
 | .i64,x => -9223372036854775808≤x∧x≤9223372036854775807
 | .i32,x => -2147483648≤x∧x≤2147483647
 | .i16,x => -32768≤x∧x≤32767
 | .i8,x => -128≤x∧x≤127
 | .u64,x=>0≤x∧x≤18446744073709551615
 | .u32,x=>0≤x∧x≤4294967295
 | .u16,x=>0≤x∧x≤65535
 | .u8,x=>0≤x∧x≤255
def gd{α:Type}[Inhabited α](xs:List α)(k:Nat):α:=xs.getD k default
theorem DC{α:Type}[Inhabited α]{xs:List α}{k:Nat}(h:k<xs.length):gd xs k=xs[k]:=by
 unfold gd;rw[List.getD_eq_getElem?_getD,List.getElem?_eq_getElem h];rfl
structure Sl(α:Type) where
 a:Option Addr
 cap:Nat
 xs:List α
 deriving Inhabited
def Sl.val{α:Type}(s:Sl α):Value:= .slice s.a s.xs.length s.cap
abbrev Any:Nat→Prop:=fun _=>True
abbrev New(n:Nat):Nat→Prop:=fun b=>n≤b
def Ext(F:Nat→Prop)(W W':World):Prop:=∀ (b k:Nat) (v:Value),F b→W.cell? ⟨b,k,none⟩=some v→W'.cell? ⟨b,k,none⟩=some v
theorem Ext.refl(F:Nat→Prop)(W:World):Ext F W W:=fun _ _ _ _ h=>h
theorem Ext.trans{F:Nat→Prop}{a b c:World}(h:Ext F a b)(k:Ext F b c):Ext F a c:=fun _ _ _ hf x=>k _ _ _ hf (h _ _ _ hf x)
theorem cell_lt{W:World}{b k:Nat}{v:Value}(hv:W.cell? ⟨b,k,none⟩=some v):b<W.heap.size:=by
 simp only[World.cell?]at hv
 split at hv
 ·rename_i hb;exact(Array.getElem?_eq_some_iff.1 hb).1
 cases hv
theorem cell_of{W W':World}{b k:Nat}{v:Value}(h:W'.heap[b]? = W.heap[b]?)(hv:W.cell? ⟨b,k,none⟩=some v):W'.cell? ⟨b,k,none⟩=some v:=by
 rw[←hv];simp only[World.cell?];rw[h]
theorem Sat.ext{A:AW}{W w:World}(h:Sat A w)(hi:A.σ[0]? = some (Ak W)):Ext Any W w:=fun b k v _ hv=>BA hv w (h.at hi)
def mid(n:Nat)(ws:World):Ch:= .inv (fun b=>n≤b∧b<ws.heap.size) (fun w=>∀ b,n≤b→b<ws.heap.size→w.heap[b]? = ws.heap[b]?) false
theorem Zy(n:Nat)(ws:World):(mid n ws).stable:=fun w1 w2 h hw b h1 h2=>(h b ⟨h1,h2⟩).trans (hw b h1 h2)
theorem EH{n:Nat}{ws:World}{b k:Nat}{v:Value}(hF:n≤b)(h:ws.cell? ⟨b,k,none⟩=some v):∀ w',(mid n ws).holds w'→w'.cell? ⟨b,k,none⟩=some v:=fun w' hw=>cell_of (hw b hF (cell_lt h)) h
theorem Sat.Ua{A:AW}{n:Nat}{ws w:World}(h:Sat A w)(i:Nat)(hi:A.σ[i]? = some (mid n ws):=by rfl):Ext (New n) ws w:=fun b k v hF hv=>EH hF hv w (h.at hi)
theorem Sat.Lc{A:AW}{w w':World}(h:Sat A w)(hk:BN (fun _=>False) w w'):Sat { A with n:=w'.heap.size,σ:=A.σ++[mid A.n w'] } w' :=
 h.keeps1 hk _ (fun _ _ _=>rfl) (Zy _ _) (fun b hb=>hb)
structure Jd{α:Type}(cells:α→List Value)(sz:Nat)(F:Nat→Prop)(W:World)(s:Sl α):Prop where
 len:s.xs.length≤140737488351232
 le:s.xs.length≤s.cap
 cells:s.xs≠[]→∃ b off,s.a=some ⟨b,off,none⟩∧F b∧∀ i (h:i<s.xs.length),∀ k v,(cells s.xs[i])[k]? = some v→W.cell? ⟨b,off+EK sz i+k,none⟩=some v
theorem Jd.all{α:Type}[Inhabited α]{cells:α→List Value}{sz:Nat}{F:Nat→Prop}{W:World}{s:Sl α}(h:Jd cells sz F W s)(hi:0<s.xs.length) :
   ∃ b off,s.a=some ⟨b,off,none⟩∧F b∧∀ i,i<s.xs.length→∀ k v,(cells (gd s.xs i))[k]? = some v→W.cell? ⟨b,off+EK sz i+k,none⟩=some v:=by
 obtain⟨b,off,ha,hF,hc⟩:=h.cells (fun e=>by rw[e]at hi;simp at hi)
 exact⟨b,off,ha,hF,fun i hi k v hv=>hc i hi k v (by rw[←DC hi];exact hv)⟩
def F8{α:Type}[Inhabited α](cells:α→List Value)(sz:Nat)(ok:(Nat→Prop)→World→α→Prop)(F:Nat→Prop)(W:World)(s:Sl α):Prop:=Jd cells sz F W s∧∀ i,i<s.xs.length→ok F W (gd s.xs i)
theorem Fa{α:Type}[Inhabited α]{cells:α→List Value}{sz:Nat}{ok:(Nat→Prop)→World→α→Prop}{F F':Nat→Prop}{W W':World}{s:Sl α}(he:Ext F W W')(hF:∀ b,F b→F' b)(h:F8 cells sz ok F W s)(hok:∀ x,ok F W x→ok F' W' x):F8 cells sz ok F' W' s:=by
 refine⟨⟨h.1.len,h.1.le,fun hne => ?_⟩,fun i hi=>hok _ (h.2 i hi)⟩
 obtain⟨b,off,ha,hb,hc⟩:=h.1.cells hne
 exact⟨b,off,ha,hF b hb,fun i hi k v hv=>he _ _ _ hb (hc i hi k v hv)⟩
theorem WS{α:Type}{cells:α→List Value}{sz:Nat}(hsz:∀ x,(cells x).length=sz):∀ (xs:List α) (i:Nat) (h:i<xs.length) (k:Nat) (v:Value),(cells xs[i])[k]? = some v→(xs.flatMap cells)[EK sz i+k]? = some v
 | x :: xs,0,_,k,v,hv=>by
  have hk:k<(cells x).length:=(List.getElem?_eq_some_iff.1 hv).1
  rw[LY,Nat.zero_mul,Nat.zero_add,List.flatMap_cons,List.getElem?_append_left hk];exact hv
 | x :: xs,i+1,h,k,v,hv=>by
  have ih:=WS hsz xs i (by simpa using h) k v (by simpa using hv)
  rw[LY]at ih ⊢
  rw[List.flatMap_cons,List.getElem?_append_right (by rw[hsz,Nat.succ_mul];omega),hsz,show(i+1)*sz+k - sz=i*sz+k from by rw[Nat.succ_mul];omega]
  exact ih
theorem JF{α:Type}{cells:α→List Value}{sz base:Nat}{e:TypeId}{w:World}{a:Option Addr}{cap:Nat}{xs:List α}(hsz:∀ x,(cells x).length=sz)(h:w.ownsRow base e sz (.slice a xs.length cap) xs.length (xs.flatMap cells))(hl:xs.length≤140737488351232):Jd cells sz (New base) w ⟨a,cap,xs⟩:=by
 rcases h.2 with⟨h1,h2⟩ | ⟨g,cap',cur,h1,hb,hg,hnc,hcm,hcs,ht⟩
 ·refine⟨hl,by rw[h2];exact Nat.zero_le _,fun hne=>absurd (List.eq_nil_of_length_eq_zero h2) hne⟩
 cases h1
 refine⟨hl,hnc,fun hne=>⟨g,0,rfl,hb,fun i hi k v hv => ?_⟩⟩
 have hf:=WS hsz xs i hi k v hv
 rw[←ht,List.getElem?_take]at hf
 split at hf
 ·simp only[World.cell?,hg,Nat.zero_add];simpa using hf
 cases hf
def AV{α:Type}(base:Nat)(e:TypeId)(size:Nat)(cells:α→List Value)(v:Value)(xs:List α):Ch:=NV base e size v xs.length (xs.flatMap cells)
theorem Uw{α:Type}(base:Nat)(e:TypeId)(size:Nat)(cells:α→List Value)(v:Value)(xs ys:List α):NV base e size v (xs.length+ys.length) (xs.flatMap cells++ys.flatMap cells)=AV base e size cells v (xs++ys):=by
 simp[AV]
section
variable {P:Program}{N:Nat}{env:Env}{ds:List Deferred}{A:AW}{ops:Array Oper}{l:List Oper}{s:List Kt}{Q:Exit→Act→World→Prop}{c:Code}
theorem Pn{α:Type}(base:Nat)(e:TypeId)(size:Nat)(cells:α→List Value)(h:Lg P N env ds { A with σ:=A.σ++[AV base e size cells (.slice none 0 0) []] } ops l s Q):Lg P N env ds A ops l s Q:=l_row base e size h
theorem Le{α:Type}(base:Nat)(e:TypeId)(size:Nat)(cells:α→List Value)(h:G P N env ds { A with σ:=A.σ++[AV base e size cells (.slice none 0 0) []] } c s Q):G P N env ds A c s Q:=g_row base e size h
theorem Fe{α:Type}(base i j:Nat)(xs ys:List α)(cells:α→List Value)(e:TypeId)(sz by':Nat)(v:Value)(b m cp:Nat)(cs:Array Value)(t:TypeId)(fr:Nat×Nat)(rw':Bool)(d:Option Nat)
   (h63:xs.length+ys.length≤1000000000000) (hbase:base≤A.n)
   (K:∀ a' cap' n',A.n≤n'→Lg P N (JG env d (.slice a' (xs++ys).length cap')) ds { A with n:=n',σ:=A.σ.set i (AV base e sz cells (.slice a' (xs++ys).length cap') (xs++ys)) } ops (l.drop 1) s Q)
   (h:(match l with | o :: _=>(YE P N ops env o).map (fun x=>(x,o.dst)) | []=>none)=some ((e,sz,by',v,⟨b,0,none⟩,m,cp),d):=by as_aux_lemma=>kernel_rfl) (hi:A.σ[i]? = some (AV base e sz cells v xs):=by rfl) (hj:A.σ[j]? = some (.blk b (.cells cs t fr) rw'):=by rfl) (hn:cs.toList=ys.flatMap cells:=by rfl) (hm:ys.length=m:=by rfl)
   (hl:Nat.beq (ys.flatMap cells).length (ys.length*sz)=true:=by as_aux_lemma=>kernel_rfl) (h1:(ys.flatMap cells).all Value.oneCell'=true:=by as_aux_lemma=>kernel_rfl) (hb:Nat.ble by' 140=true:=by as_aux_lemma=>kernel_rfl):Lg P N env ds A ops l s Q:=by
 have hb':=Nat.le_of_ble_eq_true hb
 subst hm
 refine l_append base i j xs.length (xs.flatMap cells) (ys.flatMap cells) e sz by' v b ys.length cp cs t fr rw' d h hi hj hn hl h1 (by unfold maxLen;omega) (Nat.le_trans (Nat.mul_le_mul h63 hb') (by decide)) hbase (fun a' cap' n' hn' => ?_)
 have:=K a' cap' n' hn'
 rw[←Uw,List.length_append]at this
 exact this
theorem mul_bd{a b:Int}(h1:0≤a)(h2:a≤65536)(h3:0≤b)(h4:b≤65536):0≤a*b∧a*b≤4294967296 :=
 ⟨Int.mul_nonneg h1 h3,Int.le_trans (Int.mul_le_mul h2 h4 h3 (by decide)) (by decide)⟩
theorem IZ(env':Env)(h:env=env')(K:G P N env' ds A c s Q):G P N env ds A c s Q:=by subst h;exact K
theorem EP{x:Exit}(keep:List Nat)(env':Env)(h:Lj keep env=env')(K:E P N env' ds A x s Q):E P N env ds A x s Q:=fun a w hs=>K a w (hs.sub (fun t v ht=>JS (by rw[h];exact ht)))
theorem w_one{σC:List Ch}{late fuel:Nat}{listed:List Bool}(i:Nat)(hr:Region.ready .any ops listed.toArray=[i])(hf:Nat.ble 1 fuel=true)(h:WO P N env ds A ops σC late (fuel - 1) listed s Q i):Wg P N env ds A ops σC late fuel listed s Q :=
 w_all [i] hr rfl hf (List.forall_mem_cons.2 ⟨h,fun _ h=>absurd h List.not_mem_nil⟩)
theorem CX{σC:List Ch}{late fuel:Nat}{listed:List Bool}(i:Nat)(h:WO P N env ds A ops σC late (fuel - 1) listed s Q i)(hr:Region.ready .any ops listed.toArray=[i]:=by as_aux_lemma=>kernel_rfl)(hf:Nat.ble 1 fuel=true:=by rfl):Wg P N env ds A ops σC late fuel listed s Q:=w_one i hr hf h
theorem QD{α:Type}{σC:List Ch}{late fuel:Nat}{listed:List Bool}{p:Nat}(base i j:Nat)(xs ys:List α)(cells:α→List Value)(e:TypeId)(sz by':Nat)(v:Value)(b m cp:Nat)(cs:Array Value)(t:TypeId)(fr:Nat×Nat)(rw':Bool)(d:Option Nat)(cix:List Nat)
   (h63:xs.length+ys.length≤1000000000000) (hbase:base≤A.n)
   (hC:Nat.beq p late=true∨(picks cix A.σ=some σC∧cix.contains i=false))
   (K:∀ a' cap' n',A.n≤n'→Wg P N (JG env d (.slice a' (xs++ys).length cap')) ds { A with n:=n',σ:=A.σ.set i (AV base e sz cells (.slice a' (xs++ys).length cap') (xs++ys)) } ops σC late fuel (listed.set p true) s Q)
   (hp:Nat.blt p listed.length=true:=by rfl)
   (h:(match ops[p]? with | some o=>(YE P N ops env o).map (fun x=>(x,o.dst)) | none=>none)=some ((e,sz,by',v,⟨b,0,none⟩,m,cp),d):=by as_aux_lemma=>kernel_rfl) (hi:A.σ[i]? = some (AV base e sz cells v xs):=by rfl) (hj:A.σ[j]? = some (.blk b (.cells cs t fr) rw'):=by rfl) (hn:cs.toList=ys.flatMap cells:=by rfl) (hm:ys.length=m:=by rfl)
   (hl:Nat.beq (ys.flatMap cells).length (ys.length*sz)=true:=by as_aux_lemma=>kernel_rfl) (h1:(ys.flatMap cells).all Value.oneCell'=true:=by as_aux_lemma=>kernel_rfl) (hb:Nat.ble by' 140=true:=by as_aux_lemma=>kernel_rfl):WO P N env ds A ops σC late fuel listed s Q p:=by
 intro a w hst hcl
 have hlt:p<listed.length:=by simpa using hp
 have hb':=Nat.le_of_ble_eq_true hb
 subst hm
 split at h
 · rename_i o ho
   simp only[Option.map_eq_some_iff]at h
   obtain⟨y,hy,h⟩:=h
   simp only[Prod.mk.injEq]at h
   obtain⟨rfl,rfl⟩:=h
   obtain⟨hw,hd,a',cap',w',hr,hsz,hs'⟩:=YF (xs:=xs.flatMap cells) (news:=ys.flatMap cells) hy hst hi (Nat.eq_of_beq_eq_true hl) h1 (YD hst.mem hj hn) (by unfold maxLen;omega) (Nat.le_trans (Nat.mul_le_mul h63 hb') (by decide)) hbase
   rw[←List.length_append]at hr
   unfold wpOp
   simp only[ho]
   rw[if_pos hw]
   left
   unfold Oper.wp
   rw[hr]
   rw[Uw,←List.length_append]at hs'
   have hcs:(listed.set p true).toArray.getD late false=false→Cs σC w':=by
     intro hl
     rcases hC with hC | ⟨hC,hci⟩
     · have:=Nat.eq_of_beq_eq_true hC
       subst this
       simp[hlt]at hl
     · intro c hc
       obtain⟨q,hq,hqs⟩:=Ox hC c hc
       have hqi:i≠q:=fun e1=>by subst e1;simp[hq]at hci
       refine hs'.all c (List.mem_of_getElem? (i:=q) ?_)
       show(A.σ.set i _)[q]? = some c
       rw[List.getElem?_set_ne hqi];exact hqs
   exact⟨hcs,K a' cap' _ hsz _ _ (hst.put hs' _ hd _) hcl hcs⟩
 · cases h
theorem DV{σC:List Ch}{late fuel:Nat}{listed:List Bool}(keep:List Nat)(env':Env)(K:Wg P N env' ds A ops σC late fuel listed s Q)(h:Lj keep env=env':=by as_aux_lemma=>kernel_rfl):Wg P N env ds A ops σC late fuel listed s Q:=fun a w hs=>K a w (hs.sub (fun t v ht=>JS (by rw[h];exact ht)))
end
abbrev Dq : Type := Nat × Value
theorem Ae : True := trivial
abbrev Ad (n : Nat) : Value := .int .i64 (n : Int)
abbrev Du {α : Type} (k b o : Nat) (s : Sl α) : OC := ⟨.auto [.at k], some (.slice (some ⟨b, o, none⟩) s.xs.length s.cap)⟩
abbrev Df {α : Type} (b o : Nat) (s : Sl α) : Prop := Value.slice s.a s.xs.length s.cap = Value.slice (some ⟨b, o, none⟩) s.xs.length s.cap
theorem Dh {a b : Option Addr} (h : a = b) {n c : Nat} : Value.slice a n c = Value.slice b n c := congrArg (fun a => Value.slice a n c) h
abbrev Bq : Prop := (none : Option Nat) = none
abbrev BI (k : Nat) : Prop := (k : Int) = (k : Int)
abbrev Ed (a b : Nat) : List Bool := List.replicate a true ++ List.replicate b false
end Go.Proofs.Ytlhjneaafhoipaa.Eng
namespace Go.Proofs.Ytlhjneaafhoipaa.Ly
open Go Go.Proofs.Ytlhjneaafhoipaa.Eng Go.Proofs.Ytlhjneaafhoipaa.Mem
set_option linter.unusedSimpArgs false
set_option linter.unusedVariables false
set_option maxRecDepth 100000
structure Am where
 Partition:Int
 LJ:Int
 NK:Int
 deriving Inhabited,DecidableEq
def Am.cells(x:Am):List Value:=[.int .i64 x.Partition,.int .i64 x.LJ,.int .i64 x.NK]
abbrev Am.arr(x:Am):Array Value:= #[.int .i64 x.Partition,.int .i64 x.LJ,.int .i64 x.NK]
structure Am.ok(F:Nat→Prop)(W:World)(x:Am):Prop where
 Partition:Fb .i64 x.Partition
 LJ:Fb .i64 x.LJ
 NK:Fb .i64 x.NK
theorem Am.ok.ext{F F':Nat→Prop}{W W':World}(he:Ext F W W')(hF:∀ b,F b→F' b){x:Am}(h:Am.ok F W x):Am.ok F' W' x:=⟨h.Partition,h.LJ,h.NK⟩
structure Ar where
 Ci:Int
 CE:Int
 Frame:Int
 Lp:Int
 deriving Inhabited,DecidableEq
def Ar.cells(x:Ar):List Value:=[.int .i64 x.Ci,.int .i64 x.CE,.int .i64 x.Frame,.int .i64 x.Lp]
abbrev Ar.arr(x:Ar):Array Value:= #[.int .i64 x.Ci,.int .i64 x.CE,.int .i64 x.Frame,.int .i64 x.Lp]
structure Ar.ok(F:Nat→Prop)(W:World)(x:Ar):Prop where
 Ci:Fb .i64 x.Ci
 CE:Fb .i64 x.CE
 Frame:Fb .i64 x.Frame
 Lp:Fb .i64 x.Lp
theorem Ar.ok.ext{F F':Nat→Prop}{W W':World}(he:Ext F W W')(hF:∀ b,F b→F' b){x:Ar}(h:Ar.ok F W x):Ar.ok F' W' x:=⟨h.Ci,h.CE,h.Frame,h.Lp⟩
structure AC where
 Channel:Int
 Source:Bool
 deriving Inhabited,DecidableEq
def AC.cells(x:AC):List Value:=[.int .i64 x.Channel,.bool x.Source]
abbrev AC.arr(x:AC):Array Value:= #[.int .i64 x.Channel,.bool x.Source]
structure AC.ok(F:Nat→Prop)(W:World)(x:AC):Prop where
 Channel:Fb .i64 x.Channel
 Source:True
theorem AC.ok.ext{F F':Nat→Prop}{W W':World}(he:Ext F W W')(hF:∀ b,F b→F' b){x:AC}(h:AC.ok F W x):AC.ok F' W' x:=⟨h.Channel,Ae⟩
structure Ah where
 Name:ByteArray
 Entry:Int
 Ef:Int
 Dl:Int
 Eg:Int
 DD:Int
 Ag:Sl Ar
 Ai:Sl AC
 deriving Inhabited
def Ah.cells(x:Ah):List Value:=[.string x.Name,.int .i64 x.Entry,.int .i64 x.Ef,.int .i64 x.Dl,.int .i64 x.Eg,.int .i64 x.DD,x.Ag.val,x.Ai.val]
abbrev Ah.arr(x:Ah):Array Value:= #[.string x.Name,.int .i64 x.Entry,.int .i64 x.Ef,.int .i64 x.Dl,.int .i64 x.Eg,.int .i64 x.DD,.slice x.Ag.a x.Ag.xs.length x.Ag.cap,.slice x.Ai.a x.Ai.xs.length x.Ai.cap]
structure Ah.ok(F:Nat→Prop)(W:World)(x:Ah):Prop where
 Name:x.Name.size≤140737488351232
 Entry:Fb .i64 x.Entry
 Ef:Fb .i64 x.Ef
 Dl:Fb .i64 x.Dl
 Eg:Fb .i64 x.Eg
 DD:Fb .i64 x.DD
 Ag:F8 Ar.cells 4 Ar.ok F W x.Ag
 Ai:F8 AC.cells 2 AC.ok F W x.Ai
theorem Ah.ok.ext{F F':Nat→Prop}{W W':World}(he:Ext F W W')(hF:∀ b,F b→F' b){x:Ah}(h:Ah.ok F W x):Ah.ok F' W' x:=⟨h.Name,h.Entry,h.Ef,h.Dl,h.Eg,h.DD,Fa he hF (h.Ag) (fun _ h=>Ar.ok.ext he hF h),Fa he hF (h.Ai) (fun _ h=>AC.ok.ext he hF h)⟩
structure Aw where
 Kind:Int
 Words:Int
 CS:Int
 deriving Inhabited,DecidableEq
def Aw.cells(x:Aw):List Value:=[.int .i64 x.Kind,.int .i64 x.Words,.int .i64 x.CS]
abbrev Aw.arr(x:Aw):Array Value:= #[.int .i64 x.Kind,.int .i64 x.Words,.int .i64 x.CS]
structure Aw.ok(F:Nat→Prop)(W:World)(x:Aw):Prop where
 Kind:Fb .i64 x.Kind
 Words:Fb .i64 x.Words
 CS:Fb .i64 x.CS
theorem Aw.ok.ext{F F':Nat→Prop}{W W':World}(he:Ext F W W')(hF:∀ b,F b→F' b){x:Aw}(h:Aw.ok F W x):Aw.ok F' W' x:=⟨h.Kind,h.Words,h.CS⟩
structure Af where
 Frames:Int
 Dz:Int
 Kernel:Int
 Room:Int
 Az:Sl (Sl Am)
 Aa:Sl Ah
 Ac:Sl Aw
 deriving Inhabited
def Af.cells(x:Af):List Value:=[.int .i64 x.Frames,.int .i64 x.Dz,.int .i64 x.Kernel,.int .i64 x.Room,x.Az.val,x.Aa.val,x.Ac.val]
abbrev Af.arr(x:Af):Array Value:= #[.int .i64 x.Frames,.int .i64 x.Dz,.int .i64 x.Kernel,.int .i64 x.Room,.slice x.Az.a x.Az.xs.length x.Az.cap,.slice x.Aa.a x.Aa.xs.length x.Aa.cap,.slice x.Ac.a x.Ac.xs.length x.Ac.cap]
structure Af.ok(F:Nat→Prop)(W:World)(x:Af):Prop where
 Frames:Fb .i64 x.Frames
 Dz:Fb .i64 x.Dz
 Kernel:Fb .i64 x.Kernel
 Room:Fb .i64 x.Room
 Az:F8 (fun x:Sl Am=>[Sl.val x]) 1 (fun F W x=>F8 Am.cells 3 Am.ok F W x) F W x.Az
 Aa:F8 Ah.cells 8 Ah.ok F W x.Aa
 Ac:F8 Aw.cells 3 Aw.ok F W x.Ac
theorem Af.ok.ext{F F':Nat→Prop}{W W':World}(he:Ext F W W')(hF:∀ b,F b→F' b){x:Af}(h:Af.ok F W x):Af.ok F' W' x:=⟨h.Frames,h.Dz,h.Kernel,h.Room,Fa he hF (h.Az) (fun _ h=>Fa he hF h (fun _ h=>Am.ok.ext he hF h)),Fa he hF (h.Aa) (fun _ h=>Ah.ok.ext he hF h),Fa he hF (h.Ac) (fun _ h=>Aw.ok.ext he hF h)⟩
structure Ee where
 partition:Int
 port:Int
 deriving Inhabited,DecidableEq
def Ee.cells(x:Ee):List Value:=[.int .i64 x.partition,.int .i64 x.port]
abbrev Ee.arr(x:Ee):Array Value:= #[.int .i64 x.partition,.int .i64 x.port]
structure Ee.ok(F:Nat→Prop)(W:World)(x:Ee):Prop where
 partition:Fb .i64 x.partition
 port:Fb .i64 x.port
theorem Ee.ok.ext{F F':Nat→Prop}{W W':World}(he:Ext F W W')(hF:∀ b,F b→F' b){x:Ee}(h:Ee.ok F W x):Ee.ok F' W' x:=⟨h.partition,h.port⟩
structure Aj where
 Lock:Int
 Fh:Int
 State:Int
 Root:Int
 Tables:Sl Int
 deriving Inhabited
def Aj.cells(x:Aj):List Value:=[.int .i64 x.Lock,.int .i64 x.Fh,.int .i64 x.State,.int .i64 x.Root,x.Tables.val]
abbrev Aj.arr(x:Aj):Array Value:= #[.int .i64 x.Lock,.int .i64 x.Fh,.int .i64 x.State,.int .i64 x.Root,.slice x.Tables.a x.Tables.xs.length x.Tables.cap]
structure Aj.ok(F:Nat→Prop)(W:World)(x:Aj):Prop where
 Lock:Fb .i64 x.Lock
 Fh:Fb .i64 x.Fh
 State:Fb .i64 x.State
 Root:Fb .i64 x.Root
 Tables:F8 (fun x:Int=>[Value.int .i64 x]) 1 (fun _ _ x=>Fb .i64 x) F W x.Tables
theorem Aj.ok.ext{F F':Nat→Prop}{W W':World}(he:Ext F W W')(hF:∀ b,F b→F' b){x:Aj}(h:Aj.ok F W x):Aj.ok F' W' x:=⟨h.Lock,h.Fh,h.State,h.Root,Fa he hF (h.Tables) (fun _ h=>h)⟩
structure AL where
 Partition:Int
 Port:Int
 At:Int
 deriving Inhabited,DecidableEq
def AL.cells(x:AL):List Value:=[.int .i64 x.Partition,.int .i64 x.Port,.int .i64 x.At]
abbrev AL.arr(x:AL):Array Value:= #[.int .i64 x.Partition,.int .i64 x.Port,.int .i64 x.At]
structure AL.ok(F:Nat→Prop)(W:World)(x:AL):Prop where
 Partition:Fb .i64 x.Partition
 Port:Fb .i64 x.Port
 At:Fb .i64 x.At
theorem AL.ok.ext{F F':Nat→Prop}{W W':World}(he:Ext F W W')(hF:∀ b,F b→F' b){x:AL}(h:AL.ok F W x):AL.ok F' W' x:=⟨h.Partition,h.Port,h.At⟩
structure Aq where
 Lock:Int
 Gw:Int
 Partition:Int
 Port:Int
 AX:Sl AL
 deriving Inhabited
def Aq.cells(x:Aq):List Value:=[.int .i64 x.Lock,.int .i64 x.Gw,.int .i64 x.Partition,.int .i64 x.Port,x.AX.val]
abbrev Aq.arr(x:Aq):Array Value:= #[.int .i64 x.Lock,.int .i64 x.Gw,.int .i64 x.Partition,.int .i64 x.Port,.slice x.AX.a x.AX.xs.length x.AX.cap]
structure Aq.ok(F:Nat→Prop)(W:World)(x:Aq):Prop where
 Lock:Fb .i64 x.Lock
 Gw:Fb .i64 x.Gw
 Partition:Fb .i64 x.Partition
 Port:Fb .i64 x.Port
 AX:F8 AL.cells 3 AL.ok F W x.AX
theorem Aq.ok.ext{F F':Nat→Prop}{W W':World}(he:Ext F W W')(hF:∀ b,F b→F' b){x:Aq}(h:Aq.ok F W x):Aq.ok F' W' x:=⟨h.Lock,h.Gw,h.Partition,h.Port,Fa he hF (h.AX) (fun _ h=>AL.ok.ext he hF h)⟩
structure Bj where
 Ji:Int
 Aa:Sl Aj
 Ac:Sl Aq
 End:Int
 deriving Inhabited
def Bj.cells(x:Bj):List Value:=[.int .i64 x.Ji,x.Aa.val,x.Ac.val,.int .i64 x.End]
abbrev Bj.arr(x:Bj):Array Value:= #[.int .i64 x.Ji,.slice x.Aa.a x.Aa.xs.length x.Aa.cap,.slice x.Ac.a x.Ac.xs.length x.Ac.cap,.int .i64 x.End]
structure Bj.ok(F:Nat→Prop)(W:World)(x:Bj):Prop where
 Ji:Fb .i64 x.Ji
 Aa:F8 Aj.cells 5 Aj.ok F W x.Aa
 Ac:F8 Aq.cells 5 Aq.ok F W x.Ac
 End:Fb .i64 x.End
theorem Bj.ok.ext{F F':Nat→Prop}{W W':World}(he:Ext F W W')(hF:∀ b,F b→F' b){x:Bj}(h:Bj.ok F W x):Bj.ok F' W' x:=⟨h.Ji,Fa he hF (h.Aa) (fun _ h=>Aj.ok.ext he hF h),Fa he hF (h.Ac) (fun _ h=>Aq.ok.ext he hF h),h.End⟩
structure A7 where
 Kind:Int
 Index:Int
 Port:Int
 deriving Inhabited,DecidableEq
def A7.cells(x:A7):List Value:=[.int .i64 x.Kind,.int .i64 x.Index,.int .i64 x.Port]
abbrev A7.arr(x:A7):Array Value:= #[.int .i64 x.Kind,.int .i64 x.Index,.int .i64 x.Port]
structure A7.ok(F:Nat→Prop)(W:World)(x:A7):Prop where
 Kind:Fb .i64 x.Kind
 Index:Fb .i64 x.Index
 Port:Fb .i64 x.Port
theorem A7.ok.ext{F F':Nat→Prop}{W W':World}(he:Ext F W W')(hF:∀ b,F b→F' b){x:A7}(h:A7.ok F W x):A7.ok F' W' x:=⟨h.Kind,h.Index,h.Port⟩
def I7(g:Ar):Bool:=decide (0≤g.Ci∧g.Ci≤256∧1≤g.CE∧g.CE≤256 - g.Ci)
def OX(n:Nat)(q:AC):Bool:=decide (0≤q.Channel∧q.Channel<n)
def CV(n:Nat)(x:Ah):Bool:=decide (x.Ag.xs.length≤8)&&decide (x.Ai.xs.length≤8)&&x.Ag.xs.all I7&&x.Ai.xs.all (OX n)
theorem LP{α:Type}[Inhabited α]{p:α→Bool}{xs:List α}{k:Nat}(hk:k<xs.length)(h:p (gd xs k)=false):xs.all p=false:=by
 rw[List.all_eq_false]
 refine⟨xs[k],List.getElem_mem hk, ?_⟩
 rw[DC hk]at h
 simpa using h
theorem SN{α:Type}[Inhabited α]{p:α→Bool}{xs:List α}(h:∀ i,i<xs.length→p (gd xs i)=true):xs.all p=true:=by
 rw[List.all_eq_true]
 intro y hy
 obtain⟨i,hi,rfl⟩:=List.getElem_of_mem hy
 have:=h i hi
 rwa [DC hi]at this
theorem upto{p:Nat→Prop}{k:Nat}(h:∀ i,i<k→p i)(hk:p k):∀ i,i<k+1→p i:=fun i hi=>by
 by_cases e:i=k
 ·subst e;exact hk
 exact h i (by omega)
section
variable (z:Nat)(x:Ah)(c:Af)(b8 o9:Nat)
abbrev L6:=bk (z+1) (Ah.arr x) 52
abbrev LX:=bk z (Af.arr c) 26
abbrev S9:Dq:=(20,.slice (some ⟨b8,o9,none⟩) x.Ag.xs.length x.Ag.cap)
abbrev Ph:Dq:=(20,.slice x.Ag.a x.Ag.xs.length x.Ag.cap)
abbrev Ro:Dq:=(49,.slice x.Ai.a x.Ai.xs.length x.Ai.cap)
abbrev MS:=(21,Ad x.Ag.xs.length)
abbrev NY:=(50,Ad x.Ai.xs.length)
abbrev LZ:=(3,pt (z+1))
end
theorem VO(w:World)(c:Af)(x:Ah)(hc:Af.ok Any w c)(hx:Ah.ok Any w x):Calls Try.prog 36 #[.agg (Af.arr c),.agg (Ah.arr x)] w fun e w'=>e = .returned (.bool (CV c.Ac.xs.length x))∧BN (fun _=>False) w w':=by
 obtain⟨z,hz⟩:∃ z,z=w.heap.size:=⟨_,rfl⟩
 refine BV (args:=[.agg (Af.arr c),.agg (Ah.arr x)]) 67 ⟨w,z,[(Ak w)]⟩ Try.func36 rfl (by kernel_rfl) (by kernel_rfl) (Fv hz) ?_
 refine Eb [0,1] [(0,.agg (Af.arr c)),(1,.agg (Ah.arr x))] ?_
 refine q_c 6 0 [] [[o0,o0,o0]] [] [(2,pt z),(LZ z)] ⟨w,z+2,[(Ak w),(LX z c),(L6 z x)]⟩ rfl Ae ?_
 by_cases h1:(8:Int)<(x.Ag.xs.length:Int)
 ·refine A8 9 0 [1] [[o0,(a1 2),o0,oT,o0,o0],[o0]] [Qb (z+1),BT ((x.Ag.xs.length:Int) > 8)] [(4,.bool false)] rfl ⟨rfl,bt,Ae⟩ ?_
  refine AZ [] [] (.bool false) Ae ?_
  intro w2 hw2
  refine⟨congrArg (fun b=>Ending.returned (Value.bool b)) (Eq.symm (?_:CV c.Ac.xs.length x=false)),Bg hw2⟩
  unfold CV
  first
   | (have e1:decide (x.Ag.xs.length≤8)=false:=decide_eq_false (by omega));simp[e1]
   | (have e1:decide (x.Ai.xs.length≤8)=false:=decide_eq_false (by omega));simp[e1]
 by_cases h3:(8:Int)<(x.Ai.xs.length:Int)
 ·refine A8 9 0 [1] [[o0,(a1 2),o0,oF,o0,o0,(a1 2),o0,oT,o0],[o0]] [Qb (z+1),BF ((x.Ag.xs.length:Int) > 8),Qb (z+1),BT ((x.Ai.xs.length:Int) > 8)] [(4,.bool false)] rfl ⟨rfl,bf,rfl,bt,Ae⟩ ?_
  refine AZ [] [] (.bool false) Ae ?_
  intro w4 hw4
  refine⟨congrArg (fun b=>Ending.returned (Value.bool b)) (Eq.symm (?_:CV c.Ac.xs.length x=false)),Bg hw4⟩
  unfold CV
  first
   | (have e1:decide (x.Ag.xs.length≤8)=false:=decide_eq_false (by omega));simp[e1]
   | (have e1:decide (x.Ai.xs.length≤8)=false:=decide_eq_false (by omega));simp[e1]
 refine A8 12 0 [0] [[o0,(a1 2),o0,oF,o0,o0,(a1 2),o0,oF,o0],[o0,(a1 2),o0,o0]] [Qb (z+1),BF ((x.Ag.xs.length:Int) > 8),Qb (z+1),BF ((x.Ai.xs.length:Int) > 8),Qb (z+1)] [(2,pt z),(LZ z),(Ph x),(MS x),(22,i6 0)] rfl ⟨rfl,bf,rfl,bf,rfl,Ae⟩ ?_
 refine Ce (fun m a w'=>∃ (n6:Nat) (k:Nat),m=x.Ag.xs.length - k∧z+2≤n6∧(k≤x.Ag.xs.length)∧(∀ i,i<k→I7 (gd x.Ag.xs i)=true)∧St 67 [(2,pt z),(LZ z),(Ph x),(MS x),(22,Ad k)] [] ⟨w,n6,[(Ak w),(LX z c),(L6 z x)]⟩ a w') (x.Ag.xs.length - 0) ?_ ?_
 ·intro a w' hs;exact⟨(z+2),0,rfl,Nat.le_refl _,Nat.zero_le _,fun i hi=>absurd hi (Nat.not_lt_zero i),hs⟩
 rintro m a w' ⟨n6,k,rfl,hn5,hkk,hr,hs⟩
 refine(?_:G Try.prog 67 [(2,pt z),(LZ z),(Ph x),(MS x),(22,Ad k)] [] ⟨w,n6,[(Ak w),(LX z c),(L6 z x)]⟩ _ _ _) a w' hs
 clear hs a w'
 refine CP ?_
 by_cases h7:(k:Int)<(x.Ag.xs.length:Int)
 ·refine A8 10 0 [1] [[oT]] [BT ((k:Int)<(x.Ag.xs.length:Int))] [(2,pt z),(LZ z),(Ph x),(MS x),(22,Ad k),(23,.bool true)] rfl ⟨bt,Ae⟩ ?_
  obtain⟨b8,o9,ha10,hF12,hc11⟩:=(hx.Ag).1.all (show 0<x.Ag.xs.length by omega)
  replace ha10:x.Ag.a=some ⟨b8,o9,none⟩:=ha10
  refine IZ [(2,pt z),(LZ z),(S9 x b8 o9),(MS x),(22,Ad k),(23,.bool true)] (by(try dsimp only[L6,LX,S9,Ph,MS,LZ]);simp only[ha10]) ?_
  have hc13:=hc11 k (show k<x.Ag.xs.length by omega)
  have he14:=(hx.Ag).2 k (show k<x.Ag.xs.length by omega)
  obtain⟨y15,hy15⟩:∃ y_,y_=gd x.Ag.xs k:=⟨_,rfl⟩
  rw[←hy15]at he14 hc13
  refine q_c 4 0 [] [[(oi k),(ol 0 (Ar.arr y15)),o0,(an 4 3)]] [BI k,k<x.Ag.xs.length,Bq,Eh w b8 (o9+k*4) (Ar.arr y15),Qb n6,Qb n6,Qb n6,Qb n6] [(2,pt z),(LZ z),(S9 x b8 o9),(MS x),(22,Ad k),(6,pt n6)] ⟨w,n6+1,[(Ak w),(LX z c),(L6 z x),(bk n6 (Ar.arr y15) 54)]⟩ rfl ⟨rfl,(by omega),rfl,CB hc13,rfl,rfl,rfl,rfl,Ae⟩ ?_
  by_cases h16:(y15.Ci:Int)<0
  ·refine A8 9 0 [1] [[o0,(a1 3),oT,o0,o0,o0,o0,o0,o0],[o0]] [Qb n6,BT ((y15.Ci:Int)<0)] [(4,.bool false)] rfl ⟨rfl,bt,Ae⟩ ?_
   refine AZ [] [] (.bool false) Ae ?_
   intro w17 hw17
   refine⟨congrArg (fun b=>Ending.returned (Value.bool b)) (Eq.symm (?_:CV c.Ac.xs.length x=false)),Bg hw17⟩
   unfold CV
   have e1:x.Ag.xs.all I7=false:=LP (k:=k) (by omega) (by rw[←hy15];exact decide_eq_false (by omega))
   simp[e1]
  by_cases h18:(256:Int)<y15.Ci
  ·refine A8 9 0 [1] [[o0,(a1 3),oF,o0,o0,(a1 3),oT,o0,o0,o0,o0,o0],[o0]] [Qb n6,BF ((y15.Ci:Int)<0),Qb n6,BT ((y15.Ci:Int) > 256)] [(4,.bool false)] rfl ⟨rfl,bf,rfl,bt,Ae⟩ ?_
   refine AZ [] [] (.bool false) Ae ?_
   intro w19 hw19
   refine⟨congrArg (fun b=>Ending.returned (Value.bool b)) (Eq.symm (?_:CV c.Ac.xs.length x=false)),Bg hw19⟩
   unfold CV
   have e1:x.Ag.xs.all I7=false:=LP (k:=k) (by omega) (by rw[←hy15];exact decide_eq_false (by omega))
   simp[e1]
  by_cases h20:(y15.CE:Int)<1
  ·refine A8 9 0 [1] [[o0,(a1 3),oF,o0,o0,(a1 3),oF,o0,o0,o0,(a1 3),oT,o0,o0,o0],[o0]] [Qb n6,BF ((y15.Ci:Int)<0),Qb n6,BF ((y15.Ci:Int) > 256),Qb n6,BT ((y15.CE:Int)<1)] [(4,.bool false)] rfl ⟨rfl,bf,rfl,bf,rfl,bt,Ae⟩ ?_
   refine AZ [] [] (.bool false) Ae ?_
   intro w21 hw21
   refine⟨congrArg (fun b=>Ending.returned (Value.bool b)) (Eq.symm (?_:CV c.Ac.xs.length x=false)),Bg hw21⟩
   unfold CV
   have e1:x.Ag.xs.all I7=false:=LP (k:=k) (by omega) (by rw[←hy15];exact decide_eq_false (by omega))
   simp[e1]
  by_cases h22:(256 - y15.Ci:Int)<y15.CE
  ·refine A8 9 0 [1] [[o0,(a1 3),oF,o0,o0,(a1 3),oF,o0,o0,o0,(a1 3),oF,o0,o0,o0,(a1 3),o0,(a1 3),(ov (i6 (256 - y15.Ci))),oT,o0],[o0]] [Qb n6,BF ((y15.Ci:Int)<0),Qb n6,BF ((y15.Ci:Int) > 256),Qb n6,BF ((y15.CE:Int)<1),Qb n6,Qb n6,Wr ((256:Int) - y15.Ci) (256 - y15.Ci),BT ((y15.CE:Int) > (256 - y15.Ci))] [(4,.bool false)] rfl ⟨rfl,bf,rfl,bf,rfl,bf,rfl,rfl,Be,bt,Ae⟩ ?_
   refine AZ [] [] (.bool false) Ae ?_
   intro w23 hw23
   refine⟨congrArg (fun b=>Ending.returned (Value.bool b)) (Eq.symm (?_:CV c.Ac.xs.length x=false)),Bg hw23⟩
   unfold CV
   have e1:x.Ag.xs.all I7=false:=LP (k:=k) (by omega) (by rw[←hy15];exact decide_eq_false (by omega))
   simp[e1]
  refine A8 9 0 [0] [[o0,(a1 3),oF,o0,o0,(a1 3),oF,o0,o0,o0,(a1 3),oF,o0,o0,o0,(a1 3),o0,(a1 3),(ov (i6 (256 - y15.Ci))),oF,o0],[(ov (i6 ((k+1:Nat):Int))),o0]] [Qb n6,BF ((y15.Ci:Int)<0),Qb n6,BF ((y15.Ci:Int) > 256),Qb n6,BF ((y15.CE:Int)<1),Qb n6,Qb n6,Wr ((256:Int) - y15.Ci) (256 - y15.Ci),BF ((y15.CE:Int) > (256 - y15.Ci)),Wr ((k:Int)+1) (((k+1:Nat):Int))] [(2,pt z),(LZ z),(S9 x b8 o9),(MS x),(22,i6 ((k+1:Nat):Int))] rfl ⟨rfl,bf,rfl,bf,rfl,bf,rfl,rfl,Be,bf,Be,Ae⟩ ?_
  refine BO [0,1,2] [(Ak w),(LX z c),(L6 z x)] rfl rfl ?_
  refine EP [2,3,20,21,22] [(2,pt z),(LZ z),(Ph x),(MS x),(22,i6 ((k+1:Nat):Int))] (by(try dsimp only[L6,LX,S9,Ph,MS,LZ]);simp only[ha10];rfl) ?_
  refine Bz (fun a w' hs=>⟨x.Ag.xs.length - (k+1),by omega,(n6+1),(k+1),rfl,by omega,by omega,upto hr (by rw[←hy15];exact decide_eq_true (by omega)),hs⟩)
 refine A8 16 0 [0] [[oF],[o0,(a1 2),o0,o0]] [BF ((k:Int)<(x.Ag.xs.length:Int)),Qb (z+1)] [(2,pt z),(Ro x),(NY x),(51,i6 0)] rfl ⟨bf,rfl,Ae⟩ ?_
 refine Ce (fun m a w'=>∃ (n25:Nat) (j:Nat),m=x.Ai.xs.length - j∧n6≤n25∧(j≤x.Ai.xs.length)∧(∀ i,i<j→OX c.Ac.xs.length (gd x.Ai.xs i)=true)∧St 67 [(2,pt z),(Ro x),(NY x),(51,Ad j)] [] ⟨w,n25,[(Ak w),(LX z c),(L6 z x)]⟩ a w') (x.Ai.xs.length - 0) ?_ ?_
 ·intro a w' hs;exact⟨n6,0,rfl,Nat.le_refl _,Nat.zero_le _,fun i hi=>absurd hi (Nat.not_lt_zero i),hs⟩
 rintro m a w' ⟨n25,j,rfl,hn24,hkj,hp,hs⟩
 refine(?_:G Try.prog 67 [(2,pt z),(Ro x),(NY x),(51,Ad j)] [] ⟨w,n25,[(Ak w),(LX z c),(L6 z x)]⟩ _ _ _) a w' hs
 clear hs a w'
 refine CP ?_
 by_cases h26:(j:Int)<(x.Ai.xs.length:Int)
 ·refine A8 10 0 [1] [[oT]] [BT ((j:Int)<(x.Ai.xs.length:Int))] [(2,pt z),(Ro x),(NY x),(51,Ad j),(52,.bool true)] rfl ⟨bt,Ae⟩ ?_
  obtain⟨b27,o28,ha29,hF31,hc30⟩:=(hx.Ai).1.all (show 0<x.Ai.xs.length by omega)
  replace ha29:x.Ai.a=some ⟨b27,o28,none⟩:=ha29
  refine IZ [(2,pt z),(49,.slice (some ⟨b27,o28,none⟩) x.Ai.xs.length x.Ai.cap),(NY x),(51,Ad j),(52,.bool true)] (by(try dsimp only[L6,LX,S9,Ph,Ro,MS,NY,LZ]);simp only[ha29]) ?_
  have hc32:=hc30 j (show j<x.Ai.xs.length by omega)
  have he33:=(hx.Ai).2 j (show j<x.Ai.xs.length by omega)
  obtain⟨y34,hy34⟩:∃ y_,y_=gd x.Ai.xs j:=⟨_,rfl⟩
  rw[←hy34]at he33 hc32
  refine q_c 4 0 [] [[(oi j),(ol 0 (AC.arr y34)),o0,(an 2 3)]] [BI j,j<x.Ai.xs.length,Bq,Eh w b27 (o28+j*2) (AC.arr y34),Qb n25,Qb n25] [(2,pt z),(49,.slice (some ⟨b27,o28,none⟩) x.Ai.xs.length x.Ai.cap),(NY x),(51,Ad j),(8,pt n25)] ⟨w,n25+1,[(Ak w),(LX z c),(L6 z x),(bk n25 (AC.arr y34) 75)]⟩ rfl ⟨rfl,(by omega),rfl,CB hc32,rfl,rfl,Ae⟩ ?_
  by_cases h35:(y34.Channel:Int)<0
  ·refine A8 9 0 [1] [[o0,(a1 3),oT,o0,o0],[o0]] [Qb n25,BT ((y34.Channel:Int)<0)] [(4,.bool false)] rfl ⟨rfl,bt,Ae⟩ ?_
   refine AZ [] [] (.bool false) Ae ?_
   intro w36 hw36
   refine⟨congrArg (fun b=>Ending.returned (Value.bool b)) (Eq.symm (?_:CV c.Ac.xs.length x=false)),Bg hw36⟩
   unfold CV
   have e1:x.Ai.xs.all (OX c.Ac.xs.length)=false:=LP (k:=j) (by omega) (by rw[←hy34];exact decide_eq_false (by omega))
   simp[e1]
  by_cases h37:(y34.Channel:Int)<(c.Ac.xs.length:Int)
  ·refine A8 9 0 [0] [[o0,(a1 3),oF,o0,o0,(a1 3),o0,(a1 1),o0,oF,o0],[(ov (i6 ((j+1:Nat):Int))),o0]] [Qb n25,BF ((y34.Channel:Int)<0),Qb n25,Qb z,BF ((y34.Channel:Int)≥(c.Ac.xs.length:Int)),Wr ((j:Int)+1) (((j+1:Nat):Int))] [(2,pt z),(49,.slice (some ⟨b27,o28,none⟩) x.Ai.xs.length x.Ai.cap),(NY x),(51,i6 ((j+1:Nat):Int))] rfl ⟨rfl,bf,rfl,rfl,bf,Be,Ae⟩ ?_
   refine BO [0,1,2] [(Ak w),(LX z c),(L6 z x)] rfl rfl ?_
   refine EP [2,49,50,51] [(2,pt z),(Ro x),(NY x),(51,i6 ((j+1:Nat):Int))] (by(try dsimp only[L6,LX,Ph,Ro,MS,NY,LZ]);simp only[ha29];rfl) ?_
   refine Bz (fun a w' hs=>⟨x.Ai.xs.length - (j+1),by omega,(n25+1),(j+1),rfl,by omega,by omega,upto hp (by rw[←hy34];exact decide_eq_true (by omega)),hs⟩)
  refine A8 9 0 [1] [[o0,(a1 3),oF,o0,o0,(a1 3),o0,(a1 1),o0,oT,o0],[o0]] [Qb n25,BF ((y34.Channel:Int)<0),Qb n25,Qb z,BT ((y34.Channel:Int)≥(c.Ac.xs.length:Int))] [(4,.bool false)] rfl ⟨rfl,bf,rfl,rfl,bt,Ae⟩ ?_
  refine AZ [] [] (.bool false) Ae ?_
  intro w38 hw38
  refine⟨congrArg (fun b=>Ending.returned (Value.bool b)) (Eq.symm (?_:CV c.Ac.xs.length x=false)),Bg hw38⟩
  unfold CV
  have e1:x.Ai.xs.all (OX c.Ac.xs.length)=false:=LP (k:=j) (by omega) (by rw[←hy34];exact decide_eq_false (by omega))
  simp[e1]
 refine A8 15 0 [0] [[oF],[o0]] [BF ((j:Int)<(x.Ai.xs.length:Int))] [(4,.bool true)] rfl ⟨bf,Ae⟩ ?_
 refine AZ [] [] (.bool true) Ae ?_
 intro w39 hw39
 refine⟨congrArg (fun b=>Ending.returned (Value.bool b)) (Eq.symm (?_:CV c.Ac.xs.length x=true)),Bg hw39⟩
 have e1:x.Ag.xs.all I7=true:=SN (fun i hi=>hr i (by omega))
 have e2:x.Ai.xs.all (OX c.Ac.xs.length)=true:=SN (fun i hi=>hp i (by omega))
 simp only[CV,e1,e2,Bool.and_true,Bool.and_eq_true,decide_eq_true_eq]
 omega
def Dj(h:Aw):Int:=if h.Words<1∨h.Words > 16 then 0 else if h.Kind=1 then h.Words else if h.Kind=2∧1≤h.CS∧h.CS≤8 then h.CS*(1+h.Words)else 0
def AB(h:Aw):Int:=if Dj h=0 then 0 else if h.Kind=1 then 2+h.Words else 1+Dj h
def portOf(h:Aw):Int:=if Dj h=0 then 0 else 3+Dj h
theorem Qu(h:Aw):0≤Dj h∧Dj h≤136:=by
 unfold Dj
 split
 ·omega
 split
 ·omega
 split
 ·rename_i h1 h2 h3
  have hd:h.CS=1∨h.CS=2∨h.CS=3∨h.CS=4∨h.CS=5∨h.CS=6∨h.CS=7∨h.CS=8:=by omega
  rcases hd with e | e | e | e | e | e | e | e <;> rw[e] <;> omega
 omega
theorem KU{h:Aw}(h1:h.Words<1∨h.Words > 16):Dj h=0:=by unfold Dj;rw[if_pos h1]
theorem PW{h:Aw}(h1:¬ h.Words<1)(h2:¬ 16<h.Words)(h3:h.Kind=1):Dj h=h.Words:=by unfold Dj;rw[if_neg (by omega),if_pos h3]
theorem Qa{h:Aw}(h1:¬ h.Words<1)(h2:¬ 16<h.Words)(h3:¬ h.Kind=1)(h4:h.Kind=2)(h5:1≤h.CS)(h6:h.CS≤8):Dj h=h.CS*(1+h.Words):=by unfold Dj;rw[if_neg (by omega),if_neg h3,if_pos ⟨h4,h5,h6⟩]
theorem La{h:Aw}(h1:¬ h.Words<1)(h2:¬ 16<h.Words)(h3:¬ h.Kind=1)(h4:¬ (h.Kind=2∧1≤h.CS∧h.CS≤8)):Dj h=0:=by unfold Dj;rw[if_neg (by omega),if_neg h3,if_neg h4]
theorem Y4(h:Aw):Dj h=0∨(1≤h.Words∧h.Words≤16):=by
 unfold Dj;split
 ·exact .inl rfl
 right;omega
theorem JJ{h:Aw}(h1:Dj h=0):0=AB h:=by unfold AB;rw[if_pos h1]
theorem PL{h:Aw}(h1:¬ h.Words<1)(h2:¬ 16<h.Words)(h3:h.Kind=1):2+h.Words=AB h:=by unfold AB;rw[PW h1 h2 h3,if_neg (by omega),if_pos h3]
theorem PG{h:Aw}(h1:¬ h.Words<1)(h2:¬ 16<h.Words)(h3:¬ h.Kind=1)(h4:h.Kind=2)(h5:1≤h.CS)(h6:h.CS≤8):1+h.CS*(1+h.Words)=AB h:=by
 unfold AB;rw[Qa h1 h2 h3 h4 h5 h6,if_neg ?_,if_neg h3]
 have:=Int.mul_pos (show 0<h.CS by omega) (show 0<1+h.Words by omega)
 omega
theorem KE(h:Aw):0≤AB h∧AB h≤137:=by
 have hb:=Qu h
 unfold AB
 split
 ·omega
 split
 ·rename_i h1 h2
  unfold Dj at h1
  split at h1
  ·exact absurd rfl h1
  omega
 omega
theorem P6(h:Aw):0≤portOf h∧portOf h≤139:=by
 have hb:=Qu h
 unfold portOf
 split <;> omega
theorem J5(h:Aw):AB h=0↔portOf h=0:=by
 have hb:=Qu h
 unfold AB portOf
 split
 ·simp
 split
 ·rename_i h1 h2
  unfold Dj at h1 hb
  constructor
  ·intro e
   split at h1
   ·exact absurd rfl h1
   omega
  intro e;exfalso;unfold Dj at e;omega
 omega
theorem YN{h:Aw}(h1:¬ AB h=0)(h2:h.Kind=1):AB h+1=portOf h:=by
 unfold AB portOf at *
 split at h1
 ·exact absurd rfl h1
 rename_i hb
 rw[if_neg hb,if_neg hb,if_pos h2]
 unfold Dj at hb ⊢
 split at hb
 ·exact absurd rfl hb
 rename_i h3
 rw[if_neg h3,if_pos h2];omega
theorem Yh{h:Aw}(h1:¬ AB h=0)(h2:¬ h.Kind=1):AB h+2=portOf h:=by
 unfold AB portOf at *
 split at h1
 ·exact absurd rfl h1
 rename_i hb
 rw[if_neg hb,if_neg hb,if_neg h2];omega
theorem Nb(w:World)(h:Aw)(hh:Aw.ok Any w h):Calls Try.prog 23 #[.agg (Aw.arr h)] w fun e w'=>e = .returned (.int .i64 (AB h))∧BN (fun _=>False) w w':=by
 obtain⟨z,hz⟩:∃ z,z=w.heap.size:=⟨_,rfl⟩
 refine BV (args:=[.agg (Aw.arr h)]) 40 ⟨w,z,[(Ak w)]⟩ Try.func23 rfl (by kernel_rfl) (by kernel_rfl) (Fv hz) ?_
 refine Eb [0] [(0,.agg (Aw.arr h))] ?_
 refine q_c 7 0 [] [[o0,o0]] [] [(1,pt z)] ⟨w,z+1,[(Ak w),(bk z (Aw.arr h) 77)]⟩ rfl Ae ?_
 by_cases h1:(h.Words:Int)<1
 ·refine A8 9 0 [1] [[o0,(a1 1),oT,o0,o0,o0],[o0]] [Qb z,BT ((h.Words:Int)<1)] [(2,i6 0)] rfl ⟨rfl,bt,Ae⟩ ?_
  refine AZ [] [] (i6 0) Ae ?_
  intro w2 hw2
  refine⟨congrArg (fun n=>Ending.returned (i6 n)) (?_:(0:Int)=AB h),Bg hw2⟩
  first
   | exact JJ (KU (by omega))
   | exact PL (by omega) (by omega) (by omega)
   | exact PG (by omega) (by omega) (by omega) (by omega) (by omega) (by omega)
   | exact JJ (La (by omega) (by omega) (by omega) (by omega))
 by_cases h3:(16:Int)<h.Words
 ·refine A8 9 0 [1] [[o0,(a1 1),oF,o0,o0,(a1 1),oT,o0,o0],[o0]] [Qb z,BF ((h.Words:Int)<1),Qb z,BT ((h.Words:Int) > 16)] [(2,i6 0)] rfl ⟨rfl,bf,rfl,bt,Ae⟩ ?_
  refine AZ [] [] (i6 0) Ae ?_
  intro w4 hw4
  refine⟨congrArg (fun n=>Ending.returned (i6 n)) (?_:(0:Int)=AB h),Bg hw4⟩
  first
   | exact JJ (KU (by omega))
   | exact PL (by omega) (by omega) (by omega)
   | exact PG (by omega) (by omega) (by omega) (by omega) (by omega) (by omega)
   | exact JJ (La (by omega) (by omega) (by omega) (by omega))
 refine A8 5 0 [0] [[o0,(a1 1),oF,o0,o0,(a1 1),oF,o0,o0]] [Qb z,BF ((h.Words:Int)<1),Qb z,BF ((h.Words:Int) > 16)] [(1,pt z),(3,.bool false)] rfl ⟨rfl,bf,rfl,bf,Ae⟩ ?_
 by_cases h5:(h.Kind:Int)=1
 ·refine A8 9 0 [1] [[o0,(a1 1),oT,o0],[o0,(a1 1),(ov (i6 (2+h.Words))),o0]] [Qb z,ET h.Kind 1,Qb z,Wr ((2:Int)+h.Words) (2+h.Words)] [(2,i6 (2+h.Words))] rfl ⟨rfl,et,rfl,Be,Ae⟩ ?_
  refine AZ [] [] (i6 (2+h.Words)) Ae ?_
  intro w6 hw6
  refine⟨congrArg (fun n=>Ending.returned (i6 n)) (?_:(2+h.Words:Int)=AB h),Bg hw6⟩
  first
   | exact JJ (KU (by omega))
   | exact PL (by omega) (by omega) (by omega)
   | exact PG (by omega) (by omega) (by omega) (by omega) (by omega) (by omega)
   | exact JJ (La (by omega) (by omega) (by omega) (by omega))
 refine A8 5 0 [0] [[o0,(a1 1),oF,o0]] [Qb z,EF h.Kind 1] [(1,pt z),(12,.bool false)] rfl ⟨rfl,ef,Ae⟩ ?_
 by_cases h7:(h.Kind:Int)=2
 ·by_cases h8:(h.CS:Int)<1
  ·refine A8 12 0 [0] [[o0,(a1 1),oT,o0,o0,(a1 1),oF,o0,o0,o0,o0],[o0]] [Qb z,ET h.Kind 2,Qb z,BF ((h.CS:Int)≥1)] [(2,i6 0)] rfl ⟨rfl,et,rfl,bf,Ae⟩ ?_
   refine AZ [] [] (i6 0) Ae ?_
   intro w9 hw9
   refine⟨congrArg (fun n=>Ending.returned (i6 n)) (?_:(0:Int)=AB h),Bg hw9⟩
   first
    | exact JJ (KU (by omega))
    | exact PL (by omega) (by omega) (by omega)
    | exact PG (by omega) (by omega) (by omega) (by omega) (by omega) (by omega)
    | exact JJ (La (by omega) (by omega) (by omega) (by omega))
  by_cases h10:(8:Int)<h.CS
  ·refine A8 12 0 [0] [[o0,(a1 1),oT,o0,o0,(a1 1),oT,o0,o0,o0,(a1 1),oF,o0,o0],[o0]] [Qb z,ET h.Kind 2,Qb z,BT ((h.CS:Int)≥1),Qb z,BF ((h.CS:Int)≤8)] [(2,i6 0)] rfl ⟨rfl,et,rfl,bt,rfl,bf,Ae⟩ ?_
   refine AZ [] [] (i6 0) Ae ?_
   intro w11 hw11
   refine⟨congrArg (fun n=>Ending.returned (i6 n)) (?_:(0:Int)=AB h),Bg hw11⟩
   first
    | exact JJ (KU (by omega))
    | exact PL (by omega) (by omega) (by omega)
    | exact PG (by omega) (by omega) (by omega) (by omega) (by omega) (by omega)
    | exact JJ (La (by omega) (by omega) (by omega) (by omega))
  refine A8 6 0 [1] [[o0,(a1 1),oT,o0,o0,(a1 1),oT,o0,o0,o0,(a1 1),oT,o0,o0]] [Qb z,ET h.Kind 2,Qb z,BT ((h.CS:Int)≥1),Qb z,BT ((h.CS:Int)≤8)] [(1,pt z),(19,.bool true)] rfl ⟨rfl,et,rfl,bt,rfl,bt,Ae⟩ ?_
  have hm12:=mul_bd (a:=h.CS) (b:=1+h.Words) (by omega) (by omega) (by omega) (by omega)
  refine Di 3 0 [] [[o0,(a1 1),o0,(a1 1),(ov (i6 (1+h.Words))),(ov (i6 (h.CS*(1+h.Words)))),(ov (i6 (1+(h.CS*(1+h.Words))))),o0]] [Qb z,Qb z,Wr ((1:Int)+h.Words) (1+h.Words),Wr ((h.CS:Int)*(1+h.Words)) (h.CS*(1+h.Words)),Wr ((1:Int)+(h.CS*(1+h.Words))) (1+(h.CS*(1+h.Words)))] [(2,i6 (1+(h.CS*(1+h.Words))))] rfl ⟨rfl,rfl,Be,Be,Be,Ae⟩ ?_
  refine AZ [] [] (i6 (1+(h.CS*(1+h.Words)))) Ae ?_
  intro w13 hw13
  refine⟨congrArg (fun n=>Ending.returned (i6 n)) (?_:(1+(h.CS*(1+h.Words)):Int)=AB h),Bg hw13⟩
  first
   | exact JJ (KU (by omega))
   | exact PL (by omega) (by omega) (by omega)
   | exact PG (by omega) (by omega) (by omega) (by omega) (by omega) (by omega)
   | exact JJ (La (by omega) (by omega) (by omega) (by omega))
 refine A8 12 0 [0] [[o0,(a1 1),oF,o0,o0,o0,o0,o0],[o0]] [Qb z,EF h.Kind 2] [(2,i6 0)] rfl ⟨rfl,ef,Ae⟩ ?_
 refine AZ [] [] (i6 0) Ae ?_
 intro w14 hw14
 refine⟨congrArg (fun n=>Ending.returned (i6 n)) (?_:(0:Int)=AB h),Bg hw14⟩
 first
  | exact JJ (KU (by omega))
  | exact PL (by omega) (by omega) (by omega)
  | exact PG (by omega) (by omega) (by omega) (by omega) (by omega) (by omega)
  | exact JJ (La (by omega) (by omega) (by omega) (by omega))
theorem WF(w:World)(h:Aw)(hh:Aw.ok Any w h):Calls Try.prog 39 #[.agg (Aw.arr h)] w fun e w'=>e = .returned (.int .i64 (Dj h))∧BN (fun _=>False) w w':=by
 obtain⟨z,hz⟩:∃ z,z=w.heap.size:=⟨_,rfl⟩
 refine BV (args:=[.agg (Aw.arr h)]) 35 ⟨w,z,[(Ak w)]⟩ Try.func39 rfl (by kernel_rfl) (by kernel_rfl) (Fv hz) ?_
 refine Eb [0] [(0,.agg (Aw.arr h))] ?_
 refine q_c 6 0 [] [[o0,o0]] [] [(1,pt z)] ⟨w,z+1,[(Ak w),(bk z (Aw.arr h) 77)]⟩ rfl Ae ?_
 by_cases h1:(h.Words:Int)<1
 ·refine A8 9 0 [1] [[o0,(a1 1),oT,o0,o0],[o0]] [Qb z,BT ((h.Words:Int)<1)] [(2,i6 0)] rfl ⟨rfl,bt,Ae⟩ ?_
  refine AZ [] [] (i6 0) Ae ?_
  intro w2 hw2
  refine⟨congrArg (fun n=>Ending.returned (i6 n)) (?_:(0:Int)=Dj h),Bg hw2⟩
  first
   | exact(KU (by omega)).symm
   | exact(PW (by omega) (by omega) (by omega)).symm
   | exact(Qa (by omega) (by omega) (by omega) (by omega) (by omega) (by omega)).symm
   | exact(La (by omega) (by omega) (by omega) (by omega)).symm
 by_cases h3:(16:Int)<h.Words
 ·refine A8 9 0 [1] [[o0,(a1 1),oF,o0,o0,(a1 1),oT,o0],[o0]] [Qb z,BF ((h.Words:Int)<1),Qb z,BT ((h.Words:Int) > 16)] [(2,i6 0)] rfl ⟨rfl,bf,rfl,bt,Ae⟩ ?_
  refine AZ [] [] (i6 0) Ae ?_
  intro w4 hw4
  refine⟨congrArg (fun n=>Ending.returned (i6 n)) (?_:(0:Int)=Dj h),Bg hw4⟩
  first
   | exact(KU (by omega)).symm
   | exact(PW (by omega) (by omega) (by omega)).symm
   | exact(Qa (by omega) (by omega) (by omega) (by omega) (by omega) (by omega)).symm
   | exact(La (by omega) (by omega) (by omega) (by omega)).symm
 refine A8 8 0 [0] [[o0,(a1 1),oF,o0,o0,(a1 1),oF,o0]] [Qb z,BF ((h.Words:Int)<1),Qb z,BF ((h.Words:Int) > 16)] [(1,pt z),(10,.bool false)] rfl ⟨rfl,bf,rfl,bf,Ae⟩ ?_
 by_cases h5:(h.Kind:Int)=1
 ·refine A8 9 0 [1] [[o0,(a1 1),oT],[o0,(a1 1),o0]] [Qb z,ET h.Kind 1,Qb z] [(2,i6 h.Words)] rfl ⟨rfl,et,rfl,Ae⟩ ?_
  refine AZ [] [] (i6 h.Words) Ae ?_
  intro w6 hw6
  refine⟨congrArg (fun n=>Ending.returned (i6 n)) (?_:(h.Words:Int)=Dj h),Bg hw6⟩
  first
   | exact(KU (by omega)).symm
   | exact(PW (by omega) (by omega) (by omega)).symm
   | exact(Qa (by omega) (by omega) (by omega) (by omega) (by omega) (by omega)).symm
   | exact(La (by omega) (by omega) (by omega) (by omega)).symm
 refine A8 8 0 [0] [[o0,(a1 1),oF]] [Qb z,EF h.Kind 1] [(1,pt z),(13,.bool false)] rfl ⟨rfl,ef,Ae⟩ ?_
 by_cases h7:(h.Kind:Int)=2
 ·by_cases h8:(h.CS:Int)<1
  ·refine A8 11 0 [0] [[o0,(a1 1),oT,o0,o0,(a1 1),oF,o0,o0,o0],[o0]] [Qb z,ET h.Kind 2,Qb z,BF ((h.CS:Int)≥1)] [(2,i6 0)] rfl ⟨rfl,et,rfl,bf,Ae⟩ ?_
   refine AZ [] [] (i6 0) Ae ?_
   intro w9 hw9
   refine⟨congrArg (fun n=>Ending.returned (i6 n)) (?_:(0:Int)=Dj h),Bg hw9⟩
   first
    | exact(KU (by omega)).symm
    | exact(PW (by omega) (by omega) (by omega)).symm
    | exact(Qa (by omega) (by omega) (by omega) (by omega) (by omega) (by omega)).symm
    | exact(La (by omega) (by omega) (by omega) (by omega)).symm
  by_cases h10:(8:Int)<h.CS
  ·refine A8 11 0 [0] [[o0,(a1 1),oT,o0,o0,(a1 1),oT,o0,o0,o0,(a1 1),oF,o0],[o0]] [Qb z,ET h.Kind 2,Qb z,BT ((h.CS:Int)≥1),Qb z,BF ((h.CS:Int)≤8)] [(2,i6 0)] rfl ⟨rfl,et,rfl,bt,rfl,bf,Ae⟩ ?_
   refine AZ [] [] (i6 0) Ae ?_
   intro w11 hw11
   refine⟨congrArg (fun n=>Ending.returned (i6 n)) (?_:(0:Int)=Dj h),Bg hw11⟩
   first
    | exact(KU (by omega)).symm
    | exact(PW (by omega) (by omega) (by omega)).symm
    | exact(Qa (by omega) (by omega) (by omega) (by omega) (by omega) (by omega)).symm
    | exact(La (by omega) (by omega) (by omega) (by omega)).symm
  refine A8 6 0 [1] [[o0,(a1 1),oT,o0,o0,(a1 1),oT,o0,o0,o0,(a1 1),oT,o0]] [Qb z,ET h.Kind 2,Qb z,BT ((h.CS:Int)≥1),Qb z,BT ((h.CS:Int)≤8)] [(1,pt z),(28,.bool true)] rfl ⟨rfl,et,rfl,bt,rfl,bt,Ae⟩ ?_
  have hm12:=mul_bd (a:=h.CS) (b:=1+h.Words) (by omega) (by omega) (by omega) (by omega)
  refine Di 3 0 [] [[o0,(a1 1),o0,(a1 1),(ov (i6 (1+h.Words))),(ov (i6 (h.CS*(1+h.Words)))),o0]] [Qb z,Qb z,Wr ((1:Int)+h.Words) (1+h.Words),Wr ((h.CS:Int)*(1+h.Words)) (h.CS*(1+h.Words))] [(2,i6 (h.CS*(1+h.Words)))] rfl ⟨rfl,rfl,Be,Be,Ae⟩ ?_
  refine AZ [] [] (i6 (h.CS*(1+h.Words))) Ae ?_
  intro w13 hw13
  refine⟨congrArg (fun n=>Ending.returned (i6 n)) (?_:(h.CS*(1+h.Words):Int)=Dj h),Bg hw13⟩
  first
   | exact(KU (by omega)).symm
   | exact(PW (by omega) (by omega) (by omega)).symm
   | exact(Qa (by omega) (by omega) (by omega) (by omega) (by omega) (by omega)).symm
   | exact(La (by omega) (by omega) (by omega) (by omega)).symm
 refine A8 11 0 [0] [[o0,(a1 1),oF,o0,o0,o0,o0],[o0]] [Qb z,EF h.Kind 2] [(2,i6 0)] rfl ⟨rfl,ef,Ae⟩ ?_
 refine AZ [] [] (i6 0) Ae ?_
 intro w14 hw14
 refine⟨congrArg (fun n=>Ending.returned (i6 n)) (?_:(0:Int)=Dj h),Bg hw14⟩
 first
  | exact(KU (by omega)).symm
  | exact(PW (by omega) (by omega) (by omega)).symm
  | exact(Qa (by omega) (by omega) (by omega) (by omega) (by omega) (by omega)).symm
  | exact(La (by omega) (by omega) (by omega) (by omega)).symm
theorem Uu(w:World)(h:Aw)(hh:Aw.ok Any w h):Calls Try.prog 32 #[.agg (Aw.arr h)] w fun e w'=>e = .returned (.int .i64 (AB h))∧BN (fun _=>False) w w':=by
 obtain⟨z,hz⟩:∃ z,z=w.heap.size:=⟨_,rfl⟩
 refine BV (args:=[.agg (Aw.arr h)]) 16 ⟨w,z,[(Ak w)]⟩ Try.func32 rfl (by kernel_rfl) (by kernel_rfl) (Fv hz) ?_
 have hbd:=Qu h;have hsd:=KE h;have hwd:=Y4 h
 refine Eb [0] [(0,.agg (Aw.arr h))] ?_
 refine q_c 6 1 [] [[o0,o0],[(an 3 1)]] [Qb z,Qb z,Qb z] [(1,pt z),(4,.agg (Aw.arr h))] ⟨w,z+1,[(Ak w),(bk z (Aw.arr h) 77)]⟩ rfl ⟨rfl,rfl,rfl,Ae⟩ ?_
 refine H5 39 #[.agg (Aw.arr h)] (some 5) (i6 (Dj h)) (fun w1 hw1=>WF w1 h (hh.ext (hw1.ext rfl) (fun _ h=>h))) (fun n2 (hn3:z+1≤n2) => ?_)
 refine Di 4 0 [] [[o0]] [] [(1,pt z),(3,i6 (Dj h))] rfl Ae ?_
 by_cases h4:(Dj h:Int)=0
 ·refine A8 9 0 [1] [[o0,oT],[o0]] [ET (Dj h) 0] [(2,i6 0)] rfl ⟨et,Ae⟩ ?_
  refine AZ [] [] (i6 0) Ae ?_
  intro w5 hw5
  refine⟨congrArg (fun n=>Ending.returned (i6 n)) (?_:(0:Int)=AB h),Bg hw5⟩
  unfold AB
  first
   | (rw[if_pos (by omega)])
   | (rw[if_neg (by omega),if_pos (by omega)])
   | (rw[if_neg (by omega),if_neg (by omega)])
 refine A8 8 0 [0] [[o0,oF]] [EF (Dj h) 0] [(1,pt z),(3,i6 (Dj h)),(7,.bool false)] rfl ⟨ef,Ae⟩ ?_
 by_cases h6:(h.Kind:Int)=1
 ·refine A8 9 0 [1] [[o0,(a1 1),oT],[o0,(a1 1),(ov (i6 (2+h.Words))),o0]] [Qb z,ET h.Kind 1,Qb z,Wr ((2:Int)+h.Words) (2+h.Words)] [(2,i6 (2+h.Words))] rfl ⟨rfl,et,rfl,Be,Ae⟩ ?_
  refine AZ [] [] (i6 (2+h.Words)) Ae ?_
  intro w7 hw7
  refine⟨congrArg (fun n=>Ending.returned (i6 n)) (?_:(2+h.Words:Int)=AB h),Bg hw7⟩
  unfold AB
  first
   | (rw[if_pos (by omega)])
   | (rw[if_neg (by omega),if_pos (by omega)])
   | (rw[if_neg (by omega),if_neg (by omega)])
 refine A8 11 0 [0] [[o0,(a1 1),oF],[o0,(ov (i6 (1+(Dj h)))),o0]] [Qb z,EF h.Kind 1,Wr ((1:Int)+(Dj h)) (1+(Dj h))] [(2,i6 (1+(Dj h)))] rfl ⟨rfl,ef,Be,Ae⟩ ?_
 refine AZ [] [] (i6 (1+(Dj h))) Ae ?_
 intro w8 hw8
 refine⟨congrArg (fun n=>Ending.returned (i6 n)) (?_:(1+(Dj h):Int)=AB h),Bg hw8⟩
 unfold AB
 first
  | (rw[if_pos (by omega)])
  | (rw[if_neg (by omega),if_pos (by omega)])
  | (rw[if_neg (by omega),if_neg (by omega)])
theorem RX(w:World)(h:Aw)(hh:Aw.ok Any w h):Calls Try.prog 30 #[.agg (Aw.arr h)] w fun e w'=>e = .returned (.int .i64 (portOf h))∧BN (fun _=>False) w w':=by
 obtain⟨z,hz⟩:∃ z,z=w.heap.size:=⟨_,rfl⟩
 refine BV (args:=[.agg (Aw.arr h)]) 10 ⟨w,z,[(Ak w)]⟩ Try.func30 rfl (by kernel_rfl) (by kernel_rfl) (Fv hz) ?_
 have hbd:=Qu h;have hsd:=KE h;have hwd:=Y4 h
 refine Eb [0] [(0,.agg (Aw.arr h))] ?_
 refine q_c 6 1 [] [[o0,o0],[(an 3 1)]] [Qb z,Qb z,Qb z] [(4,.agg (Aw.arr h))] ⟨w,z+1,[(Ak w),(bk z (Aw.arr h) 77)]⟩ rfl ⟨rfl,rfl,rfl,Ae⟩ ?_
 refine H5 39 #[.agg (Aw.arr h)] (some 5) (i6 (Dj h)) (fun w1 hw1=>WF w1 h (hh.ext (hw1.ext rfl) (fun _ h=>h))) (fun n2 (hn3:z+1≤n2) => ?_)
 refine Di 4 0 [] [[o0]] [] [(3,i6 (Dj h))] rfl Ae ?_
 by_cases h4:(Dj h:Int)=0
 ·refine A8 9 0 [1] [[o0,oT],[o0]] [ET (Dj h) 0] [(2,i6 0)] rfl ⟨et,Ae⟩ ?_
  refine AZ [] [] (i6 0) Ae ?_
  intro w5 hw5
  refine⟨congrArg (fun n=>Ending.returned (i6 n)) (?_:(0:Int)=portOf h),Bg hw5⟩
  unfold portOf
  first
   | (rw[if_pos (by omega)])
   | (rw[if_neg (by omega)])
 refine A8 11 0 [0] [[o0,oF],[o0,(ov (i6 (3+(Dj h)))),o0]] [EF (Dj h) 0,Wr ((3:Int)+(Dj h)) (3+(Dj h))] [(2,i6 (3+(Dj h)))] rfl ⟨ef,Be,Ae⟩ ?_
 refine AZ [] [] (i6 (3+(Dj h))) Ae ?_
 intro w6 hw6
 refine⟨congrArg (fun n=>Ending.returned (i6 n)) (?_:(3+(Dj h):Int)=portOf h),Bg hw6⟩
 unfold portOf
 first
  | (rw[if_pos (by omega)])
  | (rw[if_neg (by omega)])
theorem Wu(w:World)(h:Aw)(hh:Aw.ok Any w h):Calls Try.prog 24 #[.agg (Aw.arr h)] w fun e w'=>e = .returned (.int .i64 (portOf h))∧BN (fun _=>False) w w':=by
 obtain⟨z,hz⟩:∃ z,z=w.heap.size:=⟨_,rfl⟩
 refine BV (args:=[.agg (Aw.arr h)]) 17 ⟨w,z,[(Ak w)]⟩ Try.func24 rfl (by kernel_rfl) (by kernel_rfl) (Fv hz) ?_
 have hbd:=Qu h;have hsd:=KE h;have hwd:=Y4 h;have hsp:=J5 h
 refine Eb [0] [(0,.agg (Aw.arr h))] ?_
 refine q_c 6 1 [] [[o0,o0],[(an 3 1)]] [Qb z,Qb z,Qb z] [(1,pt z),(4,.agg (Aw.arr h))] ⟨w,z+1,[(Ak w),(bk z (Aw.arr h) 77)]⟩ rfl ⟨rfl,rfl,rfl,Ae⟩ ?_
 refine H5 23 #[.agg (Aw.arr h)] (some 5) (i6 (AB h)) (fun w1 hw1=>Nb w1 h (hh.ext (hw1.ext rfl) (fun _ h=>h))) (fun n2 (hn3:z+1≤n2) => ?_)
 refine Di 4 0 [] [[o0]] [] [(1,pt z),(3,i6 (AB h))] rfl Ae ?_
 by_cases h4:(AB h:Int)=0
 ·refine A8 9 0 [1] [[o0,oT,o0],[o0]] [ET (AB h) 0] [(2,i6 0)] rfl ⟨et,Ae⟩ ?_
  refine AZ [] [] (i6 0) Ae ?_
  intro w5 hw5
  refine⟨congrArg (fun n=>Ending.returned (i6 n)) (?_:(0:Int)=portOf h),Bg hw5⟩
  first
   | (have:=hsp.1 (by omega);omega)
   | exact YN (by omega) (by omega)
   | exact Yh (by omega) (by omega)
 refine A8 5 0 [0] [[o0,oF,o0]] [EF (AB h) 0] [(1,pt z),(3,i6 (AB h)),(8,.bool false)] rfl ⟨ef,Ae⟩ ?_
 by_cases h6:(h.Kind:Int)=1
 ·refine A8 9 0 [1] [[o0,(a1 1),oT,o0],[o0,(ov (i6 ((AB h)+1))),o0]] [Qb z,ET h.Kind 1,Wr ((AB h:Int)+1) ((AB h)+1)] [(2,i6 ((AB h)+1))] rfl ⟨rfl,et,Be,Ae⟩ ?_
  refine AZ [] [] (i6 ((AB h)+1)) Ae ?_
  intro w7 hw7
  refine⟨congrArg (fun n=>Ending.returned (i6 n)) (?_:((AB h)+1:Int)=portOf h),Bg hw7⟩
  first
   | (have:=hsp.1 (by omega);omega)
   | exact YN (by omega) (by omega)
   | exact Yh (by omega) (by omega)
 refine A8 9 0 [0] [[o0,(a1 1),oF,o0],[o0,(ov (i6 ((AB h)+2))),o0]] [Qb z,EF h.Kind 1,Wr ((AB h:Int)+2) ((AB h)+2)] [(2,i6 ((AB h)+2))] rfl ⟨rfl,ef,Be,Ae⟩ ?_
 refine AZ [] [] (i6 ((AB h)+2)) Ae ?_
 intro w8 hw8
 refine⟨congrArg (fun n=>Ending.returned (i6 n)) (?_:((AB h)+2:Int)=portOf h),Bg hw8⟩
 first
  | (have:=hsp.1 (by omega);omega)
  | exact YN (by omega) (by omega)
  | exact Yh (by omega) (by omega)
theorem take_snoc{α:Type}[Inhabited α]{xs:List α}{k:Nat}(h:k<xs.length):xs.take (k+1)=xs.take k++[gd xs k]:=by
 rw[List.take_succ_eq_append_getElem h,DC h]
def GN(k:Int)(b:Bool)(q:AC):Bool:=decide (q.Channel=k)&&(q.Source==b)
def Cm(x:Ah)(k:Int)(b:Bool):Nat:=x.Ai.xs.countP (GN k b)
theorem UJ{q:AC}{k:Int}{b:Bool}(h1:q.Channel=k)(h2:q.Source=b):GN k b q=true:=by simp[GN,h1,h2]
theorem Uy{q:AC}{k:Int}{b:Bool}(h1:¬ q.Channel=k):GN k b q=false:=by simp[GN,h1]
theorem Tn{q:AC}{k:Int}{b:Bool}(h2:¬ q.Source=b):GN k b q=false:=by simp[GN,h2]
theorem Za{xs:List AC}{p:AC→Bool}{j:Nat}(h:j<xs.length)(hp:p (gd xs j)=true):(xs.take (j+1)).countP p=(xs.take j).countP p+1:=by
 rw[take_snoc h,List.countP_append];simp only[List.countP_singleton,hp,if_true]
theorem YB{xs:List AC}{p:AC→Bool}{j:Nat}(h:j<xs.length)(hp:p (gd xs j)=false):(xs.take (j+1)).countP p=(xs.take j).countP p:=by
 rw[take_snoc h,List.countP_append];simp[List.countP_singleton,hp]
theorem cnt_le{xs:List AC}{p:AC→Bool}{j:Nat}:(xs.take j).countP p≤j:=Nat.le_trans List.countP_le_length (by rw[List.length_take];omega)
def Ew{α:Type}(f:α→Nat)(xs:List α)(i:Nat):Nat:=((xs.take i).map f).sum
theorem O6{α:Type}[Inhabited α]{f:α→Nat}{xs:List α}{i:Nat}(h:i<xs.length):Ew f xs (i+1)=Ew f xs i+f (gd xs i):=by
 unfold Ew;rw[take_snoc h];simp
theorem Sr{α:Type}[Inhabited α]{f:α→Nat}{xs:List α}{B:Nat}(hf:∀ i,i<xs.length→f (gd xs i)≤B):∀ (i:Nat),i≤xs.length→Ew f xs i≤B*i
 | 0,_=>by simp[Ew]
 | i+1,h=>by
  have:=Sr hf i (by omega)
  have h2:=hf i (by omega)
  rw[O6 (by omega),Nat.mul_succ];omega
def Gx(c:Af)(k:Nat)(b:Bool):Nat:=Ew (fun x=>Cm x k b) c.Aa.xs c.Aa.xs.length
def KA(c:Af)(k:Nat):Bool:=decide (portOf (gd c.Ac.xs k)≠0) && !(decide ((gd c.Ac.xs k).Kind=1)&&decide ((gd c.Ac.xs k).CS≠0))&&decide (Gx c k true=1)&&decide (1≤Gx c k false∧Gx c k false≤4)
def BZ(c:Af):Bool:=decide (0≤c.Kernel∧c.Kernel<1024)&&decide (c.Aa.xs.length≤8)&&decide (c.Ac.xs.length≤16)&&c.Aa.xs.all (CV c.Ac.xs.length)&&(List.range c.Ac.xs.length).all (KA c)
theorem N7{c:Af}(h:¬ (0≤c.Kernel∧c.Kernel<1024)∨8<c.Aa.xs.length∨16<c.Ac.xs.length):BZ c=false:=by
 unfold BZ
 rcases h with h | h | h
 ·rw[decide_eq_false h];rfl
 ·rw[decide_eq_false (show ¬ c.Aa.xs.length≤8 by omega)];simp
 rw[decide_eq_false (show ¬ c.Ac.xs.length≤16 by omega)];simp
theorem Yz{c:Af}{k:Nat}(hk:k<c.Aa.xs.length)(h:CV c.Ac.xs.length (gd c.Aa.xs k)=false):BZ c=false:=by
 unfold BZ
 rw[LP hk h];simp
theorem Ip{c:Af}{k:Nat}(hk:k<c.Ac.xs.length)(h:KA c k=false):BZ c=false:=by
 unfold BZ
 have:(List.range c.Ac.xs.length).all (KA c)=false:=by
  rw[List.all_eq_false];exact⟨k,List.mem_range.2 hk,by simp[h]⟩
 rw[this];simp
theorem Ya{c:Af}(h1:0≤c.Kernel∧c.Kernel<1024)(h2:c.Aa.xs.length≤8)(h3:c.Ac.xs.length≤16)(h4:∀ i,i<c.Aa.xs.length→CV c.Ac.xs.length (gd c.Aa.xs i)=true)(h5:∀ i,i<c.Ac.xs.length→KA c i=true):BZ c=true:=by
 unfold BZ
 rw[decide_eq_true h1,decide_eq_true h2,decide_eq_true h3,SN h4]
 simp only[Bool.and_true,Bool.true_and,List.all_eq_true,List.mem_range]
 exact h5
theorem MG{n:Nat}{x:Ah}(h:CV n x=true):x.Ai.xs.length≤8:=by
 unfold CV at h;simp only[Bool.and_eq_true,decide_eq_true_eq]at h;exact h.1.1.2
theorem part_regs{n:Nat}{x:Ah}(h:CV n x=true):x.Ag.xs.length≤8∧x.Ag.xs.all I7=true:=by
 unfold CV at h;simp only[Bool.and_eq_true,decide_eq_true_eq]at h;exact⟨h.1.1.1,h.1.2⟩
theorem ND{n:Nat}{x:Ah}(h:CV n x=true)(k:Int)(b:Bool):Cm x k b≤8:=Nat.le_trans List.countP_le_length (MG h)
theorem Jk{c:Af}{k:Nat}(h:portOf (gd c.Ac.xs k)=0∨((gd c.Ac.xs k).Kind=1∧(gd c.Ac.xs k).CS≠0)∨Gx c k true≠1∨Gx c k false<1∨4<Gx c k false):KA c k=false:=by
 unfold KA
 rcases h with h | ⟨h,h'⟩ | h | h | h
 ·simp[h]
 ·simp[h,h']
 ·simp[h]
 ·rw[decide_eq_false (show ¬ (1≤Gx c k false∧Gx c k false≤4)by omega)];simp
 rw[decide_eq_false (show ¬ (1≤Gx c k false∧Gx c k false≤4)by omega)];simp
theorem TR{c:Af}{k:Nat}(h1:¬ portOf (gd c.Ac.xs k)=0)(h2:¬ ((gd c.Ac.xs k).Kind=1∧¬ (gd c.Ac.xs k).CS=0))(h3:Gx c k true=1)(h4:1≤Gx c k false∧Gx c k false≤4):KA c k=true:=by
 unfold KA
 rw[decide_eq_true h3,decide_eq_true h4]
 simp[h1]
 by_cases e:(gd c.Ac.xs k).Kind=1
 ·exact .inr (Classical.not_not.1 (fun e2=>h2 ⟨e,e2⟩))
 exact .inl e
section
variable (z:Nat)(x:Ah)
abbrev QS:=bk z (Ah.arr x) 52
abbrev Rf:=(20,Ad x.Ag.xs.length)
abbrev U6:=(53,Ad x.Ai.xs.length)
end
theorem YP(w:World)(x:Ah)(n:Nat)(hx:Ah.ok Any w x):Calls Try.prog 29 #[.agg (Ah.arr x),.int .i64 (n:Int)] w fun e w'=>e = .returned (.bool (CV n x))∧BN (fun _=>False) w w':=by
 obtain⟨z,hz⟩:∃ z,z=w.heap.size:=⟨_,rfl⟩
 refine BV (args:=[.agg (Ah.arr x),Ad n]) 75 ⟨w,z,[(Ak w)]⟩ Try.func29 rfl (by kernel_rfl) (by kernel_rfl) (Fv hz) ?_
 refine Eb [0,1] [(0,.agg (Ah.arr x)),(1,Ad n)] ?_
 refine q_c 6 0 [] [[o0,o0]] [] [(1,Ad n),(2,pt z)] ⟨w,z+1,[(Ak w),(QS z x)]⟩ rfl Ae ?_
 by_cases h1:(8:Int)<(x.Ag.xs.length:Int)
 ·refine A8 9 0 [1] [[o0,(a1 1),o0,oT,o0,o0],[o0]] [Qb z,BT ((x.Ag.xs.length:Int) > 8)] [(4,.bool false)] rfl ⟨rfl,bt,Ae⟩ ?_
  refine AZ [] [] (.bool false) Ae ?_
  intro w2 hw2
  refine⟨congrArg (fun b=>Ending.returned (Value.bool b)) (Eq.symm (?_:CV n x=false)),Bg hw2⟩
  unfold CV
  first
   | (have e1:decide (x.Ag.xs.length≤8)=false:=decide_eq_false (by omega));simp[e1]
   | (have e1:decide (x.Ai.xs.length≤8)=false:=decide_eq_false (by omega));simp[e1]
 by_cases h3:(8:Int)<(x.Ai.xs.length:Int)
 ·refine A8 9 0 [1] [[o0,(a1 1),o0,oF,o0,o0,(a1 1),o0,oT,o0],[o0]] [Qb z,BF ((x.Ag.xs.length:Int) > 8),Qb z,BT ((x.Ai.xs.length:Int) > 8)] [(4,.bool false)] rfl ⟨rfl,bf,rfl,bt,Ae⟩ ?_
  refine AZ [] [] (.bool false) Ae ?_
  intro w4 hw4
  refine⟨congrArg (fun b=>Ending.returned (Value.bool b)) (Eq.symm (?_:CV n x=false)),Bg hw4⟩
  unfold CV
  first
   | (have e1:decide (x.Ag.xs.length≤8)=false:=decide_eq_false (by omega));simp[e1]
   | (have e1:decide (x.Ai.xs.length≤8)=false:=decide_eq_false (by omega));simp[e1]
 refine A8 12 0 [0] [[o0,(a1 1),o0,oF,o0,o0,(a1 1),o0,oF,o0],[o0,(a1 1),o0,o0]] [Qb z,BF ((x.Ag.xs.length:Int) > 8),Qb z,BF ((x.Ai.xs.length:Int) > 8),Qb z] [(1,Ad n),(2,pt z),(Rf x),(21,i6 0)] rfl ⟨rfl,bf,rfl,bf,rfl,Ae⟩ ?_
 refine Ce (fun m a w'=>∃ (n6:Nat) (k:Nat),m=x.Ag.xs.length - k∧z+1≤n6∧(k≤x.Ag.xs.length)∧(∀ i,i<k→I7 (gd x.Ag.xs i)=true)∧St 75 [(1,Ad n),(2,pt z),(Rf x),(21,Ad k)] [] ⟨w,n6,[(Ak w),(QS z x)]⟩ a w') (x.Ag.xs.length - 0) ?_ ?_
 ·intro a w' hs;exact⟨(z+1),0,rfl,Nat.le_refl _,Nat.zero_le _,fun i hi=>absurd hi (Nat.not_lt_zero i),hs⟩
 rintro m a w' ⟨n6,k,rfl,hn5,hkk,hr,hs⟩
 refine(?_:G Try.prog 75 [(1,Ad n),(2,pt z),(Rf x),(21,Ad k)] [] ⟨w,n6,[(Ak w),(QS z x)]⟩ _ _ _) a w' hs
 clear hs a w'
 refine CP ?_
 by_cases h7:(k:Int)<(x.Ag.xs.length:Int)
 ·refine A8 14 0 [1] [[oT],[o0,o0]] [BT ((k:Int)<(x.Ag.xs.length:Int))] [(1,Ad n),(2,pt z),(Rf x),(21,Ad k),(5,Ad k)] rfl ⟨bt,Ae⟩ ?_
  obtain⟨b8,o9,ha10,hF12,hc11⟩:=(hx.Ag).1.all (show 0<x.Ag.xs.length by omega)
  replace ha10:x.Ag.a=some ⟨b8,o9,none⟩:=ha10
  have hc13:=hc11 k (show k<x.Ag.xs.length by omega)
  have he14:=(hx.Ag).2 k (show k<x.Ag.xs.length by omega)
  obtain⟨y15,hy15⟩:∃ y_,y_=gd x.Ag.xs k:=⟨_,rfl⟩
  rw[←hy15]at he14 hc13
  refine q_c 4 0 [] [[o0,(Du 1 b8 o9 x.Ag),o0,(oi k),(ol 0 (Ar.arr y15)),o0,(an 4 2)]] [Qb z,Df b8 o9 x.Ag,BI k,k<x.Ag.xs.length,Bq,Eh w b8 (o9+k*4) (Ar.arr y15),Qb n6,Qb n6,Qb n6,Qb n6] [(1,Ad n),(2,pt z),(Rf x),(21,Ad k),(6,pt n6)] ⟨w,n6+1,[(Ak w),(QS z x),(bk n6 (Ar.arr y15) 54)]⟩ rfl ⟨rfl,Dh ha10,rfl,(by omega),rfl,CB hc13,rfl,rfl,rfl,rfl,Ae⟩ ?_
  by_cases h16:(y15.Ci:Int)<0
  ·refine A8 9 0 [1] [[o0,(a1 2),oT,o0,o0,o0,o0,o0,o0],[o0]] [Qb n6,BT ((y15.Ci:Int)<0)] [(4,.bool false)] rfl ⟨rfl,bt,Ae⟩ ?_
   refine AZ [] [] (.bool false) Ae ?_
   intro w17 hw17
   refine⟨congrArg (fun b=>Ending.returned (Value.bool b)) (Eq.symm (?_:CV n x=false)),Bg hw17⟩
   unfold CV
   have e1:x.Ag.xs.all I7=false:=LP (k:=k) (by omega) (by rw[←hy15];exact decide_eq_false (by omega))
   simp[e1]
  by_cases h18:(256:Int)<y15.Ci
  ·refine A8 9 0 [1] [[o0,(a1 2),oF,o0,o0,(a1 2),oT,o0,o0,o0,o0,o0],[o0]] [Qb n6,BF ((y15.Ci:Int)<0),Qb n6,BT ((y15.Ci:Int) > 256)] [(4,.bool false)] rfl ⟨rfl,bf,rfl,bt,Ae⟩ ?_
   refine AZ [] [] (.bool false) Ae ?_
   intro w19 hw19
   refine⟨congrArg (fun b=>Ending.returned (Value.bool b)) (Eq.symm (?_:CV n x=false)),Bg hw19⟩
   unfold CV
   have e1:x.Ag.xs.all I7=false:=LP (k:=k) (by omega) (by rw[←hy15];exact decide_eq_false (by omega))
   simp[e1]
  by_cases h20:(y15.CE:Int)<1
  ·refine A8 9 0 [1] [[o0,(a1 2),oF,o0,o0,(a1 2),oF,o0,o0,o0,(a1 2),oT,o0,o0,o0],[o0]] [Qb n6,BF ((y15.Ci:Int)<0),Qb n6,BF ((y15.Ci:Int) > 256),Qb n6,BT ((y15.CE:Int)<1)] [(4,.bool false)] rfl ⟨rfl,bf,rfl,bf,rfl,bt,Ae⟩ ?_
   refine AZ [] [] (.bool false) Ae ?_
   intro w21 hw21
   refine⟨congrArg (fun b=>Ending.returned (Value.bool b)) (Eq.symm (?_:CV n x=false)),Bg hw21⟩
   unfold CV
   have e1:x.Ag.xs.all I7=false:=LP (k:=k) (by omega) (by rw[←hy15];exact decide_eq_false (by omega))
   simp[e1]
  by_cases h22:(256 - y15.Ci:Int)<y15.CE
  ·refine A8 9 0 [1] [[o0,(a1 2),oF,o0,o0,(a1 2),oF,o0,o0,o0,(a1 2),oF,o0,o0,o0,(a1 2),o0,(a1 2),(ov (i6 (256 - y15.Ci))),oT,o0],[o0]] [Qb n6,BF ((y15.Ci:Int)<0),Qb n6,BF ((y15.Ci:Int) > 256),Qb n6,BF ((y15.CE:Int)<1),Qb n6,Qb n6,Wr ((256:Int) - y15.Ci) (256 - y15.Ci),BT ((y15.CE:Int) > (256 - y15.Ci))] [(4,.bool false)] rfl ⟨rfl,bf,rfl,bf,rfl,bf,rfl,rfl,Be,bt,Ae⟩ ?_
   refine AZ [] [] (.bool false) Ae ?_
   intro w23 hw23
   refine⟨congrArg (fun b=>Ending.returned (Value.bool b)) (Eq.symm (?_:CV n x=false)),Bg hw23⟩
   unfold CV
   have e1:x.Ag.xs.all I7=false:=LP (k:=k) (by omega) (by rw[←hy15];exact decide_eq_false (by omega))
   simp[e1]
  refine A8 9 0 [0] [[o0,(a1 2),oF,o0,o0,(a1 2),oF,o0,o0,o0,(a1 2),oF,o0,o0,o0,(a1 2),o0,(a1 2),(ov (i6 (256 - y15.Ci))),oF,o0],[(ov (i6 ((k+1:Nat):Int))),o0]] [Qb n6,BF ((y15.Ci:Int)<0),Qb n6,BF ((y15.Ci:Int) > 256),Qb n6,BF ((y15.CE:Int)<1),Qb n6,Qb n6,Wr ((256:Int) - y15.Ci) (256 - y15.Ci),BF ((y15.CE:Int) > (256 - y15.Ci)),Wr ((k:Int)+1) (((k+1:Nat):Int))] [(1,Ad n),(2,pt z),(Rf x),(21,i6 ((k+1:Nat):Int))] rfl ⟨rfl,bf,rfl,bf,rfl,bf,rfl,rfl,Be,bf,Be,Ae⟩ ?_
  refine BO [0,1] [(Ak w),(QS z x)] rfl rfl ?_
  refine Dp [1,2,20,21] [(1,Ad n),(2,pt z),(Rf x),(21,i6 ((k+1:Nat):Int))] ?_
  refine Bz (fun a w' hs=>⟨x.Ag.xs.length - (k+1),by omega,(n6+1),(k+1),rfl,by omega,by omega,upto hr (by rw[←hy15];exact decide_eq_true (by omega)),hs⟩)
 refine A8 16 0 [0] [[oF],[o0,(a1 1),o0,o0]] [BF ((k:Int)<(x.Ag.xs.length:Int)),Qb z] [(1,Ad n),(2,pt z),(U6 x),(54,i6 0)] rfl ⟨bf,rfl,Ae⟩ ?_
 refine Ce (fun m a w'=>∃ (n25:Nat) (j:Nat),m=x.Ai.xs.length - j∧n6≤n25∧(j≤x.Ai.xs.length)∧(∀ i,i<j→OX n (gd x.Ai.xs i)=true)∧St 75 [(1,Ad n),(2,pt z),(U6 x),(54,Ad j)] [] ⟨w,n25,[(Ak w),(QS z x)]⟩ a w') (x.Ai.xs.length - 0) ?_ ?_
 ·intro a w' hs;exact⟨n6,0,rfl,Nat.le_refl _,Nat.zero_le _,fun i hi=>absurd hi (Nat.not_lt_zero i),hs⟩
 rintro m a w' ⟨n25,j,rfl,hn24,hkj,hp,hs⟩
 refine(?_:G Try.prog 75 [(1,Ad n),(2,pt z),(U6 x),(54,Ad j)] [] ⟨w,n25,[(Ak w),(QS z x)]⟩ _ _ _) a w' hs
 clear hs a w'
 refine CP ?_
 by_cases h26:(j:Int)<(x.Ai.xs.length:Int)
 ·refine A8 14 0 [1] [[oT],[o0,o0]] [BT ((j:Int)<(x.Ai.xs.length:Int))] [(1,Ad n),(2,pt z),(U6 x),(54,Ad j),(7,Ad j)] rfl ⟨bt,Ae⟩ ?_
  obtain⟨b27,o28,ha29,hF31,hc30⟩:=(hx.Ai).1.all (show 0<x.Ai.xs.length by omega)
  replace ha29:x.Ai.a=some ⟨b27,o28,none⟩:=ha29
  have hc32:=hc30 j (show j<x.Ai.xs.length by omega)
  have he33:=(hx.Ai).2 j (show j<x.Ai.xs.length by omega)
  obtain⟨y34,hy34⟩:∃ y_,y_=gd x.Ai.xs j:=⟨_,rfl⟩
  rw[←hy34]at he33 hc32
  by_cases h35:(y34.Channel:Int)<0
  ·refine A8 9 0 [1] [[o0,(Du 1 b27 o28 x.Ai),o0,(oi j),o0,(oa [.via 0 (i6 y34.Channel)]),oT,o0,o0],[o0]] [Qb z,Df b27 o28 x.Ai,BI j,j<x.Ai.xs.length,Bq,Old w b27 (o28+j*2) (i6 y34.Channel),BT ((y34.Channel:Int)<0)] [(4,.bool false)] rfl ⟨rfl,Dh ha29,rfl,(by omega),rfl,BA (hc32 0 _ rfl),bt,Ae⟩ ?_
   refine AZ [] [] (.bool false) Ae ?_
   intro w36 hw36
   refine⟨congrArg (fun b=>Ending.returned (Value.bool b)) (Eq.symm (?_:CV n x=false)),Bg hw36⟩
   unfold CV
   have e1:x.Ai.xs.all (OX n)=false:=LP (k:=j) (by omega) (by rw[←hy34];exact decide_eq_false (by omega))
   simp[e1]
  by_cases h37:(y34.Channel:Int)<(n:Int)
  ·refine A8 9 0 [0] [[o0,(Du 1 b27 o28 x.Ai),o0,(oi j),o0,(oa [.via 0 (i6 y34.Channel)]),oF,o0,o0,(Du 1 b27 o28 x.Ai),o0,(oi j),o0,(oa [.via 0 (i6 y34.Channel)]),o0,oF,o0],[(ov (i6 ((j+1:Nat):Int))),o0]] [Qb z,Df b27 o28 x.Ai,BI j,j<x.Ai.xs.length,Bq,Old w b27 (o28+j*2) (i6 y34.Channel),BF ((y34.Channel:Int)<0),Qb z,Df b27 o28 x.Ai,BI j,j<x.Ai.xs.length,Bq,Old w b27 (o28+j*2) (i6 y34.Channel),BF ((y34.Channel:Int)≥(n:Int)),Wr ((j:Int)+1) (((j+1:Nat):Int))] [(1,Ad n),(2,pt z),(U6 x),(54,i6 ((j+1:Nat):Int))] rfl ⟨rfl,Dh ha29,rfl,(by omega),rfl,BA (hc32 0 _ rfl),bf,rfl,Dh ha29,rfl,(by omega),rfl,BA (hc32 0 _ rfl),bf,Be,Ae⟩ ?_
   refine Bz (fun a w' hs=>⟨x.Ai.xs.length - (j+1),by omega,n25,(j+1),rfl,by omega,by omega,upto hp (by rw[←hy34];exact decide_eq_true (by omega)),hs⟩)
  refine A8 9 0 [1] [[o0,(Du 1 b27 o28 x.Ai),o0,(oi j),o0,(oa [.via 0 (i6 y34.Channel)]),oF,o0,o0,(Du 1 b27 o28 x.Ai),o0,(oi j),o0,(oa [.via 0 (i6 y34.Channel)]),o0,oT,o0],[o0]] [Qb z,Df b27 o28 x.Ai,BI j,j<x.Ai.xs.length,Bq,Old w b27 (o28+j*2) (i6 y34.Channel),BF ((y34.Channel:Int)<0),Qb z,Df b27 o28 x.Ai,BI j,j<x.Ai.xs.length,Bq,Old w b27 (o28+j*2) (i6 y34.Channel),BT ((y34.Channel:Int)≥(n:Int))] [(4,.bool false)] rfl ⟨rfl,Dh ha29,rfl,(by omega),rfl,BA (hc32 0 _ rfl),bf,rfl,Dh ha29,rfl,(by omega),rfl,BA (hc32 0 _ rfl),bt,Ae⟩ ?_
  refine AZ [] [] (.bool false) Ae ?_
  intro w38 hw38
  refine⟨congrArg (fun b=>Ending.returned (Value.bool b)) (Eq.symm (?_:CV n x=false)),Bg hw38⟩
  unfold CV
  have e1:x.Ai.xs.all (OX n)=false:=LP (k:=j) (by omega) (by rw[←hy34];exact decide_eq_false (by omega))
  simp[e1]
 refine A8 15 0 [0] [[oF],[o0]] [BF ((j:Int)<(x.Ai.xs.length:Int))] [(4,.bool true)] rfl ⟨bf,Ae⟩ ?_
 refine AZ [] [] (.bool true) Ae ?_
 intro w39 hw39
 refine⟨congrArg (fun b=>Ending.returned (Value.bool b)) (Eq.symm (?_:CV n x=true)),Bg hw39⟩
 have e1:x.Ag.xs.all I7=true:=SN (fun i hi=>hr i (by omega))
 have e2:x.Ai.xs.all (OX n)=true:=SN (fun i hi=>hp i (by omega))
 simp only[CV,e1,e2,Bool.and_true,Bool.and_eq_true,decide_eq_true_eq]
 omega
section
variable (x:Ah)(j:Nat)(ch:Int)(b:Bool)
abbrev PV:=(7,i6 ((((x.Ai.xs.take j).countP (GN ch b))+1:Nat):Int))
abbrev KW:=(7,i6 (((x.Ai.xs.take j).countP (GN ch b):Nat):Int))
abbrev IY:=(11,Ad x.Ai.xs.length)
abbrev KC:=(12,i6 ((j+1:Nat):Int))
end
theorem PQ(w:World)(x:Ah)(ch:Int)(b:Bool)(hx:Ah.ok Any w x):Calls Try.prog 31 #[.agg (Ah.arr x),.int .i64 ch,.bool b] w fun e w'=>e = .returned (.int .i64 (Cm x ch b:Nat))∧BN (fun _=>False) w w':=by
 obtain⟨z,hz⟩:∃ z,z=w.heap.size:=⟨_,rfl⟩
 refine BV (args:=[.agg (Ah.arr x),i6 ch,.bool b]) 37 ⟨w,z,[(Ak w)]⟩ Try.func31 rfl (by kernel_rfl) (by kernel_rfl) (Fv hz) ?_
 have hlP:=hx.Ai.1.len
 refine Eb [0,1,2] [(0,.agg (Ah.arr x)),(1,i6 ch),(2,.bool b)] ?_
 refine q_c 14 0 [] [[o0,o0],[o0],[o0,(a1 1),o0,o0]] [Qb z] [(1,i6 ch),(2,.bool b),(3,pt z),(7,i6 0),(IY x),(12,i6 0)] ⟨w,z+1,[(Ak w),(bk z (Ah.arr x) 52)]⟩ rfl ⟨rfl,Ae⟩ ?_
 refine Ce (fun m a w'=>∃ (n2:Nat) (j:Nat),m=x.Ai.xs.length - j∧z+1≤n2∧(j≤x.Ai.xs.length)∧St 37 [(1,i6 ch),(2,.bool b),(3,pt z),(KW x j ch b),(IY x),(12,Ad j)] [] ⟨w,n2,[(Ak w),(bk z (Ah.arr x) 52)]⟩ a w') (x.Ai.xs.length - 0) ?_ ?_
 ·intro a w' hs;exact⟨(z+1),0,rfl,Nat.le_refl _,Nat.zero_le _,hs⟩
 rintro m a w' ⟨n2,j,rfl,hn1,hkj,hs⟩
 refine(?_:G Try.prog 37 [(1,i6 ch),(2,.bool b),(3,pt z),(KW x j ch b),(IY x),(12,Ad j)] [] ⟨w,n2,[(Ak w),(bk z (Ah.arr x) 52)]⟩ _ _ _) a w' hs
 clear hs a w'
 have hcl:(x.Ai.xs.take j).countP (GN ch b)≤j:=cnt_le
 refine CP ?_
 by_cases h3:(j:Int)<(x.Ai.xs.length:Int)
 ·refine A8 14 0 [1] [[oT],[o0,o0]] [BT ((j:Int)<(x.Ai.xs.length:Int))] [(1,i6 ch),(2,.bool b),(3,pt z),(KW x j ch b),(IY x),(12,Ad j),(8,Ad j)] rfl ⟨bt,Ae⟩ ?_
  obtain⟨b4,o5,ha6,hF8,hc7⟩:=(hx.Ai).1.all (show 0<x.Ai.xs.length by omega)
  replace ha6:x.Ai.a=some ⟨b4,o5,none⟩:=ha6
  have hc9:=hc7 j (show j<x.Ai.xs.length by omega)
  have he10:=(hx.Ai).2 j (show j<x.Ai.xs.length by omega)
  obtain⟨y11,hy11⟩:∃ y_,y_=gd x.Ai.xs j:=⟨_,rfl⟩
  rw[←hy11]at he10 hc9
  by_cases h12:(y11.Channel:Int)=ch
  ·by_cases h13:y11.Source=true
   ·by_cases h14:b=true
    ·refine A8 10 0 [1] [[o0,(Du 1 b4 o5 x.Ai),o0,(oi j),o0,(oa [.via 0 (i6 y11.Channel)]),o0,oT,o0,o0,(Du 1 b4 o5 x.Ai),o0,(oi j),o0,(oa [.via 0 (.bool y11.Source)]),(ov (.bool true)),(ov (.bool true)),o0],[o0,(ov (i6 ((((x.Ai.xs.take j).countP (GN ch b))+1:Nat):Int))),o0],[(ov (i6 ((j+1:Nat):Int))),o0]] [Qb z,Df b4 o5 x.Ai,BI j,j<x.Ai.xs.length,Bq,Old w b4 (o5+j*2) (i6 y11.Channel),ET y11.Channel ch,Qb z,Df b4 o5 x.Ai,BI j,j<x.Ai.xs.length,Bq,Old w b4 (o5+j*2+1) (.bool y11.Source),Value.bool b=Value.bool true,Value.bool ((y11.Source==true))=Value.bool true,Wr (((((x.Ai.xs.take j).countP (GN ch b):Nat):Int):Int)+1) (((((x.Ai.xs.take j).countP (GN ch b))+1:Nat):Int)),Wr ((j:Int)+1) (((j+1:Nat):Int))] [(1,i6 ch),(2,.bool b),(3,pt z),(PV x j ch b),(IY x),(KC j)] rfl ⟨rfl,Dh ha6,rfl,(by omega),rfl,BA (hc9 0 _ rfl),et,rfl,Dh ha6,rfl,(by omega),rfl,BA (hc9 1 _ rfl),(congrArg Value.bool h14),by simp[h13],Be,Be,Ae⟩ ?_
     have hT:=Za (p:=GN ch b) (show j<x.Ai.xs.length by omega) (by rw[←hy11];exact UJ (by omega) (by revert h13 h14;cases y11.Source <;> cases b <;> simp))
     refine Dp [1,2,3,7,11,12] [(1,i6 ch),(2,.bool b),(3,pt z),(PV x j ch b),(IY x),(KC j)] ?_
     refine Bz (fun a w' hs=>⟨x.Ai.xs.length - (j+1),by omega,n2,(j+1),rfl,by omega,by omega,by(try dsimp only[PV,KW,IY,KC]at hs ⊢);rw[hT];exact hs⟩)
    refine A8 9 0 [0] [[o0,(Du 1 b4 o5 x.Ai),o0,(oi j),o0,(oa [.via 0 (i6 y11.Channel)]),o0,oT,o0,o0,(Du 1 b4 o5 x.Ai),o0,(oi j),o0,(oa [.via 0 (.bool y11.Source)]),(ov (.bool false)),(ov (.bool false)),o0],[(ov (i6 ((j+1:Nat):Int))),o0]] [Qb z,Df b4 o5 x.Ai,BI j,j<x.Ai.xs.length,Bq,Old w b4 (o5+j*2) (i6 y11.Channel),ET y11.Channel ch,Qb z,Df b4 o5 x.Ai,BI j,j<x.Ai.xs.length,Bq,Old w b4 (o5+j*2+1) (.bool y11.Source),Value.bool b=Value.bool false,Value.bool ((y11.Source==false))=Value.bool false,Wr ((j:Int)+1) (((j+1:Nat):Int))] [(1,i6 ch),(2,.bool b),(3,pt z),(KW x j ch b),(IY x),(KC j)] rfl ⟨rfl,Dh ha6,rfl,(by omega),rfl,BA (hc9 0 _ rfl),et,rfl,Dh ha6,rfl,(by omega),rfl,BA (hc9 1 _ rfl),(congrArg Value.bool (Bool.eq_false_iff.2 h14)),by simp[h13],Be,Ae⟩ ?_
    have hT:=YB (p:=GN ch b) (show j<x.Ai.xs.length by omega) (by rw[←hy11];exact Tn (by revert h13 h14;cases y11.Source <;> cases b <;> simp))
    refine Dp [1,2,3,7,11,12] [(1,i6 ch),(2,.bool b),(3,pt z),(KW x j ch b),(IY x),(KC j)] ?_
    refine Bz (fun a w' hs=>⟨x.Ai.xs.length - (j+1),by omega,n2,(j+1),rfl,by omega,by omega,by(try dsimp only[PV,KW,IY,KC]at hs ⊢);rw[hT];exact hs⟩)
   by_cases h15:b=true
   ·refine A8 9 0 [0] [[o0,(Du 1 b4 o5 x.Ai),o0,(oi j),o0,(oa [.via 0 (i6 y11.Channel)]),o0,oT,o0,o0,(Du 1 b4 o5 x.Ai),o0,(oi j),o0,(oa [.via 0 (.bool y11.Source)]),(ov (.bool true)),(ov (.bool false)),o0],[(ov (i6 ((j+1:Nat):Int))),o0]] [Qb z,Df b4 o5 x.Ai,BI j,j<x.Ai.xs.length,Bq,Old w b4 (o5+j*2) (i6 y11.Channel),ET y11.Channel ch,Qb z,Df b4 o5 x.Ai,BI j,j<x.Ai.xs.length,Bq,Old w b4 (o5+j*2+1) (.bool y11.Source),Value.bool b=Value.bool true,Value.bool ((y11.Source==true))=Value.bool false,Wr ((j:Int)+1) (((j+1:Nat):Int))] [(1,i6 ch),(2,.bool b),(3,pt z),(KW x j ch b),(IY x),(KC j)] rfl ⟨rfl,Dh ha6,rfl,(by omega),rfl,BA (hc9 0 _ rfl),et,rfl,Dh ha6,rfl,(by omega),rfl,BA (hc9 1 _ rfl),(congrArg Value.bool h15),by simp[h13],Be,Ae⟩ ?_
    have hT:=YB (p:=GN ch b) (show j<x.Ai.xs.length by omega) (by rw[←hy11];exact Tn (by revert h13 h15;cases y11.Source <;> cases b <;> simp))
    refine Dp [1,2,3,7,11,12] [(1,i6 ch),(2,.bool b),(3,pt z),(KW x j ch b),(IY x),(KC j)] ?_
    refine Bz (fun a w' hs=>⟨x.Ai.xs.length - (j+1),by omega,n2,(j+1),rfl,by omega,by omega,by(try dsimp only[PV,KW,IY,KC]at hs ⊢);rw[hT];exact hs⟩)
   refine A8 10 0 [1] [[o0,(Du 1 b4 o5 x.Ai),o0,(oi j),o0,(oa [.via 0 (i6 y11.Channel)]),o0,oT,o0,o0,(Du 1 b4 o5 x.Ai),o0,(oi j),o0,(oa [.via 0 (.bool y11.Source)]),(ov (.bool false)),(ov (.bool true)),o0],[o0,(ov (i6 ((((x.Ai.xs.take j).countP (GN ch b))+1:Nat):Int))),o0],[(ov (i6 ((j+1:Nat):Int))),o0]] [Qb z,Df b4 o5 x.Ai,BI j,j<x.Ai.xs.length,Bq,Old w b4 (o5+j*2) (i6 y11.Channel),ET y11.Channel ch,Qb z,Df b4 o5 x.Ai,BI j,j<x.Ai.xs.length,Bq,Old w b4 (o5+j*2+1) (.bool y11.Source),Value.bool b=Value.bool false,Value.bool ((y11.Source==false))=Value.bool true,Wr (((((x.Ai.xs.take j).countP (GN ch b):Nat):Int):Int)+1) (((((x.Ai.xs.take j).countP (GN ch b))+1:Nat):Int)),Wr ((j:Int)+1) (((j+1:Nat):Int))] [(1,i6 ch),(2,.bool b),(3,pt z),(PV x j ch b),(IY x),(KC j)] rfl ⟨rfl,Dh ha6,rfl,(by omega),rfl,BA (hc9 0 _ rfl),et,rfl,Dh ha6,rfl,(by omega),rfl,BA (hc9 1 _ rfl),(congrArg Value.bool (Bool.eq_false_iff.2 h15)),by simp[h13],Be,Be,Ae⟩ ?_
   have hT:=Za (p:=GN ch b) (show j<x.Ai.xs.length by omega) (by rw[←hy11];exact UJ (by omega) (by revert h13 h15;cases y11.Source <;> cases b <;> simp))
   refine Dp [1,2,3,7,11,12] [(1,i6 ch),(2,.bool b),(3,pt z),(PV x j ch b),(IY x),(KC j)] ?_
   refine Bz (fun a w' hs=>⟨x.Ai.xs.length - (j+1),by omega,n2,(j+1),rfl,by omega,by omega,by(try dsimp only[PV,KW,IY,KC]at hs ⊢);rw[hT];exact hs⟩)
  refine A8 9 0 [0] [[o0,(Du 1 b4 o5 x.Ai),o0,(oi j),o0,(oa [.via 0 (i6 y11.Channel)]),o0,oF,o0,o0],[(ov (i6 ((j+1:Nat):Int))),o0]] [Qb z,Df b4 o5 x.Ai,BI j,j<x.Ai.xs.length,Bq,Old w b4 (o5+j*2) (i6 y11.Channel),EF y11.Channel ch,Wr ((j:Int)+1) (((j+1:Nat):Int))] [(1,i6 ch),(2,.bool b),(3,pt z),(KW x j ch b),(IY x),(KC j)] rfl ⟨rfl,Dh ha6,rfl,(by omega),rfl,BA (hc9 0 _ rfl),ef,Be,Ae⟩ ?_
  have hT:=YB (p:=GN ch b) (show j<x.Ai.xs.length by omega) (by rw[←hy11];exact Uy (by omega))
  refine Dp [1,2,3,7,11,12] [(1,i6 ch),(2,.bool b),(3,pt z),(KW x j ch b),(IY x),(KC j)] ?_
  refine Bz (fun a w' hs=>⟨x.Ai.xs.length - (j+1),by omega,n2,(j+1),rfl,by omega,by omega,by(try dsimp only[KW,IY,KC]at hs ⊢);rw[hT];exact hs⟩)
 refine A8 15 0 [0] [[oF],[o0,o0]] [BF ((j:Int)<(x.Ai.xs.length:Int))] [(6,i6 (((x.Ai.xs.take j).countP (GN ch b):Nat):Int))] rfl ⟨bf,Ae⟩ ?_
 refine AZ [] [] (i6 (((x.Ai.xs.take j).countP (GN ch b):Nat):Int)) Ae ?_
 intro w16 hw16
 refine⟨congrArg (fun n=>Ending.returned (i6 n)) (?_:((((x.Ai.xs.take j).countP (GN ch b):Nat):Int):Int)=(Cm x ch b:Int)),Bg hw16⟩
 rw[show j=x.Ai.xs.length by omega,List.take_length];rfl
section
variable (n25:Nat)(y34:Aw)(z:Nat)(c:Af)(k2 k3:Nat)(y52 y76:Ah)
abbrev QU:=bk n25 (Aw.arr y34) 77
abbrev KD:=bk z (Af.arr c) 26
abbrev Wq:=(6,i6 (((Ew (fun x=>Cm x (k2:Int) true) c.Aa.xs k3)+(Cm y52 (k2:Int) true):Nat):Int))
abbrev WC:=(6,i6 (((Ew (fun x=>Cm x (k2:Int) true) c.Aa.xs k3)+(Cm y76 (k2:Int) true):Nat):Int))
abbrev MN:=(7,i6 ((Ew (fun x=>Cm x (k2:Int) false) c.Aa.xs k3:Nat):Int))
abbrev Oi:=(6,i6 ((Ew (fun x=>Cm x (k2:Int) true) c.Aa.xs k3:Nat):Int))
abbrev NC:=(31,Ad c.Aa.xs.length)
abbrev I8:=(72,Ad c.Aa.xs.length)
abbrev F7:=(48,Ad c.Ac.xs.length)
end
theorem WI(w:World)(c:Af)(hc:Af.ok Any w c):Calls Try.prog 15 #[.agg (Af.arr c)] w fun e w'=>e = .returned (.bool (BZ c))∧BN (fun _=>False) w w':=by
 obtain⟨z,hz⟩:∃ z,z=w.heap.size:=⟨_,rfl⟩
 refine BV (args:=[.agg (Af.arr c)]) 106 ⟨w,z,[(Ak w)]⟩ Try.func15 rfl (by kernel_rfl) (by kernel_rfl) (Fv hz) ?_
 have hlC:=hc.Ac.1.len
 refine Eb [0] [(0,.agg (Af.arr c))] ?_
 refine q_c 6 0 [] [[o0,o0]] [] [(1,pt z)] ⟨w,z+1,[(Ak w),(KD z c)]⟩ rfl Ae ?_
 by_cases h1:(c.Kernel:Int)<0
 ·refine A8 9 0 [1] [[o0,(a1 1),oT,o0,o0,o0,o0,o0,o0],[o0]] [Qb z,BT ((c.Kernel:Int)<0)] [(2,.bool false)] rfl ⟨rfl,bt,Ae⟩ ?_
  refine AZ [] [] (.bool false) Ae ?_
  intro w2 hw2
  refine⟨congrArg (fun b=>Ending.returned (Value.bool b)) (Eq.symm (?_:BZ c=false)),Bg hw2⟩
  exact N7 (by omega)
 by_cases h3:(c.Kernel:Int)<1024
 ·by_cases h4:(8:Int)<(c.Aa.xs.length:Int)
  ·refine A8 9 0 [1] [[o0,(a1 1),oF,o0,o0,(a1 1),oF,o0,o0,o0,(a1 1),o0,oT,o0,o0,o0],[o0]] [Qb z,BF ((c.Kernel:Int)<0),Qb z,BF ((c.Kernel:Int)≥1024),Qb z,BT ((c.Aa.xs.length:Int) > 8)] [(2,.bool false)] rfl ⟨rfl,bf,rfl,bf,rfl,bt,Ae⟩ ?_
   refine AZ [] [] (.bool false) Ae ?_
   intro w5 hw5
   refine⟨congrArg (fun b=>Ending.returned (Value.bool b)) (Eq.symm (?_:BZ c=false)),Bg hw5⟩
   exact N7 (by omega)
  by_cases h6:(16:Int)<(c.Ac.xs.length:Int)
  ·refine A8 9 0 [1] [[o0,(a1 1),oF,o0,o0,(a1 1),oF,o0,o0,o0,(a1 1),o0,oF,o0,o0,o0,(a1 1),o0,oT,o0],[o0]] [Qb z,BF ((c.Kernel:Int)<0),Qb z,BF ((c.Kernel:Int)≥1024),Qb z,BF ((c.Aa.xs.length:Int) > 8),Qb z,BT ((c.Ac.xs.length:Int) > 16)] [(2,.bool false)] rfl ⟨rfl,bf,rfl,bf,rfl,bf,rfl,bt,Ae⟩ ?_
   refine AZ [] [] (.bool false) Ae ?_
   intro w7 hw7
   refine⟨congrArg (fun b=>Ending.returned (Value.bool b)) (Eq.symm (?_:BZ c=false)),Bg hw7⟩
   exact N7 (by omega)
  refine A8 12 0 [0] [[o0,(a1 1),oF,o0,o0,(a1 1),oF,o0,o0,o0,(a1 1),o0,oF,o0,o0,o0,(a1 1),o0,oF,o0],[o0,(a1 1),o0,o0]] [Qb z,BF ((c.Kernel:Int)<0),Qb z,BF ((c.Kernel:Int)≥1024),Qb z,BF ((c.Aa.xs.length:Int) > 8),Qb z,BF ((c.Ac.xs.length:Int) > 16),Qb z] [(1,pt z),(NC c),(32,i6 0)] rfl ⟨rfl,bf,rfl,bf,rfl,bf,rfl,bf,rfl,Ae⟩ ?_
  refine Ce (fun m a w'=>∃ (n9:Nat) (k:Nat),m=c.Aa.xs.length - k∧z+1≤n9∧(k≤c.Aa.xs.length)∧(∀ i,i<k→CV c.Ac.xs.length (gd c.Aa.xs i)=true)∧St 106 [(1,pt z),(NC c),(32,Ad k)] [] ⟨w,n9,[(Ak w),(KD z c)]⟩ a w') (c.Aa.xs.length - 0) ?_ ?_
  ·intro a w' hs;exact⟨(z+1),0,rfl,Nat.le_refl _,Nat.zero_le _,fun i hi=>absurd hi (Nat.not_lt_zero i),hs⟩
  rintro m a w' ⟨n9,k,rfl,hn8,hkk,hp,hs⟩
  refine(?_:G Try.prog 106 [(1,pt z),(NC c),(32,Ad k)] [] ⟨w,n9,[(Ak w),(KD z c)]⟩ _ _ _) a w' hs
  clear hs a w'
  refine CP ?_
  by_cases h10:(k:Int)<(c.Aa.xs.length:Int)
  ·refine A8 14 0 [1] [[oT],[o0,o0]] [BT ((k:Int)<(c.Aa.xs.length:Int))] [(1,pt z),(NC c),(32,Ad k),(3,Ad k)] rfl ⟨bt,Ae⟩ ?_
   obtain⟨b11,o12,ha13,hF15,hc14⟩:=(hc.Aa).1.all (show 0<c.Aa.xs.length by omega)
   replace ha13:c.Aa.a=some ⟨b11,o12,none⟩:=ha13
   have hc16:=hc14 k (show k<c.Aa.xs.length by omega)
   have he17:=(hc.Aa).2 k (show k<c.Aa.xs.length by omega)
   obtain⟨y18,hy18⟩:∃ y_,y_=gd c.Aa.xs k:=⟨_,rfl⟩
   rw[←hy18]at he17 hc16
   refine Fp 10 [0,1] [(Ak w),(KD z c)] rfl rfl ?_
   refine CU [(0,o0),(1,(Du 1 b11 o12 c.Aa)),(2,o0),(3,(oi k)),(4,(ol 0 (Ah.arr y18))),(5,o0),(6,(a1 1)),(7,o0)] [1,31,32,39,42] [Qb z,Df b11 o12 c.Aa,BI k,k<c.Aa.xs.length,Bq,Eh w b11 (o12+k*8) (Ah.arr y18),Qb z] (Ed 8 2) [(1,pt z),(NC c),(32,Ad k),(39,.agg (Ah.arr y18)),(42,Ad c.Ac.xs.length)] ⟨rfl,Dh ha13,rfl,(by omega),rfl,CB hc16,rfl,Ae⟩ ?_
   refine CX 8 ?_
   refine FZ [] [] 29 #[.agg (Ah.arr y18),Ad c.Ac.xs.length] (some 43) (by as_aux_lemma=>kernel_rfl) rfl rfl Ae ?_
   intro w19 hw19
   refine(YP w19 y18 c.Ac.xs.length (he17.ext (hw19.ext rfl) (fun _ h=>h))).mono ?_
   rintro e w20 ⟨rfl,hkw20⟩
   have hnw20:n9≤w20.heap.size:=Dx hw19 hkw20
   have hs21:=hw19.keeps hkw20
   refine⟨_,_,rfl,hs21,.inr (fun c hc=>hs21.all c (by first | exact hc | exact Dt (is:=[0,1]) rfl c hc)), ?_⟩
   refine DV [1,31,32,43] [(1,pt z),(NC c),(32,Ad k),(43,.bool (CV c.Ac.xs.length y18))] ?_
   by_cases h22:(CV c.Ac.xs.length y18)=true
   ·refine CU [(9,(ov (.bool false)))] [1,31,32,44] [Value.bool (!(CV c.Ac.xs.length y18))=Value.bool false] (Ed 10 0) [(1,pt z),(NC c),(32,Ad k),(44,.bool false)] ⟨by simp[h22],Ae⟩ ?_
    refine D9 ?_
    refine Ja 7 0 [0] [[(ov (i6 ((k+1:Nat):Int))),o0]] [Wr ((k:Int)+1) (((k+1:Nat):Int))] [(1,pt z),(NC c),(32,i6 ((k+1:Nat):Int))] rfl ⟨Be,Ae⟩ ?_
    refine Bz (fun a w' hs=>⟨c.Aa.xs.length - (k+1),by omega,w20.heap.size,(k+1),rfl,by omega,by omega,upto hp (by rw[←hy18];exact h22),hs⟩)
   refine CU [(9,(ov (.bool true)))] [1,31,32,44] [Value.bool (!(CV c.Ac.xs.length y18))=Value.bool true] (Ed 10 0) [(1,pt z),(NC c),(32,Ad k),(44,.bool true)] ⟨by simp[h22],Ae⟩ ?_
   refine D9 ?_
   refine Ja 7 0 [1] [[o0]] [] [(2,.bool false)] rfl Ae ?_
   refine AZ [] [] (.bool false) Ae ?_
   intro w23 hw23
   refine⟨congrArg (fun b=>Ending.returned (Value.bool b)) (Eq.symm (?_:BZ c=false)),Bg hw23⟩
   exact Yz (k:=k) (by omega) (by rw[←hy18];exact Bool.eq_false_iff.2 h22)
  refine A8 16 0 [0] [[oF],[o0,(a1 1),o0,o0]] [BF ((k:Int)<(c.Aa.xs.length:Int)),Qb z] [(1,pt z),(F7 c),(49,i6 0)] rfl ⟨bf,rfl,Ae⟩ ?_
  refine Ce (fun m a w'=>∃ (n25:Nat) (k2:Nat),m=c.Ac.xs.length - k2∧n9≤n25∧(k2≤c.Ac.xs.length)∧(∀ i,i<k2→KA c i=true)∧St 106 [(1,pt z),(F7 c),(49,Ad k2)] [] ⟨w,n25,[(Ak w),(KD z c)]⟩ a w') (c.Ac.xs.length - 0) ?_ ?_
  ·intro a w' hs;exact⟨n9,0,rfl,Nat.le_refl _,Nat.zero_le _,fun i hi=>absurd hi (Nat.not_lt_zero i),hs⟩
  rintro m a w' ⟨n25,k2,rfl,hn24,hkk2,hch,hs⟩
  refine(?_:G Try.prog 106 [(1,pt z),(F7 c),(49,Ad k2)] [] ⟨w,n25,[(Ak w),(KD z c)]⟩ _ _ _) a w' hs
  clear hs a w'
  refine CP ?_
  by_cases h26:(k2:Int)<(c.Ac.xs.length:Int)
  ·refine A8 14 0 [1] [[oT],[o0,o0]] [BT ((k2:Int)<(c.Ac.xs.length:Int))] [(1,pt z),(F7 c),(49,Ad k2),(4,Ad k2)] rfl ⟨bt,Ae⟩ ?_
   obtain⟨b27,o28,ha29,hF31,hc30⟩:=(hc.Ac).1.all (show 0<c.Ac.xs.length by omega)
   replace ha29:c.Ac.a=some ⟨b27,o28,none⟩:=ha29
   have hc32:=hc30 k2 (show k2<c.Ac.xs.length by omega)
   have he33:=(hc.Ac).2 k2 (show k2<c.Ac.xs.length by omega)
   obtain⟨y34,hy34⟩:∃ y_,y_=gd c.Ac.xs k2:=⟨_,rfl⟩
   rw[←hy34]at he33 hc32
   refine q_c 6 1 [] [[o0,(Du 1 b27 o28 c.Ac),o0,(oi k2),(ol 0 (Aw.arr y34)),o0,(an 3 2)],[(an 3 2)]] [Qb z,Df b27 o28 c.Ac,BI k2,k2<c.Ac.xs.length,Bq,Eh w b27 (o28+k2*3) (Aw.arr y34),Qb n25,Qb n25,Qb n25,Qb n25,Qb n25,Qb n25] [(1,pt z),(F7 c),(49,Ad k2),(4,Ad k2),(5,pt n25),(57,.agg (Aw.arr y34))] ⟨w,n25+1,[(Ak w),(KD z c),(QU n25 y34)]⟩ rfl ⟨rfl,Dh ha29,rfl,(by omega),rfl,CB hc32,rfl,rfl,rfl,rfl,rfl,rfl,Ae⟩ ?_
   refine H5 30 #[.agg (Aw.arr y34)] (some 58) (i6 (portOf y34)) (fun w35 hw35=>RX w35 y34 (he33.ext (hw35.ext rfl) (fun _ h=>h))) (fun n36 (hn37:n25+1≤n36) => ?_)
   refine Ui [1,48,49,4,5,58] [(1,pt z),(F7 c),(49,Ad k2),(4,Ad k2),(5,pt n25),(58,i6 (portOf y34))] ?_
   by_cases h38:(portOf y34:Int)=0
   ·refine Di 8 0 [1] [[oT,o0,o0],[o0]] [ET (portOf y34) 0] [(2,.bool false)] rfl ⟨et,Ae⟩ ?_
    refine AZ [] [] (.bool false) Ae ?_
    intro w39 hw39
    refine⟨congrArg (fun b=>Ending.returned (Value.bool b)) (Eq.symm (?_:BZ c=false)),Bg hw39⟩
    exact Ip (k:=k2) (by omega) (Jk (by rw[←hy34];first | omega | (right;right;unfold Gx;rw[show c.Aa.xs.length=k3 by omega];omega)))
   by_cases h40:(y34.Kind:Int)=1
   ·by_cases h41:(y34.CS:Int)=0
    ·refine Di 19 0 [0] [[oF,o0,o0,(a1 2),oT,o0,o0,(a1 2),oF,o0,o0],[o0],[o0],[o0,(a1 1),o0,o0]] [EF (portOf y34) 0,Qb n25,ET y34.Kind 1,Qb n25,NF y34.CS 0,Qb z] [(1,pt z),(4,Ad k2),(6,i6 0),(7,i6 0),(F7 c),(49,Ad k2),(I8 c),(73,i6 0)] rfl ⟨ef,rfl,et,rfl,nf,rfl,Ae⟩ ?_
     refine Ce (fun m a w'=>∃ (n43:Nat) (k3:Nat),m=c.Aa.xs.length - k3∧n36≤n43∧(k3≤c.Aa.xs.length)∧St 106 [(1,pt z),(4,Ad k2),(Oi c k2 k3),(MN c k2 k3),(F7 c),(49,Ad k2),(I8 c),(73,Ad k3)] [] ⟨w,n43,[(Ak w),(KD z c),(QU n25 y34)]⟩ a w') (c.Aa.xs.length - 0) ?_ ?_
     ·intro a w' hs;exact⟨n36,0,rfl,Nat.le_refl _,Nat.zero_le _,hs⟩
     rintro m a w' ⟨n43,k3,rfl,hn42,hkk3,hs⟩
     refine(?_:G Try.prog 106 [(1,pt z),(4,Ad k2),(Oi c k2 k3),(MN c k2 k3),(F7 c),(49,Ad k2),(I8 c),(73,Ad k3)] [] ⟨w,n43,[(Ak w),(KD z c),(QU n25 y34)]⟩ _ _ _) a w' hs
     clear hs a w'
     have hsa:=Sr (f:=fun x=>Cm x (k2:Int) true) (B:=8) (xs:=c.Aa.xs) (fun i hi=>ND (hp i (by omega)) _ _) k3 hkk3
     have hsb:=Sr (f:=fun x=>Cm x (k2:Int) false) (B:=8) (xs:=c.Aa.xs) (fun i hi=>ND (hp i (by omega)) _ _) k3 hkk3
     refine CP ?_
     by_cases h44:(k3:Int)<(c.Aa.xs.length:Int)
     ·refine A8 14 0 [1] [[oT],[o0,o0]] [BT ((k3:Int)<(c.Aa.xs.length:Int))] [(1,pt z),(4,Ad k2),(Oi c k2 k3),(MN c k2 k3),(F7 c),(49,Ad k2),(I8 c),(73,Ad k3),(8,Ad k3)] rfl ⟨bt,Ae⟩ ?_
      obtain⟨b45,o46,ha47,hF49,hc48⟩:=(hc.Aa).1.all (show 0<c.Aa.xs.length by omega)
      replace ha47:c.Aa.a=some ⟨b45,o46,none⟩:=ha47
      have hc50:=hc48 k3 (show k3<c.Aa.xs.length by omega)
      have he51:=(hc.Aa).2 k3 (show k3<c.Aa.xs.length by omega)
      obtain⟨y52,hy52⟩:∃ y_,y_=gd c.Aa.xs k3:=⟨_,rfl⟩
      rw[←hy52]at he51 hc50
      have hqy52:=hp k3 (by omega);rw[←hy52]at hqy52;have hl1y52:=ND hqy52 (k2:Int) true;have hl2y52:=ND hqy52 (k2:Int) false
      refine A8 1 7 [] [[o0,o0,(Du 1 b45 o46 c.Aa),o0,(oi k3),(ol 0 (Ah.arr y52)),o0]] [Qb z,Df b45 o46 c.Aa,BI k3,k3<c.Aa.xs.length,Bq,Eh w b45 (o46+k3*8) (Ah.arr y52)] [(1,pt z),(4,Ad k2),(MN c k2 k3),(F7 c),(49,Ad k2),(I8 c),(73,Ad k3),(8,Ad k3),(76,i6 ((Ew (fun x=>Cm x (k2:Int) true) c.Aa.xs k3:Nat):Int)),(81,.agg (Ah.arr y52)),(82,Ad k2)] rfl ⟨rfl,Dh ha47,rfl,(by omega),rfl,CB hc50,Ae⟩ ?_
      refine H5 31 #[.agg (Ah.arr y52),Ad k2,.bool true] (some 83) (i6 ((Cm y52 (k2:Int) true:Nat):Int)) (fun w53 hw53=>PQ w53 y52 (k2:Int) true (he51.ext (hw53.ext rfl) (fun _ h=>h))) (fun n54 (hn55:n43≤n54) => ?_)
      refine Di 3 7 [] [[(ov (i6 (((Ew (fun x=>Cm x (k2:Int) true) c.Aa.xs k3)+(Cm y52 (k2:Int) true):Nat):Int))),o0],[o0,o0,(Du 1 b45 o46 c.Aa),o0,(oi k3),(ol 0 (Ah.arr y52)),o0]] [Wr ((((Ew (fun x=>Cm x (k2:Int) true) c.Aa.xs k3:Nat):Int):Int)+((Cm y52 (k2:Int) true:Nat):Int)) ((((Ew (fun x=>Cm x (k2:Int) true) c.Aa.xs k3)+(Cm y52 (k2:Int) true):Nat):Int)),Qb z,Df b45 o46 c.Aa,BI k3,k3<c.Aa.xs.length,Bq,Eh w b45 (o46+k3*8) (Ah.arr y52)] [(1,pt z),(4,Ad k2),(F7 c),(49,Ad k2),(I8 c),(73,Ad k3),(Wq c k2 k3 y52),(85,i6 ((Ew (fun x=>Cm x (k2:Int) false) c.Aa.xs k3:Nat):Int)),(90,.agg (Ah.arr y52)),(91,Ad k2)] rfl ⟨Be,rfl,Dh ha47,rfl,(by omega),rfl,CB hc50,Ae⟩ ?_
      refine H5 31 #[.agg (Ah.arr y52),Ad k2,.bool false] (some 92) (i6 ((Cm y52 (k2:Int) false:Nat):Int)) (fun w56 hw56=>PQ w56 y52 (k2:Int) false (he51.ext (hw56.ext rfl) (fun _ h=>h))) (fun n57 (hn58:n54≤n57) => ?_)
      refine Di 5 0 [] [[(ov (i6 (((Ew (fun x=>Cm x (k2:Int) false) c.Aa.xs k3)+(Cm y52 (k2:Int) false):Nat):Int))),o0],[(ov (i6 ((k3+1:Nat):Int))),o0]] [Wr ((((Ew (fun x=>Cm x (k2:Int) false) c.Aa.xs k3:Nat):Int):Int)+((Cm y52 (k2:Int) false:Nat):Int)) ((((Ew (fun x=>Cm x (k2:Int) false) c.Aa.xs k3)+(Cm y52 (k2:Int) false):Nat):Int)),Wr ((k3:Int)+1) (((k3+1:Nat):Int))] [(1,pt z),(4,Ad k2),(F7 c),(49,Ad k2),(I8 c),(73,i6 ((k3+1:Nat):Int)),(Wq c k2 k3 y52),(7,i6 (((Ew (fun x=>Cm x (k2:Int) false) c.Aa.xs k3)+(Cm y52 (k2:Int) false):Nat):Int))] rfl ⟨Be,Be,Ae⟩ ?_
      have hT1:=O6 (f:=fun x=>Cm x (k2:Int) true) (show k3<c.Aa.xs.length by omega)
      have hT2:=O6 (f:=fun x=>Cm x (k2:Int) false) (show k3<c.Aa.xs.length by omega)
      rw[←hy52]at hT1 hT2
      refine Dp [1,4,6,7,48,49,72,73] [(1,pt z),(4,Ad k2),(Wq c k2 k3 y52),(7,i6 (((Ew (fun x=>Cm x (k2:Int) false) c.Aa.xs k3)+(Cm y52 (k2:Int) false):Nat):Int)),(F7 c),(49,Ad k2),(I8 c),(73,i6 ((k3+1:Nat):Int))] ?_
      refine Bz (fun a w' hs=>⟨c.Aa.xs.length - (k3+1),by omega,n57,(k3+1),rfl,by omega,by omega,by(try dsimp only[QU,KD,Wq,MN,Oi,NC,I8,F7]at hs ⊢);rw[hT1,hT2];exact hs⟩)
     refine A8 11 0 [0] [[oF]] [BF ((k3:Int)<(c.Aa.xs.length:Int))] [(1,pt z),(4,Ad k2),(Oi c k2 k3),(MN c k2 k3),(F7 c),(49,Ad k2),(I8 c),(73,Ad k3),(74,.bool false)] rfl ⟨bf,Ae⟩ ?_
     by_cases h59:(((Ew (fun x=>Cm x (k2:Int) true) c.Aa.xs k3:Nat):Int):Int)=1
     ·by_cases h60:(((Ew (fun x=>Cm x (k2:Int) false) c.Aa.xs k3:Nat):Int):Int)<1
      ·refine A8 9 0 [1] [[o0,oF,o0,o0,oT,o0,o0,o0],[o0]] [NF ((Ew (fun x=>Cm x (k2:Int) true) c.Aa.xs k3:Nat):Int) 1,BT ((((Ew (fun x=>Cm x (k2:Int) false) c.Aa.xs k3:Nat):Int):Int)<1)] [(2,.bool false)] rfl ⟨nf,bt,Ae⟩ ?_
       refine AZ [] [] (.bool false) Ae ?_
       intro w61 hw61
       refine⟨congrArg (fun b=>Ending.returned (Value.bool b)) (Eq.symm (?_:BZ c=false)),Bg hw61⟩
       exact Ip (k:=k2) (by omega) (Jk (by rw[←hy34];first | omega | (right;right;unfold Gx;rw[show c.Aa.xs.length=k3 by omega];omega)))
      by_cases h62:(4:Int)<((Ew (fun x=>Cm x (k2:Int) false) c.Aa.xs k3:Nat):Int)
      ·refine A8 9 0 [1] [[o0,oF,o0,o0,oF,o0,o0,o0,oT,o0],[o0]] [NF ((Ew (fun x=>Cm x (k2:Int) true) c.Aa.xs k3:Nat):Int) 1,BF ((((Ew (fun x=>Cm x (k2:Int) false) c.Aa.xs k3:Nat):Int):Int)<1),BT ((((Ew (fun x=>Cm x (k2:Int) false) c.Aa.xs k3:Nat):Int):Int) > 4)] [(2,.bool false)] rfl ⟨nf,bf,bt,Ae⟩ ?_
       refine AZ [] [] (.bool false) Ae ?_
       intro w63 hw63
       refine⟨congrArg (fun b=>Ending.returned (Value.bool b)) (Eq.symm (?_:BZ c=false)),Bg hw63⟩
       exact Ip (k:=k2) (by omega) (Jk (by rw[←hy34];first | omega | (right;right;unfold Gx;rw[show c.Aa.xs.length=k3 by omega];omega)))
      refine A8 9 0 [0] [[o0,oF,o0,o0,oF,o0,o0,o0,oF,o0],[(ov (i6 ((k2+1:Nat):Int))),o0]] [NF ((Ew (fun x=>Cm x (k2:Int) true) c.Aa.xs k3:Nat):Int) 1,BF ((((Ew (fun x=>Cm x (k2:Int) false) c.Aa.xs k3:Nat):Int):Int)<1),BF ((((Ew (fun x=>Cm x (k2:Int) false) c.Aa.xs k3:Nat):Int):Int) > 4),Wr ((k2:Int)+1) (((k2+1:Nat):Int))] [(1,pt z),(F7 c),(49,i6 ((k2+1:Nat):Int))] rfl ⟨nf,bf,bf,Be,Ae⟩ ?_
      refine BO [0,1] [(Ak w),(KD z c)] rfl rfl ?_
      refine Dp [1,48,49] [(1,pt z),(F7 c),(49,i6 ((k2+1:Nat):Int))] ?_
      refine Bz (fun a w' hs=>⟨c.Ac.xs.length - (k2+1),by omega,n43,(k2+1),rfl,by omega,by omega,upto hch (TR (by rw[←hy34];omega) (by rw[←hy34];omega) (by unfold Gx;rw[show c.Aa.xs.length=k3 by omega];omega) (by unfold Gx;rw[show c.Aa.xs.length=k3 by omega];omega)),hs⟩)
     refine A8 9 0 [1] [[o0,oT,o0,o0,o0,o0],[o0]] [NT ((Ew (fun x=>Cm x (k2:Int) true) c.Aa.xs k3:Nat):Int) 1] [(2,.bool false)] rfl ⟨nt,Ae⟩ ?_
     refine AZ [] [] (.bool false) Ae ?_
     intro w64 hw64
     refine⟨congrArg (fun b=>Ending.returned (Value.bool b)) (Eq.symm (?_:BZ c=false)),Bg hw64⟩
     exact Ip (k:=k2) (by omega) (Jk (by rw[←hy34];first | omega | (right;right;unfold Gx;rw[show c.Aa.xs.length=k3 by omega];omega)))
    refine Di 8 0 [1] [[oF,o0,o0,(a1 2),oT,o0,o0,(a1 2),oT,o0,o0],[o0]] [EF (portOf y34) 0,Qb n25,ET y34.Kind 1,Qb n25,NT y34.CS 0] [(2,.bool false)] rfl ⟨ef,rfl,et,rfl,nt,Ae⟩ ?_
    refine AZ [] [] (.bool false) Ae ?_
    intro w65 hw65
    refine⟨congrArg (fun b=>Ending.returned (Value.bool b)) (Eq.symm (?_:BZ c=false)),Bg hw65⟩
    exact Ip (k:=k2) (by omega) (Jk (by rw[←hy34];first | omega | (right;right;unfold Gx;rw[show c.Aa.xs.length=k3 by omega];omega)))
   refine Di 19 0 [0] [[oF,o0,o0,(a1 2),oF,o0,o0,o0],[o0],[o0],[o0,(a1 1),o0,o0]] [EF (portOf y34) 0,Qb n25,EF y34.Kind 1,Qb z] [(1,pt z),(4,Ad k2),(6,i6 0),(7,i6 0),(F7 c),(49,Ad k2),(I8 c),(73,i6 0)] rfl ⟨ef,rfl,ef,rfl,Ae⟩ ?_
   refine Ce (fun m a w'=>∃ (n67:Nat) (k3:Nat),m=c.Aa.xs.length - k3∧n36≤n67∧(k3≤c.Aa.xs.length)∧St 106 [(1,pt z),(4,Ad k2),(Oi c k2 k3),(MN c k2 k3),(F7 c),(49,Ad k2),(I8 c),(73,Ad k3)] [] ⟨w,n67,[(Ak w),(KD z c),(QU n25 y34)]⟩ a w') (c.Aa.xs.length - 0) ?_ ?_
   ·intro a w' hs;exact⟨n36,0,rfl,Nat.le_refl _,Nat.zero_le _,hs⟩
   rintro m a w' ⟨n67,k3,rfl,hn66,hkk3,hs⟩
   refine(?_:G Try.prog 106 [(1,pt z),(4,Ad k2),(Oi c k2 k3),(MN c k2 k3),(F7 c),(49,Ad k2),(I8 c),(73,Ad k3)] [] ⟨w,n67,[(Ak w),(KD z c),(QU n25 y34)]⟩ _ _ _) a w' hs
   clear hs a w'
   have hsa:=Sr (f:=fun x=>Cm x (k2:Int) true) (B:=8) (xs:=c.Aa.xs) (fun i hi=>ND (hp i (by omega)) _ _) k3 hkk3
   have hsb:=Sr (f:=fun x=>Cm x (k2:Int) false) (B:=8) (xs:=c.Aa.xs) (fun i hi=>ND (hp i (by omega)) _ _) k3 hkk3
   refine CP ?_
   by_cases h68:(k3:Int)<(c.Aa.xs.length:Int)
   ·refine A8 14 0 [1] [[oT],[o0,o0]] [BT ((k3:Int)<(c.Aa.xs.length:Int))] [(1,pt z),(4,Ad k2),(Oi c k2 k3),(MN c k2 k3),(F7 c),(49,Ad k2),(I8 c),(73,Ad k3),(8,Ad k3)] rfl ⟨bt,Ae⟩ ?_
    obtain⟨b69,o70,ha71,hF73,hc72⟩:=(hc.Aa).1.all (show 0<c.Aa.xs.length by omega)
    replace ha71:c.Aa.a=some ⟨b69,o70,none⟩:=ha71
    have hc74:=hc72 k3 (show k3<c.Aa.xs.length by omega)
    have he75:=(hc.Aa).2 k3 (show k3<c.Aa.xs.length by omega)
    obtain⟨y76,hy76⟩:∃ y_,y_=gd c.Aa.xs k3:=⟨_,rfl⟩
    rw[←hy76]at he75 hc74
    have hqy76:=hp k3 (by omega);rw[←hy76]at hqy76;have hl1y76:=ND hqy76 (k2:Int) true;have hl2y76:=ND hqy76 (k2:Int) false
    refine A8 1 7 [] [[o0,o0,(Du 1 b69 o70 c.Aa),o0,(oi k3),(ol 0 (Ah.arr y76)),o0]] [Qb z,Df b69 o70 c.Aa,BI k3,k3<c.Aa.xs.length,Bq,Eh w b69 (o70+k3*8) (Ah.arr y76)] [(1,pt z),(4,Ad k2),(MN c k2 k3),(F7 c),(49,Ad k2),(I8 c),(73,Ad k3),(8,Ad k3),(76,i6 ((Ew (fun x=>Cm x (k2:Int) true) c.Aa.xs k3:Nat):Int)),(81,.agg (Ah.arr y76)),(82,Ad k2)] rfl ⟨rfl,Dh ha71,rfl,(by omega),rfl,CB hc74,Ae⟩ ?_
    refine H5 31 #[.agg (Ah.arr y76),Ad k2,.bool true] (some 83) (i6 ((Cm y76 (k2:Int) true:Nat):Int)) (fun w77 hw77=>PQ w77 y76 (k2:Int) true (he75.ext (hw77.ext rfl) (fun _ h=>h))) (fun n78 (hn79:n67≤n78) => ?_)
    refine Di 3 7 [] [[(ov (i6 (((Ew (fun x=>Cm x (k2:Int) true) c.Aa.xs k3)+(Cm y76 (k2:Int) true):Nat):Int))),o0],[o0,o0,(Du 1 b69 o70 c.Aa),o0,(oi k3),(ol 0 (Ah.arr y76)),o0]] [Wr ((((Ew (fun x=>Cm x (k2:Int) true) c.Aa.xs k3:Nat):Int):Int)+((Cm y76 (k2:Int) true:Nat):Int)) ((((Ew (fun x=>Cm x (k2:Int) true) c.Aa.xs k3)+(Cm y76 (k2:Int) true):Nat):Int)),Qb z,Df b69 o70 c.Aa,BI k3,k3<c.Aa.xs.length,Bq,Eh w b69 (o70+k3*8) (Ah.arr y76)] [(1,pt z),(4,Ad k2),(F7 c),(49,Ad k2),(I8 c),(73,Ad k3),(WC c k2 k3 y76),(85,i6 ((Ew (fun x=>Cm x (k2:Int) false) c.Aa.xs k3:Nat):Int)),(90,.agg (Ah.arr y76)),(91,Ad k2)] rfl ⟨Be,rfl,Dh ha71,rfl,(by omega),rfl,CB hc74,Ae⟩ ?_
    refine H5 31 #[.agg (Ah.arr y76),Ad k2,.bool false] (some 92) (i6 ((Cm y76 (k2:Int) false:Nat):Int)) (fun w80 hw80=>PQ w80 y76 (k2:Int) false (he75.ext (hw80.ext rfl) (fun _ h=>h))) (fun n81 (hn82:n78≤n81) => ?_)
    refine Di 5 0 [] [[(ov (i6 (((Ew (fun x=>Cm x (k2:Int) false) c.Aa.xs k3)+(Cm y76 (k2:Int) false):Nat):Int))),o0],[(ov (i6 ((k3+1:Nat):Int))),o0]] [Wr ((((Ew (fun x=>Cm x (k2:Int) false) c.Aa.xs k3:Nat):Int):Int)+((Cm y76 (k2:Int) false:Nat):Int)) ((((Ew (fun x=>Cm x (k2:Int) false) c.Aa.xs k3)+(Cm y76 (k2:Int) false):Nat):Int)),Wr ((k3:Int)+1) (((k3+1:Nat):Int))] [(1,pt z),(4,Ad k2),(F7 c),(49,Ad k2),(I8 c),(73,i6 ((k3+1:Nat):Int)),(WC c k2 k3 y76),(7,i6 (((Ew (fun x=>Cm x (k2:Int) false) c.Aa.xs k3)+(Cm y76 (k2:Int) false):Nat):Int))] rfl ⟨Be,Be,Ae⟩ ?_
    have hT1:=O6 (f:=fun x=>Cm x (k2:Int) true) (show k3<c.Aa.xs.length by omega)
    have hT2:=O6 (f:=fun x=>Cm x (k2:Int) false) (show k3<c.Aa.xs.length by omega)
    rw[←hy76]at hT1 hT2
    refine Dp [1,4,6,7,48,49,72,73] [(1,pt z),(4,Ad k2),(WC c k2 k3 y76),(7,i6 (((Ew (fun x=>Cm x (k2:Int) false) c.Aa.xs k3)+(Cm y76 (k2:Int) false):Nat):Int)),(F7 c),(49,Ad k2),(I8 c),(73,i6 ((k3+1:Nat):Int))] ?_
    refine Bz (fun a w' hs=>⟨c.Aa.xs.length - (k3+1),by omega,n81,(k3+1),rfl,by omega,by omega,by(try dsimp only[QU,KD,WC,MN,Oi,NC,I8,F7]at hs ⊢);rw[hT1,hT2];exact hs⟩)
   refine A8 11 0 [0] [[oF]] [BF ((k3:Int)<(c.Aa.xs.length:Int))] [(1,pt z),(4,Ad k2),(Oi c k2 k3),(MN c k2 k3),(F7 c),(49,Ad k2),(I8 c),(73,Ad k3),(74,.bool false)] rfl ⟨bf,Ae⟩ ?_
   by_cases h83:(((Ew (fun x=>Cm x (k2:Int) true) c.Aa.xs k3:Nat):Int):Int)=1
   ·by_cases h84:(((Ew (fun x=>Cm x (k2:Int) false) c.Aa.xs k3:Nat):Int):Int)<1
    ·refine A8 9 0 [1] [[o0,oF,o0,o0,oT,o0,o0,o0],[o0]] [NF ((Ew (fun x=>Cm x (k2:Int) true) c.Aa.xs k3:Nat):Int) 1,BT ((((Ew (fun x=>Cm x (k2:Int) false) c.Aa.xs k3:Nat):Int):Int)<1)] [(2,.bool false)] rfl ⟨nf,bt,Ae⟩ ?_
     refine AZ [] [] (.bool false) Ae ?_
     intro w85 hw85
     refine⟨congrArg (fun b=>Ending.returned (Value.bool b)) (Eq.symm (?_:BZ c=false)),Bg hw85⟩
     exact Ip (k:=k2) (by omega) (Jk (by rw[←hy34];first | omega | (right;right;unfold Gx;rw[show c.Aa.xs.length=k3 by omega];omega)))
    by_cases h86:(4:Int)<((Ew (fun x=>Cm x (k2:Int) false) c.Aa.xs k3:Nat):Int)
    ·refine A8 9 0 [1] [[o0,oF,o0,o0,oF,o0,o0,o0,oT,o0],[o0]] [NF ((Ew (fun x=>Cm x (k2:Int) true) c.Aa.xs k3:Nat):Int) 1,BF ((((Ew (fun x=>Cm x (k2:Int) false) c.Aa.xs k3:Nat):Int):Int)<1),BT ((((Ew (fun x=>Cm x (k2:Int) false) c.Aa.xs k3:Nat):Int):Int) > 4)] [(2,.bool false)] rfl ⟨nf,bf,bt,Ae⟩ ?_
     refine AZ [] [] (.bool false) Ae ?_
     intro w87 hw87
     refine⟨congrArg (fun b=>Ending.returned (Value.bool b)) (Eq.symm (?_:BZ c=false)),Bg hw87⟩
     exact Ip (k:=k2) (by omega) (Jk (by rw[←hy34];first | omega | (right;right;unfold Gx;rw[show c.Aa.xs.length=k3 by omega];omega)))
    refine A8 9 0 [0] [[o0,oF,o0,o0,oF,o0,o0,o0,oF,o0],[(ov (i6 ((k2+1:Nat):Int))),o0]] [NF ((Ew (fun x=>Cm x (k2:Int) true) c.Aa.xs k3:Nat):Int) 1,BF ((((Ew (fun x=>Cm x (k2:Int) false) c.Aa.xs k3:Nat):Int):Int)<1),BF ((((Ew (fun x=>Cm x (k2:Int) false) c.Aa.xs k3:Nat):Int):Int) > 4),Wr ((k2:Int)+1) (((k2+1:Nat):Int))] [(1,pt z),(F7 c),(49,i6 ((k2+1:Nat):Int))] rfl ⟨nf,bf,bf,Be,Ae⟩ ?_
    refine BO [0,1] [(Ak w),(KD z c)] rfl rfl ?_
    refine Dp [1,48,49] [(1,pt z),(F7 c),(49,i6 ((k2+1:Nat):Int))] ?_
    refine Bz (fun a w' hs=>⟨c.Ac.xs.length - (k2+1),by omega,n67,(k2+1),rfl,by omega,by omega,upto hch (TR (by rw[←hy34];omega) (by rw[←hy34];omega) (by unfold Gx;rw[show c.Aa.xs.length=k3 by omega];omega) (by unfold Gx;rw[show c.Aa.xs.length=k3 by omega];omega)),hs⟩)
   refine A8 9 0 [1] [[o0,oT,o0,o0,o0,o0],[o0]] [NT ((Ew (fun x=>Cm x (k2:Int) true) c.Aa.xs k3:Nat):Int) 1] [(2,.bool false)] rfl ⟨nt,Ae⟩ ?_
   refine AZ [] [] (.bool false) Ae ?_
   intro w88 hw88
   refine⟨congrArg (fun b=>Ending.returned (Value.bool b)) (Eq.symm (?_:BZ c=false)),Bg hw88⟩
   exact Ip (k:=k2) (by omega) (Jk (by rw[←hy34];first | omega | (right;right;unfold Gx;rw[show c.Aa.xs.length=k3 by omega];omega)))
  refine A8 15 0 [0] [[oF],[o0]] [BF ((k2:Int)<(c.Ac.xs.length:Int))] [(2,.bool true)] rfl ⟨bf,Ae⟩ ?_
  refine AZ [] [] (.bool true) Ae ?_
  intro w89 hw89
  refine⟨congrArg (fun b=>Ending.returned (Value.bool b)) (Eq.symm (?_:BZ c=true)),Bg hw89⟩
  exact Ya (by omega) (by omega) (by omega) (fun i hi=>hp i (by omega)) (fun i hi=>hch i (by omega))
 refine A8 9 0 [1] [[o0,(a1 1),oF,o0,o0,(a1 1),oT,o0,o0,o0,o0,o0],[o0]] [Qb z,BF ((c.Kernel:Int)<0),Qb z,BT ((c.Kernel:Int)≥1024)] [(2,.bool false)] rfl ⟨rfl,bf,rfl,bt,Ae⟩ ?_
 refine AZ [] [] (.bool false) Ae ?_
 intro w90 hw90
 refine⟨congrArg (fun b=>Ending.returned (Value.bool b)) (Eq.symm (?_:BZ c=false)),Bg hw90⟩
 exact N7 (by omega)
def Bo(p:Nat)(x:Ah)(k:Int)(b:Bool)(j:Nat):List Ee:=((List.range j).filter (fun q=>GN k b (gd x.Ai.xs q))).map (fun(q:Nat)=>(⟨(p:Int),(q:Int)⟩:Ee))
def Bv(c:Af)(k:Int)(b:Bool)(i:Nat):List Ee:=(List.range i).flatMap (fun p=>Bo p (gd c.Aa.xs p) k b (gd c.Aa.xs p).Ai.xs.length)
def Ba(c:Af)(k:Int)(b:Bool):List Ee:=Bv c k b c.Aa.xs.length
theorem Nz{p:Nat}{x:Ah}{k:Int}{b:Bool}{j:Nat}(h:GN k b (gd x.Ai.xs j)=true):Bo p x k b (j+1)=Bo p x k b j++[⟨(p:Int),(j:Int)⟩]:=by
 unfold Bo;rw[List.range_succ,List.filter_append,List.map_append];simp[h]
theorem J6{p:Nat}{x:Ah}{k:Int}{b:Bool}{j:Nat}(h:GN k b (gd x.Ai.xs j)=false):Bo p x k b (j+1)=Bo p x k b j:=by
 unfold Bo;rw[List.range_succ,List.filter_append,List.map_append];simp[h]
theorem Pg{p:Nat}{x:Ah}{k:Int}{b:Bool}{j:Nat}:(Bo p x k b j).length≤j:=by
 unfold Bo;rw[List.length_map];exact Nat.le_trans (List.length_filter_le _ _) (by simp)
theorem JU{c:Af}{k:Int}{b:Bool}{i:Nat}:Bv c k b (i+1)=Bv c k b i++Bo i (gd c.Aa.xs i) k b (gd c.Aa.xs i).Ai.xs.length:=by
 unfold Bv;rw[List.range_succ,List.flatMap_append];simp
theorem Qm{c:Af}{k:Int}{b:Bool}(hp:∀ i,i<c.Aa.xs.length→(gd c.Aa.xs i).Ai.xs.length≤8):∀ (i:Nat),i≤c.Aa.xs.length→(Bv c k b i).length≤8*i
 | 0,_=>by simp[Bv]
 | i+1,h=>by
  have h1:=Qm (k:=k) (b:=b) hp i (by omega)
  have h2:=hp i (by omega)
  have h3:=Pg (p:=i) (x:=gd c.Aa.xs i) (k:=k) (b:=b) (j:=(gd c.Aa.xs i).Ai.xs.length)
  rw[JU,List.length_append];omega
theorem X9(xs:List AC)(p:AC→Bool):∀ (j:Nat),j≤xs.length→((List.range j).filter (fun q=>p (gd xs q))).length=(xs.take j).countP p
 | 0,_=>by simp
 | j+1,h=>by
  rw[List.range_succ,List.filter_append,List.length_append,X9 xs p j (by omega),take_snoc (by omega),List.countP_append]
  cases hp:p (gd xs j) <;> simp[hp]
theorem W9{c:Af}{k:Int}{b:Bool}:∀ (i:Nat),i≤c.Aa.xs.length→(Bv c k b i).length=Ew (fun x=>Cm x k b) c.Aa.xs i
 | 0,_=>by simp[Bv,Ew]
 | i+1,h=>by
  rw[JU,List.length_append,W9 i (by omega),O6 (by omega)]
  congr 1
  unfold Bo Cm
  rw[List.length_map,X9 _ _ _ (Nat.le_refl _),List.take_length]
theorem OM(c:Af)(k:Nat)(b:Bool):(Ba c k b).length=Gx c k b:=W9 _ (Nat.le_refl _)
section
variable (n2:Nat)(y11:Ah)(z:Nat)(c:Af)(aD2:Option Addr)(ch:Int)(i j cD2:Nat)(aS2:Option Addr)(cS2:Nat)(aD:Option Addr)(cD b4:Nat)(o5 b15 o16:Nat)
abbrev Je:=bk n2 (Ah.arr y11) 52
abbrev GG:=bk z (Af.arr c) 26
abbrev Jr:=AV z 91 2 Ee.cells (.slice aD2 ((Bv c ch false i++Bo i y11 ch false j).length) cD2) (Bv c ch false i++Bo i y11 ch false j)
abbrev Jn:=AV z 91 2 Ee.cells (.slice aS2 ((Bv c ch true i++Bo i y11 ch true j).length) cS2) (Bv c ch true i++Bo i y11 ch true j)
abbrev KZ:=AV z 91 2 Ee.cells (.slice aD ((Bv c ch false i).length) cD) (Bv c ch false i)
abbrev Ht:Dq:=(5,.slice aD2 ((Bv c ch false i++Bo i y11 ch false j).length) cD2)
abbrev Ho:Dq:=(4,.slice aS2 ((Bv c ch true i++Bo i y11 ch true j).length) cS2)
abbrev FU:Dq:=(11,.slice (some ⟨b4,o5,none⟩) c.Aa.xs.length c.Aa.cap)
abbrev J8:Dq:=(19,.slice (some ⟨b15,o16,none⟩) y11.Ai.xs.length y11.Ai.cap)
abbrev JM:Dq:=(11,.slice c.Aa.a c.Aa.xs.length c.Aa.cap)
abbrev IM:Dq:=(19,.slice y11.Ai.a y11.Ai.xs.length y11.Ai.cap)
abbrev En:=(12,Ad c.Aa.xs.length)
abbrev FH:=(20,Ad y11.Ai.xs.length)
abbrev IL:Dq:=(5,.slice aD ((Bv c ch false i).length) cD)
abbrev JK:=(21,i6 ((j+1:Nat):Int))
end
theorem VX(w:World)(c:Af)(ch:Int)(hc:Af.ok Any w c)(hl:c.Aa.xs.length≤8)(hp:∀ i,i<c.Aa.xs.length→(gd c.Aa.xs i).Ai.xs.length≤8):Calls Try.prog 22 #[.agg (Af.arr c),.int .i64 ch] w fun e w'=>∃ a1 c1 a2 c2,e = .returned (.tuple #[.slice a1 (Ba c ch true).length c1,.slice a2 (Ba c ch false).length c2])∧Jd Ee.cells 2 (New w.heap.size) w' ⟨a1,c1,Ba c ch true⟩∧Jd Ee.cells 2 (New w.heap.size) w' ⟨a2,c2,Ba c ch false⟩∧BN (fun _=>False) w w':=by
 obtain⟨z,hz⟩:∃ z,z=w.heap.size:=⟨_,rfl⟩
 refine BV (args:=[.agg (Af.arr c),i6 ch]) 50 ⟨w,z,[(Ak w)]⟩ Try.func22 rfl (by kernel_rfl) (by kernel_rfl) (Fv hz) ?_
 refine Eb [0,1] [(0,.agg (Af.arr c)),(1,i6 ch)] ?_
 refine q_c 10 0 [] [[o0,o0,o0],[o0,(a1 1),o0,o0]] [Qb z] [(1,i6 ch),(4,.slice none 0 0),(5,.slice none 0 0),(JM c),(En c),(13,i6 0)] ⟨w,z+1,[(Ak w),(GG z c)]⟩ rfl ⟨rfl,Ae⟩ ?_
 refine Le z 91 2 Ee.cells ?_
 refine Le z 91 2 Ee.cells ?_
 refine Ce (fun m a w'=>∃ (n2:Nat) (i:Nat) (aS:Option Addr) (cS:Nat) (aD:Option Addr) (cD:Nat),m=c.Aa.xs.length - i∧z+1≤n2∧(i≤c.Aa.xs.length)∧St 50 [(1,i6 ch),(4,.slice aS ((Bv c ch true i).length) cS),(IL c ch i aD cD),(JM c),(En c),(13,Ad i)] [] ⟨w,n2,[(Ak w),(GG z c),(AV z 91 2 Ee.cells (.slice aS ((Bv c ch true i).length) cS) (Bv c ch true i)),(KZ z c ch i aD cD)]⟩ a w') (c.Aa.xs.length - 0) ?_ ?_
 ·intro a w' hs;exact⟨(z+1),0,none,0,none,0,rfl,Nat.le_refl _,Nat.zero_le _,hs⟩
 rintro m a w' ⟨n2,i,aS,cS,aD,cD,rfl,hn1,hki,hs⟩
 refine(?_:G Try.prog 50 [(1,i6 ch),(4,.slice aS ((Bv c ch true i).length) cS),(IL c ch i aD cD),(JM c),(En c),(13,Ad i)] [] ⟨w,n2,[(Ak w),(GG z c),(AV z 91 2 Ee.cells (.slice aS ((Bv c ch true i).length) cS) (Bv c ch true i)),(KZ z c ch i aD cD)]⟩ _ _ _) a w' hs
 clear hs a w'
 have hq3:=Qm (k:=ch) (b:=true) hp i (by omega)
 have hq4:=Qm (k:=ch) (b:=false) hp i (by omega)
 refine CP ?_
 by_cases h3:(i:Int)<(c.Aa.xs.length:Int)
 ·refine A8 10 0 [1] [[oT]] [BT ((i:Int)<(c.Aa.xs.length:Int))] [(1,i6 ch),(4,.slice aS ((Bv c ch true i).length) cS),(IL c ch i aD cD),(JM c),(En c),(13,Ad i),(14,.bool true)] rfl ⟨bt,Ae⟩ ?_
  obtain⟨b4,o5,ha6,hF8,hc7⟩:=(hc.Aa).1.all (show 0<c.Aa.xs.length by omega)
  replace ha6:c.Aa.a=some ⟨b4,o5,none⟩:=ha6
  refine IZ [(1,i6 ch),(4,.slice aS ((Bv c ch true i).length) cS),(IL c ch i aD cD),(FU c b4 o5),(En c),(13,Ad i),(14,.bool true)] (by(try dsimp only[GG,KZ,FU,JM,En,IL]);simp only[ha6]) ?_
  have hc9:=hc7 i (show i<c.Aa.xs.length by omega)
  have he10:=(hc.Aa).2 i (show i<c.Aa.xs.length by omega)
  obtain⟨y11,hy11⟩:∃ y_,y_=gd c.Aa.xs i:=⟨_,rfl⟩
  rw[←hy11]at he10 hc9
  have h8y11:=hp i (by omega);rw[←hy11]at h8y11
  refine q_c 8 0 [] [[o0,(oi i),(ol 0 (Ah.arr y11)),o0,o0,(an 8 4)],[o0,(a1 4),o0,o0]] [BI i,i<c.Aa.xs.length,Bq,Eh w b4 (o5+i*8) (Ah.arr y11),Qb n2,Qb n2,Qb n2,Qb n2,Qb n2,Qb n2,Qb n2,Qb n2,Qb n2] [(1,i6 ch),(4,.slice aS ((Bv c ch true i).length) cS),(IL c ch i aD cD),(6,Ad i),(FU c b4 o5),(En c),(13,Ad i),(IM y11),(FH y11),(21,i6 0)] ⟨w,n2+1,[(Ak w),(GG z c),(AV z 91 2 Ee.cells (.slice aS ((Bv c ch true i).length) cS) (Bv c ch true i)),(KZ z c ch i aD cD),(Je n2 y11)]⟩ rfl ⟨rfl,(by omega),rfl,CB hc9,rfl,rfl,rfl,rfl,rfl,rfl,rfl,rfl,rfl,Ae⟩ ?_
  refine Ce (fun m a w'=>∃ (n13:Nat) (j:Nat) (aS2:Option Addr) (cS2:Nat) (aD2:Option Addr) (cD2:Nat),m=y11.Ai.xs.length - j∧n2+1≤n13∧(j≤y11.Ai.xs.length)∧St 50 [(1,i6 ch),(Ho y11 c ch i j aS2 cS2),(Ht y11 c aD2 ch i j cD2),(6,Ad i),(FU c b4 o5),(En c),(13,Ad i),(IM y11),(FH y11),(21,Ad j)] [] ⟨w,n13,[(Ak w),(GG z c),(Jn y11 z c ch i j aS2 cS2),(Jr y11 z c aD2 ch i j cD2),(Je n2 y11)]⟩ a w') (y11.Ai.xs.length - 0) ?_ ?_
  ·intro a w' hs;exact⟨(n2+1),0,aS,cS,aD,cD,rfl,Nat.le_refl _,Nat.zero_le _,by(try dsimp only[Je,GG,Jr,Jn,KZ,Ht,Ho,FU,JM,IM,En,FH,IL]at hs ⊢);rw[show Bo i y11 ch true 0=[]from rfl,show Bo i y11 ch false 0=[]from rfl,List.append_nil,List.append_nil];exact hs⟩
  rintro m a w' ⟨n13,j,aS2,cS2,aD2,cD2,rfl,hn12,hkj,hs⟩
  refine(?_:G Try.prog 50 [(1,i6 ch),(Ho y11 c ch i j aS2 cS2),(Ht y11 c aD2 ch i j cD2),(6,Ad i),(FU c b4 o5),(En c),(13,Ad i),(IM y11),(FH y11),(21,Ad j)] [] ⟨w,n13,[(Ak w),(GG z c),(Jn y11 z c ch i j aS2 cS2),(Jr y11 z c aD2 ch i j cD2),(Je n2 y11)]⟩ _ _ _) a w' hs
  clear hs a w'
  have hq1:(Bo i y11 ch true j).length≤j:=Pg
  have hq2:(Bo i y11 ch false j).length≤j:=Pg
  refine CP ?_
  by_cases h14:(j:Int)<(y11.Ai.xs.length:Int)
  ·refine A8 10 0 [1] [[oT]] [BT ((j:Int)<(y11.Ai.xs.length:Int))] [(1,i6 ch),(Ho y11 c ch i j aS2 cS2),(Ht y11 c aD2 ch i j cD2),(6,Ad i),(FU c b4 o5),(En c),(13,Ad i),(IM y11),(FH y11),(21,Ad j),(22,.bool true)] rfl ⟨bt,Ae⟩ ?_
   obtain⟨b15,o16,ha17,hF19,hc18⟩:=(he10.Ai).1.all (show 0<y11.Ai.xs.length by omega)
   replace ha17:y11.Ai.a=some ⟨b15,o16,none⟩:=ha17
   refine IZ [(1,i6 ch),(Ho y11 c ch i j aS2 cS2),(Ht y11 c aD2 ch i j cD2),(6,Ad i),(FU c b4 o5),(En c),(13,Ad i),(J8 y11 b15 o16),(FH y11),(21,Ad j),(22,.bool true)] (by(try dsimp only[Je,GG,Jr,Jn,KZ,Ht,Ho,FU,J8,JM,IM,En,FH,IL]);simp only[ha17]) ?_
   have hc20:=hc18 j (show j<y11.Ai.xs.length by omega)
   have he21:=(he10.Ai).2 j (show j<y11.Ai.xs.length by omega)
   obtain⟨y22,hy22⟩:∃ y_,y_=gd y11.Ai.xs j:=⟨_,rfl⟩
   rw[←hy22]at he21 hc20
   refine q_c 5 0 [] [[o0,(oi j),(ol 0 (AC.arr y22)),o0,o0,(an 2 5)]] [BI j,j<y11.Ai.xs.length,Bq,Eh w b15 (o16+j*2) (AC.arr y22),Qb n13,Qb n13] [(1,i6 ch),(Ho y11 c ch i j aS2 cS2),(Ht y11 c aD2 ch i j cD2),(6,Ad i),(FU c b4 o5),(En c),(13,Ad i),(J8 y11 b15 o16),(FH y11),(21,Ad j),(9,pt n13),(8,Ad j)] ⟨w,n13+1,[(Ak w),(GG z c),(Jn y11 z c ch i j aS2 cS2),(Jr y11 z c aD2 ch i j cD2),(Je n2 y11),(bk n13 (AC.arr y22) 75)]⟩ rfl ⟨rfl,(by omega),rfl,CB hc20,rfl,rfl,Ae⟩ ?_
   by_cases h23:(y22.Channel:Int)=ch
   ·refine A8 8 0 [0] [[o0,(a1 5),o0,oF,o0],[o0,(a1 5),o0]] [Qb n13,NF y22.Channel ch,Qb n13] [(1,i6 ch),(Ho y11 c ch i j aS2 cS2),(Ht y11 c aD2 ch i j cD2),(6,Ad i),(FU c b4 o5),(En c),(13,Ad i),(J8 y11 b15 o16),(FH y11),(21,Ad j),(8,Ad j),(37,.bool y22.Source)] rfl ⟨rfl,nf,rfl,Ae⟩ ?_
    by_cases h24:y22.Source=true
    ·refine q_c 2 5 [3] [[o0,o0,o0,o0,o0]] [Value.bool y22.Source=Value.bool true] [(1,i6 ch),(Ht y11 c aD2 ch i j cD2),(6,Ad i),(FU c b4 o5),(En c),(13,Ad i),(J8 y11 b15 o16),(FH y11),(21,Ad j),(40,.slice aS2 ((Bv c ch true i++Bo i y11 ch true j).length) cS2),(44,.slice (some ⟨n13+1,0,none⟩) 1 1)] ⟨w,n13+2,[(Ak w),(GG z c),(Jn y11 z c ch i j aS2 cS2),(Jr y11 z c aD2 ch i j cD2),(Je n2 y11),(bk n13 (AC.arr y22) 75),(bk (n13+1) #[(Ad i),Ad j] 91)]⟩ rfl ⟨(congrArg Value.bool h24),Ae⟩ ?_
     refine Fe z 2 6 (Bv c ch true i++Bo i y11 ch true j) [(⟨(i:Int),(j:Int)⟩:Ee)] Ee.cells 91 2 16 (.slice aS2 ((Bv c ch true i++Bo i y11 ch true j).length) cS2) (n13+1) 1 1 #[(Ad i),Ad j] 91 (0,0) true (some 45) (by simp only[List.length_cons,List.length_nil,List.length_append];omega) (show z≤n13+2 by omega) (fun ax25 cp26 n27 (hn28:n13+2≤n27) => ?_)
     refine Di 6 0 [] [[o0],[(ov (i6 ((j+1:Nat):Int))),o0]] [Wr ((j:Int)+1) (((j+1:Nat):Int))] [(1,i6 ch),(Ht y11 c aD2 ch i j cD2),(6,Ad i),(FU c b4 o5),(En c),(13,Ad i),(J8 y11 b15 o16),(FH y11),(JK j),(4,.slice ax25 ((Bv c ch true i++Bo i y11 ch true j++[(⟨(i:Int),(j:Int)⟩:Ee)]).length) cp26)] rfl ⟨Be,Ae⟩ ?_
     refine BO [0,1,2,3,4] [(Ak w),(GG z c),(AV z 91 2 Ee.cells (.slice ax25 ((Bv c ch true i++Bo i y11 ch true j++[(⟨(i:Int),(j:Int)⟩:Ee)]).length) cp26) (Bv c ch true i++Bo i y11 ch true j++[(⟨(i:Int),(j:Int)⟩:Ee)])),(Jr y11 z c aD2 ch i j cD2),(Je n2 y11)] rfl rfl ?_
     have hTtrue:=Nz (p:=i) (x:=y11) (k:=ch) (b:=true) (j:=j) (by rw[←hy22];exact UJ (by omega) (by revert h24;cases y22.Source <;> simp))
     have hTfalse:=J6 (p:=i) (x:=y11) (k:=ch) (b:=false) (j:=j) (by rw[←hy22];exact Tn (by revert h24;cases y22.Source <;> simp))
     refine EP [1,4,5,6,11,12,13,19,20,21] [(1,i6 ch),(4,.slice ax25 ((Bv c ch true i++Bo i y11 ch true j++[(⟨(i:Int),(j:Int)⟩:Ee)]).length) cp26),(Ht y11 c aD2 ch i j cD2),(6,Ad i),(FU c b4 o5),(En c),(13,Ad i),(IM y11),(FH y11),(JK j)] (by(try dsimp only[Je,GG,Jr,Jn,KZ,Ht,Ho,FU,J8,JM,IM,En,FH,IL,JK]);simp only[ha17];rfl) ?_
     refine Bz (fun a w' hs=>⟨y11.Ai.xs.length - (j+1),by omega,n27,(j+1),ax25,cp26,aD2,cD2,rfl,by omega,by omega,by(try dsimp only[Je,GG,Jr,Jn,KZ,Ht,Ho,FU,J8,JM,IM,En,FH,IL,JK]at hs ⊢);rw[hTtrue,←List.append_assoc,hTfalse];exact hs⟩)
    refine q_c 2 5 [2] [[o0,o0,o0,o0,o0]] [Value.bool y22.Source=Value.bool false] [(1,i6 ch),(Ho y11 c ch i j aS2 cS2),(6,Ad i),(FU c b4 o5),(En c),(13,Ad i),(J8 y11 b15 o16),(FH y11),(21,Ad j),(26,.slice aD2 ((Bv c ch false i++Bo i y11 ch false j).length) cD2),(30,.slice (some ⟨n13+1,0,none⟩) 1 1)] ⟨w,n13+2,[(Ak w),(GG z c),(Jn y11 z c ch i j aS2 cS2),(Jr y11 z c aD2 ch i j cD2),(Je n2 y11),(bk n13 (AC.arr y22) 75),(bk (n13+1) #[(Ad i),Ad j] 91)]⟩ rfl ⟨(congrArg Value.bool (Bool.eq_false_iff.2 h24)),Ae⟩ ?_
    refine Fe z 3 6 (Bv c ch false i++Bo i y11 ch false j) [(⟨(i:Int),(j:Int)⟩:Ee)] Ee.cells 91 2 16 (.slice aD2 ((Bv c ch false i++Bo i y11 ch false j).length) cD2) (n13+1) 1 1 #[(Ad i),Ad j] 91 (0,0) true (some 31) (by simp only[List.length_cons,List.length_nil,List.length_append];omega) (show z≤n13+2 by omega) (fun ax29 cp30 n31 (hn32:n13+2≤n31) => ?_)
    refine Di 6 0 [] [[o0],[(ov (i6 ((j+1:Nat):Int))),o0]] [Wr ((j:Int)+1) (((j+1:Nat):Int))] [(1,i6 ch),(Ho y11 c ch i j aS2 cS2),(6,Ad i),(FU c b4 o5),(En c),(13,Ad i),(J8 y11 b15 o16),(FH y11),(JK j),(5,.slice ax29 ((Bv c ch false i++Bo i y11 ch false j++[(⟨(i:Int),(j:Int)⟩:Ee)]).length) cp30)] rfl ⟨Be,Ae⟩ ?_
    refine BO [0,1,2,3,4] [(Ak w),(GG z c),(Jn y11 z c ch i j aS2 cS2),(AV z 91 2 Ee.cells (.slice ax29 ((Bv c ch false i++Bo i y11 ch false j++[(⟨(i:Int),(j:Int)⟩:Ee)]).length) cp30) (Bv c ch false i++Bo i y11 ch false j++[(⟨(i:Int),(j:Int)⟩:Ee)])),(Je n2 y11)] rfl rfl ?_
    have hTtrue:=J6 (p:=i) (x:=y11) (k:=ch) (b:=true) (j:=j) (by rw[←hy22];exact Tn (by revert h24;cases y22.Source <;> simp))
    have hTfalse:=Nz (p:=i) (x:=y11) (k:=ch) (b:=false) (j:=j) (by rw[←hy22];exact UJ (by omega) (by revert h24;cases y22.Source <;> simp))
    refine EP [1,4,5,6,11,12,13,19,20,21] [(1,i6 ch),(Ho y11 c ch i j aS2 cS2),(5,.slice ax29 ((Bv c ch false i++Bo i y11 ch false j++[(⟨(i:Int),(j:Int)⟩:Ee)]).length) cp30),(6,Ad i),(FU c b4 o5),(En c),(13,Ad i),(IM y11),(FH y11),(JK j)] (by(try dsimp only[Je,GG,Jr,Jn,KZ,Ht,Ho,FU,J8,JM,IM,En,FH,IL,JK]);simp only[ha17];rfl) ?_
    refine Bz (fun a w' hs=>⟨y11.Ai.xs.length - (j+1),by omega,n31,(j+1),aS2,cS2,ax29,cp30,rfl,by omega,by omega,by(try dsimp only[Je,GG,Jr,Jn,KZ,Ht,Ho,FU,J8,JM,IM,En,FH,IL,JK]at hs ⊢);rw[hTtrue,hTfalse,←List.append_assoc];exact hs⟩)
   refine A8 10 0 [1] [[o0,(a1 5),o0,oT,o0],[(ov (i6 ((j+1:Nat):Int))),o0]] [Qb n13,NT y22.Channel ch,Wr ((j:Int)+1) (((j+1:Nat):Int))] [(1,i6 ch),(Ho y11 c ch i j aS2 cS2),(Ht y11 c aD2 ch i j cD2),(6,Ad i),(FU c b4 o5),(En c),(13,Ad i),(J8 y11 b15 o16),(FH y11),(JK j)] rfl ⟨rfl,nt,Be,Ae⟩ ?_
   refine BO [0,1,2,3,4] [(Ak w),(GG z c),(Jn y11 z c ch i j aS2 cS2),(Jr y11 z c aD2 ch i j cD2),(Je n2 y11)] rfl rfl ?_
   have hTtrue:=J6 (p:=i) (x:=y11) (k:=ch) (b:=true) (j:=j) (by rw[←hy22];exact Uy (by omega))
   have hTfalse:=J6 (p:=i) (x:=y11) (k:=ch) (b:=false) (j:=j) (by rw[←hy22];exact Uy (by omega))
   refine EP [1,4,5,6,11,12,13,19,20,21] [(1,i6 ch),(Ho y11 c ch i j aS2 cS2),(Ht y11 c aD2 ch i j cD2),(6,Ad i),(FU c b4 o5),(En c),(13,Ad i),(IM y11),(FH y11),(JK j)] (by(try dsimp only[Je,GG,Jr,Jn,KZ,Ht,Ho,FU,J8,JM,IM,En,FH,IL,JK]);simp only[ha17];rfl) ?_
   refine Bz (fun a w' hs=>⟨y11.Ai.xs.length - (j+1),by omega,(n13+1),(j+1),aS2,cS2,aD2,cD2,rfl,by omega,by omega,by(try dsimp only[Je,GG,Jr,Jn,KZ,Ht,Ho,FU,J8,JM,IM,En,FH,IL,JK]at hs ⊢);rw[hTtrue,hTfalse];exact hs⟩)
  refine A8 13 0 [0] [[oF],[(ov (i6 ((i+1:Nat):Int))),o0]] [BF ((j:Int)<(y11.Ai.xs.length:Int)),Wr ((i:Int)+1) (((i+1:Nat):Int))] [(1,i6 ch),(Ho y11 c ch i j aS2 cS2),(Ht y11 c aD2 ch i j cD2),(FU c b4 o5),(En c),(13,i6 ((i+1:Nat):Int))] rfl ⟨bf,Be,Ae⟩ ?_
  refine BO [0,1,2,3] [(Ak w),(GG z c),(Jn y11 z c ch i j aS2 cS2),(Jr y11 z c aD2 ch i j cD2)] rfl rfl ?_
  refine EP [1,4,5,11,12,13] [(1,i6 ch),(Ho y11 c ch i j aS2 cS2),(Ht y11 c aD2 ch i j cD2),(JM c),(En c),(13,i6 ((i+1:Nat):Int))] (by(try dsimp only[Je,GG,Jr,Jn,KZ,Ht,Ho,FU,J8,JM,IM,En,FH,IL,JK]);simp only[ha6];rfl) ?_
  refine Bz (fun a w' hs=>⟨c.Aa.xs.length - (i+1),by omega,n13,(i+1),aS2,cS2,aD2,cD2,rfl,by omega,by omega,by(try dsimp only[Je,GG,Jr,Jn,KZ,Ht,Ho,FU,J8,JM,IM,En,FH,IL,JK]at hs ⊢);rw[JU,JU,←hy11,show y11.Ai.xs.length=j by omega];exact hs⟩)
 refine A8 15 0 [0] [[oF],[o0,o0,o0,o0]] [BF ((i:Int)<(c.Aa.xs.length:Int))] [(4,.slice aS ((Bv c ch true i).length) cS),(IL c ch i aD cD)] rfl ⟨bf,Ae⟩ ?_
 refine AZ [] [] (.tuple #[.slice aS ((Bv c ch true i).length) cS,.slice aD ((Bv c ch false i).length) cD]) Ae ?_
 intro w33 hw33
 have e0:i=c.Aa.xs.length:=by omega
 subst e0
 refine⟨_,_,_,_,rfl,hz ▸ JF (fun _=>rfl) (hw33.at (i:=2) rfl) (by unfold Ba;omega),hz ▸ JF (fun _=>rfl) (hw33.at (i:=3) rfl) (by unfold Ba;omega),Bg hw33⟩
section
variable (z:Nat)(c:Af)(b11 o12:Nat)(b27 o28:Nat)
abbrev KJ:=bk z (Af.arr c) 26
abbrev QF:Dq:=(30,.slice (some ⟨b11,o12,none⟩) c.Aa.xs.length c.Aa.cap)
abbrev N9:Dq:=(42,.slice (some ⟨b27,o28,none⟩) c.Ac.xs.length c.Ac.cap)
abbrev Ol:Dq:=(30,.slice c.Aa.a c.Aa.xs.length c.Aa.cap)
abbrev OO:Dq:=(42,.slice c.Ac.a c.Ac.xs.length c.Ac.cap)
abbrev KX:=(31,Ad c.Aa.xs.length)
abbrev JE:=(43,Ad c.Ac.xs.length)
end
theorem XC(w:World)(c:Af)(hc:Af.ok Any w c):Calls Try.prog 20 #[.agg (Af.arr c)] w fun e w'=>e = .returned (.bool (BZ c))∧BN (fun _=>False) w w':=by
 obtain⟨z,hz⟩:∃ z,z=w.heap.size:=⟨_,rfl⟩
 refine BV (args:=[.agg (Af.arr c)]) 82 ⟨w,z,[(Ak w)]⟩ Try.func20 rfl (by kernel_rfl) (by kernel_rfl) (Fv hz) ?_
 have hlC:=hc.Ac.1.len
 refine Eb [0] [(0,.agg (Af.arr c))] ?_
 refine q_c 6 0 [] [[o0,o0]] [] [(1,pt z)] ⟨w,z+1,[(Ak w),(KJ z c)]⟩ rfl Ae ?_
 by_cases h1:(c.Kernel:Int)<0
 ·refine A8 9 0 [1] [[o0,(a1 1),oT,o0,o0,o0,o0,o0,o0],[o0]] [Qb z,BT ((c.Kernel:Int)<0)] [(2,.bool false)] rfl ⟨rfl,bt,Ae⟩ ?_
  refine AZ [] [] (.bool false) Ae ?_
  intro w2 hw2
  refine⟨congrArg (fun b=>Ending.returned (Value.bool b)) (Eq.symm (?_:BZ c=false)),Bg hw2⟩
  exact N7 (by omega)
 by_cases h3:(c.Kernel:Int)<1024
 ·by_cases h4:(8:Int)<(c.Aa.xs.length:Int)
  ·refine A8 9 0 [1] [[o0,(a1 1),oF,o0,o0,(a1 1),oF,o0,o0,o0,(a1 1),o0,oT,o0,o0,o0],[o0]] [Qb z,BF ((c.Kernel:Int)<0),Qb z,BF ((c.Kernel:Int)≥1024),Qb z,BT ((c.Aa.xs.length:Int) > 8)] [(2,.bool false)] rfl ⟨rfl,bf,rfl,bf,rfl,bt,Ae⟩ ?_
   refine AZ [] [] (.bool false) Ae ?_
   intro w5 hw5
   refine⟨congrArg (fun b=>Ending.returned (Value.bool b)) (Eq.symm (?_:BZ c=false)),Bg hw5⟩
   exact N7 (by omega)
  by_cases h6:(16:Int)<(c.Ac.xs.length:Int)
  ·refine A8 9 0 [1] [[o0,(a1 1),oF,o0,o0,(a1 1),oF,o0,o0,o0,(a1 1),o0,oF,o0,o0,o0,(a1 1),o0,oT,o0],[o0]] [Qb z,BF ((c.Kernel:Int)<0),Qb z,BF ((c.Kernel:Int)≥1024),Qb z,BF ((c.Aa.xs.length:Int) > 8),Qb z,BT ((c.Ac.xs.length:Int) > 16)] [(2,.bool false)] rfl ⟨rfl,bf,rfl,bf,rfl,bf,rfl,bt,Ae⟩ ?_
   refine AZ [] [] (.bool false) Ae ?_
   intro w7 hw7
   refine⟨congrArg (fun b=>Ending.returned (Value.bool b)) (Eq.symm (?_:BZ c=false)),Bg hw7⟩
   exact N7 (by omega)
  refine A8 12 0 [0] [[o0,(a1 1),oF,o0,o0,(a1 1),oF,o0,o0,o0,(a1 1),o0,oF,o0,o0,o0,(a1 1),o0,oF,o0],[o0,(a1 1),o0,o0]] [Qb z,BF ((c.Kernel:Int)<0),Qb z,BF ((c.Kernel:Int)≥1024),Qb z,BF ((c.Aa.xs.length:Int) > 8),Qb z,BF ((c.Ac.xs.length:Int) > 16),Qb z] [(1,pt z),(Ol c),(KX c),(32,i6 0)] rfl ⟨rfl,bf,rfl,bf,rfl,bf,rfl,bf,rfl,Ae⟩ ?_
  refine Ce (fun m a w'=>∃ (n9:Nat) (k:Nat),m=c.Aa.xs.length - k∧z+1≤n9∧(k≤c.Aa.xs.length)∧(∀ i,i<k→CV c.Ac.xs.length (gd c.Aa.xs i)=true)∧St 82 [(1,pt z),(Ol c),(KX c),(32,Ad k)] [] ⟨w,n9,[(Ak w),(KJ z c)]⟩ a w') (c.Aa.xs.length - 0) ?_ ?_
  ·intro a w' hs;exact⟨(z+1),0,rfl,Nat.le_refl _,Nat.zero_le _,fun i hi=>absurd hi (Nat.not_lt_zero i),hs⟩
  rintro m a w' ⟨n9,k,rfl,hn8,hkk,hp,hs⟩
  refine(?_:G Try.prog 82 [(1,pt z),(Ol c),(KX c),(32,Ad k)] [] ⟨w,n9,[(Ak w),(KJ z c)]⟩ _ _ _) a w' hs
  clear hs a w'
  refine CP ?_
  by_cases h10:(k:Int)<(c.Aa.xs.length:Int)
  ·refine A8 10 0 [1] [[oT]] [BT ((k:Int)<(c.Aa.xs.length:Int))] [(1,pt z),(Ol c),(KX c),(32,Ad k),(33,.bool true)] rfl ⟨bt,Ae⟩ ?_
   obtain⟨b11,o12,ha13,hF15,hc14⟩:=(hc.Aa).1.all (show 0<c.Aa.xs.length by omega)
   replace ha13:c.Aa.a=some ⟨b11,o12,none⟩:=ha13
   refine IZ [(1,pt z),(QF c b11 o12),(KX c),(32,Ad k),(33,.bool true)] (by(try dsimp only[KJ,QF,Ol,KX]);simp only[ha13]) ?_
   have hc16:=hc14 k (show k<c.Aa.xs.length by omega)
   have he17:=(hc.Aa).2 k (show k<c.Aa.xs.length by omega)
   obtain⟨y18,hy18⟩:∃ y_,y_=gd c.Aa.xs k:=⟨_,rfl⟩
   rw[←hy18]at he17 hc16
   refine q_c 5 2 [] [[(oi k),(ol 0 (Ah.arr y18)),o0,(an 8 2)],[(an 7 1),(an 8 2)]] [BI k,k<c.Aa.xs.length,Bq,Eh w b11 (o12+k*8) (Ah.arr y18),Qb n9,Qb n9,Qb n9,Qb n9,Qb n9,Qb n9,Qb n9,Qb n9,Qb z,Qb z,Qb z,Qb z,Qb z,Qb z,Qb z,Qb n9,Qb n9,Qb n9,Qb n9,Qb n9,Qb n9,Qb n9,Qb n9] [(1,pt z),(QF c b11 o12),(KX c),(32,Ad k),(36,.agg (Af.arr c)),(37,.agg (Ah.arr y18))] ⟨w,n9+1,[(Ak w),(KJ z c),(bk n9 (Ah.arr y18) 52)]⟩ rfl ⟨rfl,(by omega),rfl,CB hc16,rfl,rfl,rfl,rfl,rfl,rfl,rfl,rfl,rfl,rfl,rfl,rfl,rfl,rfl,rfl,rfl,rfl,rfl,rfl,rfl,rfl,rfl,rfl,Ae⟩ ?_
   refine H5 36 #[.agg (Af.arr c),.agg (Ah.arr y18)] (some 38) (.bool (CV c.Ac.xs.length y18)) (fun w19 hw19=>VO w19 c y18 (hc.ext (hw19.ext rfl) (fun _ h=>h)) (he17.ext (hw19.ext rfl) (fun _ h=>h))) (fun n20 (hn21:n9+1≤n20) => ?_)
   refine Ui [1,30,31,32,38] [(1,pt z),(QF c b11 o12),(KX c),(32,Ad k),(38,.bool (CV c.Ac.xs.length y18))] ?_
   by_cases h22:(CV c.Ac.xs.length y18)=true
   ·refine Di 8 0 [0] [[(ov (.bool false))],[(ov (i6 ((k+1:Nat):Int))),o0]] [Value.bool (!(CV c.Ac.xs.length y18))=Value.bool false,Wr ((k:Int)+1) (((k+1:Nat):Int))] [(1,pt z),(QF c b11 o12),(KX c),(32,i6 ((k+1:Nat):Int))] rfl ⟨by simp[h22],Be,Ae⟩ ?_
    refine BO [0,1] [(Ak w),(KJ z c)] rfl rfl ?_
    refine EP [1,30,31,32] [(1,pt z),(Ol c),(KX c),(32,i6 ((k+1:Nat):Int))] (by(try dsimp only[KJ,QF,Ol,KX]);simp only[ha13];rfl) ?_
    refine Bz (fun a w' hs=>⟨c.Aa.xs.length - (k+1),by omega,n20,(k+1),rfl,by omega,by omega,upto hp (by rw[←hy18];exact h22),hs⟩)
   refine Di 8 0 [1] [[(ov (.bool true))],[o0]] [Value.bool (!(CV c.Ac.xs.length y18))=Value.bool true] [(2,.bool false)] rfl ⟨by simp[h22],Ae⟩ ?_
   refine AZ [] [] (.bool false) Ae ?_
   intro w23 hw23
   refine⟨congrArg (fun b=>Ending.returned (Value.bool b)) (Eq.symm (?_:BZ c=false)),Bg hw23⟩
   exact Yz (k:=k) (by omega) (by rw[←hy18];exact Bool.eq_false_iff.2 h22)
  refine A8 16 0 [0] [[oF],[o0,(a1 1),o0,o0]] [BF ((k:Int)<(c.Aa.xs.length:Int)),Qb z] [(1,pt z),(OO c),(JE c),(44,i6 0)] rfl ⟨bf,rfl,Ae⟩ ?_
  refine Ce (fun m a w'=>∃ (n25:Nat) (k2:Nat),m=c.Ac.xs.length - k2∧n9≤n25∧(k2≤c.Ac.xs.length)∧(∀ i,i<k2→KA c i=true)∧St 82 [(1,pt z),(OO c),(JE c),(44,Ad k2)] [] ⟨w,n25,[(Ak w),(KJ z c)]⟩ a w') (c.Ac.xs.length - 0) ?_ ?_
  ·intro a w' hs;exact⟨n9,0,rfl,Nat.le_refl _,Nat.zero_le _,fun i hi=>absurd hi (Nat.not_lt_zero i),hs⟩
  rintro m a w' ⟨n25,k2,rfl,hn24,hkk2,hch,hs⟩
  refine(?_:G Try.prog 82 [(1,pt z),(OO c),(JE c),(44,Ad k2)] [] ⟨w,n25,[(Ak w),(KJ z c)]⟩ _ _ _) a w' hs
  clear hs a w'
  refine CP ?_
  by_cases h26:(k2:Int)<(c.Ac.xs.length:Int)
  ·refine A8 10 0 [1] [[oT]] [BT ((k2:Int)<(c.Ac.xs.length:Int))] [(1,pt z),(OO c),(JE c),(44,Ad k2),(45,.bool true)] rfl ⟨bt,Ae⟩ ?_
   obtain⟨b27,o28,ha29,hF31,hc30⟩:=(hc.Ac).1.all (show 0<c.Ac.xs.length by omega)
   replace ha29:c.Ac.a=some ⟨b27,o28,none⟩:=ha29
   refine IZ [(1,pt z),(N9 c b27 o28),(JE c),(44,Ad k2),(45,.bool true)] (by(try dsimp only[KJ,QF,N9,Ol,OO,KX,JE]);simp only[ha29]) ?_
   have hc32:=hc30 k2 (show k2<c.Ac.xs.length by omega)
   have he33:=(hc.Ac).2 k2 (show k2<c.Ac.xs.length by omega)
   obtain⟨y34,hy34⟩:∃ y_,y_=gd c.Ac.xs k2:=⟨_,rfl⟩
   rw[←hy34]at he33 hc32
   have hsb:=KE y34;have hsp:=J5 y34;have hec1:=OM c k2 true;have hec2:=OM c k2 false
   refine q_c 5 2 [] [[o0,(oi k2),(ol 0 (Aw.arr y34)),o0,o0,(an 3 2)],[(an 7 1),o0]] [BI k2,k2<c.Ac.xs.length,Bq,Eh w b27 (o28+k2*3) (Aw.arr y34),Qb n25,Qb n25,Qb n25,Qb z,Qb z,Qb z,Qb z,Qb z,Qb z,Qb z] [(1,pt z),(N9 c b27 o28),(JE c),(44,Ad k2),(6,pt n25),(50,.agg (Af.arr c)),(51,Ad k2)] ⟨w,n25+1,[(Ak w),(KJ z c),(bk n25 (Aw.arr y34) 77)]⟩ rfl ⟨rfl,(by omega),rfl,CB hc32,rfl,rfl,rfl,rfl,rfl,rfl,rfl,rfl,rfl,rfl,Ae⟩ ?_
   refine l_call [] [] 22 #[.agg (Af.arr c),Ad k2] (some 52) Ae ?_
   intro w35 hw35
   refine(VX w35 c (k2:Int) (hc.ext (hw35.ext rfl) (fun _ h=>h)) (by omega) (fun i hi=>MG (hp i (by omega)))).mono ?_
   rintro e w36 ⟨ax37,cp38,ax39,cp40,rfl,hSw36,hDw36,hkw36⟩
   have hnw36:n25+1≤w36.heap.size:=Dx hw35 hkw36
   rw[hw35.size]at hSw36 hDw36
   refine⟨_,_,rfl,hw35.Lc hkw36, ?_⟩
   refine Di 5 1 [] [[o0,o0,o0,o0,o0],[(an 3 2)]] [Qb n25,Qb n25,Qb n25] [(1,pt z),(N9 c b27 o28),(JE c),(44,Ad k2),(6,pt n25),(7,.slice ax37 ((Ba c (k2:Int) true).length) cp38),(8,.slice ax39 ((Ba c (k2:Int) false).length) cp40),(55,.agg (Aw.arr y34))] rfl ⟨rfl,rfl,rfl,Ae⟩ ?_
   refine H5 23 #[.agg (Aw.arr y34)] (some 56) (i6 (AB y34)) (fun w41 hw41=>Nb w41 y34 (he33.ext (hw41.ext rfl) (fun _ h=>h))) (fun n42 (hn43:w36.heap.size≤n42) => ?_)
   refine Ui [1,42,43,44,6,7,8,56] [(1,pt z),(N9 c b27 o28),(JE c),(44,Ad k2),(6,pt n25),(7,.slice ax37 ((Ba c (k2:Int) true).length) cp38),(8,.slice ax39 ((Ba c (k2:Int) false).length) cp40),(56,i6 (AB y34))] ?_
   by_cases h44:(AB y34:Int)=0
   ·refine Di 8 0 [1] [[oT,o0,o0],[o0]] [ET (AB y34) 0] [(2,.bool false)] rfl ⟨et,Ae⟩ ?_
    refine AZ [] [] (.bool false) Ae ?_
    intro w45 hw45
    refine⟨congrArg (fun b=>Ending.returned (Value.bool b)) (Eq.symm (?_:BZ c=false)),Bg hw45⟩
    exact Ip (k:=k2) (by omega) (Jk (by rw[←hy34];first | omega | (left;exact(J5 _).1 (by omega))))
   by_cases h46:(y34.Kind:Int)=1
   ·by_cases h47:(y34.CS:Int)=0
    ·refine Di 6 0 [0] [[oF,o0,o0,(a1 2),oT,o0,o0,(a1 2),oF,o0,o0]] [EF (AB y34) 0,Qb n25,ET y34.Kind 1,Qb n25,NF y34.CS 0] [(1,pt z),(N9 c b27 o28),(JE c),(44,Ad k2),(7,.slice ax37 ((Ba c (k2:Int) true).length) cp38),(8,.slice ax39 ((Ba c (k2:Int) false).length) cp40),(67,.bool false)] rfl ⟨ef,rfl,et,rfl,nf,Ae⟩ ?_
     by_cases h48:((((Ba c (k2:Int) true).length:Nat):Int):Int)=1
     ·by_cases h49:((((Ba c (k2:Int) false).length:Nat):Int):Int)<1
      ·refine A8 9 0 [1] [[o0,o0,oF,o0,o0,o0,oT,o0,o0,o0],[o0]] [NF (((Ba c (k2:Int) true).length:Nat):Int) 1,BT (((((Ba c (k2:Int) false).length:Nat):Int):Int)<1)] [(2,.bool false)] rfl ⟨nf,bt,Ae⟩ ?_
       refine AZ [] [] (.bool false) Ae ?_
       intro w50 hw50
       refine⟨congrArg (fun b=>Ending.returned (Value.bool b)) (Eq.symm (?_:BZ c=false)),Bg hw50⟩
       exact Ip (k:=k2) (by omega) (Jk (by rw[←hy34];first | omega | (left;exact(J5 _).1 (by omega))))
      by_cases h51:(4:Int)<(((Ba c (k2:Int) false).length:Nat):Int)
      ·refine A8 9 0 [1] [[o0,o0,oF,o0,o0,o0,oF,o0,o0,o0,o0,oT,o0],[o0]] [NF (((Ba c (k2:Int) true).length:Nat):Int) 1,BF (((((Ba c (k2:Int) false).length:Nat):Int):Int)<1),BT (((((Ba c (k2:Int) false).length:Nat):Int):Int) > 4)] [(2,.bool false)] rfl ⟨nf,bf,bt,Ae⟩ ?_
       refine AZ [] [] (.bool false) Ae ?_
       intro w52 hw52
       refine⟨congrArg (fun b=>Ending.returned (Value.bool b)) (Eq.symm (?_:BZ c=false)),Bg hw52⟩
       exact Ip (k:=k2) (by omega) (Jk (by rw[←hy34];first | omega | (left;exact(J5 _).1 (by omega))))
      refine A8 9 0 [0] [[o0,o0,oF,o0,o0,o0,oF,o0,o0,o0,o0,oF,o0],[(ov (i6 ((k2+1:Nat):Int))),o0]] [NF (((Ba c (k2:Int) true).length:Nat):Int) 1,BF (((((Ba c (k2:Int) false).length:Nat):Int):Int)<1),BF (((((Ba c (k2:Int) false).length:Nat):Int):Int) > 4),Wr ((k2:Int)+1) (((k2+1:Nat):Int))] [(1,pt z),(N9 c b27 o28),(JE c),(44,i6 ((k2+1:Nat):Int))] rfl ⟨nf,bf,bf,Be,Ae⟩ ?_
      refine BO [0,1] [(Ak w),(KJ z c)] rfl rfl ?_
      refine EP [1,42,43,44] [(1,pt z),(OO c),(JE c),(44,i6 ((k2+1:Nat):Int))] (by(try dsimp only[KJ,N9,Ol,OO,KX,JE]);simp only[ha29];rfl) ?_
      refine Bz (fun a w' hs=>⟨c.Ac.xs.length - (k2+1),by omega,n42,(k2+1),rfl,by omega,by omega,upto hch (TR (by rw[←hy34];intro e;exact absurd (hsp.2 e) (by omega)) (by rw[←hy34];omega) (by omega) (by omega)),hs⟩)
     refine A8 9 0 [1] [[o0,o0,oT,o0,o0,o0,o0],[o0]] [NT (((Ba c (k2:Int) true).length:Nat):Int) 1] [(2,.bool false)] rfl ⟨nt,Ae⟩ ?_
     refine AZ [] [] (.bool false) Ae ?_
     intro w53 hw53
     refine⟨congrArg (fun b=>Ending.returned (Value.bool b)) (Eq.symm (?_:BZ c=false)),Bg hw53⟩
     exact Ip (k:=k2) (by omega) (Jk (by rw[←hy34];first | omega | (left;exact(J5 _).1 (by omega))))
    refine Di 8 0 [1] [[oF,o0,o0,(a1 2),oT,o0,o0,(a1 2),oT,o0,o0],[o0]] [EF (AB y34) 0,Qb n25,ET y34.Kind 1,Qb n25,NT y34.CS 0] [(2,.bool false)] rfl ⟨ef,rfl,et,rfl,nt,Ae⟩ ?_
    refine AZ [] [] (.bool false) Ae ?_
    intro w54 hw54
    refine⟨congrArg (fun b=>Ending.returned (Value.bool b)) (Eq.symm (?_:BZ c=false)),Bg hw54⟩
    exact Ip (k:=k2) (by omega) (Jk (by rw[←hy34];first | omega | (left;exact(J5 _).1 (by omega))))
   refine Di 6 0 [0] [[oF,o0,o0,(a1 2),oF,o0,o0,o0]] [EF (AB y34) 0,Qb n25,EF y34.Kind 1] [(1,pt z),(N9 c b27 o28),(JE c),(44,Ad k2),(7,.slice ax37 ((Ba c (k2:Int) true).length) cp38),(8,.slice ax39 ((Ba c (k2:Int) false).length) cp40),(67,.bool false)] rfl ⟨ef,rfl,ef,Ae⟩ ?_
   by_cases h55:((((Ba c (k2:Int) true).length:Nat):Int):Int)=1
   ·by_cases h56:((((Ba c (k2:Int) false).length:Nat):Int):Int)<1
    ·refine A8 9 0 [1] [[o0,o0,oF,o0,o0,o0,oT,o0,o0,o0],[o0]] [NF (((Ba c (k2:Int) true).length:Nat):Int) 1,BT (((((Ba c (k2:Int) false).length:Nat):Int):Int)<1)] [(2,.bool false)] rfl ⟨nf,bt,Ae⟩ ?_
     refine AZ [] [] (.bool false) Ae ?_
     intro w57 hw57
     refine⟨congrArg (fun b=>Ending.returned (Value.bool b)) (Eq.symm (?_:BZ c=false)),Bg hw57⟩
     exact Ip (k:=k2) (by omega) (Jk (by rw[←hy34];first | omega | (left;exact(J5 _).1 (by omega))))
    by_cases h58:(4:Int)<(((Ba c (k2:Int) false).length:Nat):Int)
    ·refine A8 9 0 [1] [[o0,o0,oF,o0,o0,o0,oF,o0,o0,o0,o0,oT,o0],[o0]] [NF (((Ba c (k2:Int) true).length:Nat):Int) 1,BF (((((Ba c (k2:Int) false).length:Nat):Int):Int)<1),BT (((((Ba c (k2:Int) false).length:Nat):Int):Int) > 4)] [(2,.bool false)] rfl ⟨nf,bf,bt,Ae⟩ ?_
     refine AZ [] [] (.bool false) Ae ?_
     intro w59 hw59
     refine⟨congrArg (fun b=>Ending.returned (Value.bool b)) (Eq.symm (?_:BZ c=false)),Bg hw59⟩
     exact Ip (k:=k2) (by omega) (Jk (by rw[←hy34];first | omega | (left;exact(J5 _).1 (by omega))))
    refine A8 9 0 [0] [[o0,o0,oF,o0,o0,o0,oF,o0,o0,o0,o0,oF,o0],[(ov (i6 ((k2+1:Nat):Int))),o0]] [NF (((Ba c (k2:Int) true).length:Nat):Int) 1,BF (((((Ba c (k2:Int) false).length:Nat):Int):Int)<1),BF (((((Ba c (k2:Int) false).length:Nat):Int):Int) > 4),Wr ((k2:Int)+1) (((k2+1:Nat):Int))] [(1,pt z),(N9 c b27 o28),(JE c),(44,i6 ((k2+1:Nat):Int))] rfl ⟨nf,bf,bf,Be,Ae⟩ ?_
    refine BO [0,1] [(Ak w),(KJ z c)] rfl rfl ?_
    refine EP [1,42,43,44] [(1,pt z),(OO c),(JE c),(44,i6 ((k2+1:Nat):Int))] (by(try dsimp only[KJ,N9,Ol,OO,KX,JE]);simp only[ha29];rfl) ?_
    refine Bz (fun a w' hs=>⟨c.Ac.xs.length - (k2+1),by omega,n42,(k2+1),rfl,by omega,by omega,upto hch (TR (by rw[←hy34];intro e;exact absurd (hsp.2 e) (by omega)) (by rw[←hy34];omega) (by omega) (by omega)),hs⟩)
   refine A8 9 0 [1] [[o0,o0,oT,o0,o0,o0,o0],[o0]] [NT (((Ba c (k2:Int) true).length:Nat):Int) 1] [(2,.bool false)] rfl ⟨nt,Ae⟩ ?_
   refine AZ [] [] (.bool false) Ae ?_
   intro w60 hw60
   refine⟨congrArg (fun b=>Ending.returned (Value.bool b)) (Eq.symm (?_:BZ c=false)),Bg hw60⟩
   exact Ip (k:=k2) (by omega) (Jk (by rw[←hy34];first | omega | (left;exact(J5 _).1 (by omega))))
  refine A8 15 0 [0] [[oF],[o0]] [BF ((k2:Int)<(c.Ac.xs.length:Int))] [(2,.bool true)] rfl ⟨bf,Ae⟩ ?_
  refine AZ [] [] (.bool true) Ae ?_
  intro w61 hw61
  refine⟨congrArg (fun b=>Ending.returned (Value.bool b)) (Eq.symm (?_:BZ c=true)),Bg hw61⟩
  exact Ya (by omega) (by omega) (by omega) (fun i hi=>hp i (by omega)) (fun i hi=>hch i (by omega))
 refine A8 9 0 [1] [[o0,(a1 1),oF,o0,o0,(a1 1),oT,o0,o0,o0,o0,o0],[o0]] [Qb z,BF ((c.Kernel:Int)<0),Qb z,BT ((c.Kernel:Int)≥1024)] [(2,.bool false)] rfl ⟨rfl,bf,rfl,bt,Ae⟩ ?_
 refine AZ [] [] (.bool false) Ae ?_
 intro w62 hw62
 refine⟨congrArg (fun b=>Ending.returned (Value.bool b)) (Eq.symm (?_:BZ c=false)),Bg hw62⟩
 exact N7 (by omega)
def ML(g:Ar)(n:Nat):List Nat:=(List.range n).map (fun(k:Nat)=>((g.Ci+(k:Int)) / 16).toNat)
def Ez(x:Ah)(i:Nat):List Nat:=(List.range i).flatMap (fun r=>ML (gd x.Ag.xs r) (gd x.Ag.xs r).CE.toNat)
def IW(l:List Nat):Array Value:=((List.range 16).map (fun t=>Value.bool (l.contains t))).toArray
theorem Uo(l:List Nat):(IW l).size=16:=by simp[IW]
theorem WW(l:List Nat){t:Nat}(h:t<16):(IW l)[t]? = some (Value.bool (l.contains t)):=by simp[IW,h]
theorem Zac(l:List Nat)(t:Nat):IW (l++[t])=(IW l).setIfInBounds t (.bool true):=by
 apply Array.ext_getElem?
 intro i
 rw[Array.getElem?_setIfInBounds,Uo]
 by_cases hi:i<16
 ·rw[WW _ hi,WW _ hi]
  by_cases e:t=i
  ·subst e;simp[hi]
  rw[if_neg e]
  simp[Ne.symm e]
 have h1:∀ l,(IW l)[i]? = none:=fun l=>Array.getElem?_eq_none (by rw[Uo];omega)
 rw[h1,h1]
 by_cases e:t=i
 ·subst e;simp[hi]
 simp[e]
theorem YS{g:Ar}{k:Nat}:ML g (k+1)=ML g k++[((g.Ci+(k:Int)) / 16).toNat]:=by
 unfold ML;rw[List.range_succ,List.map_append];rfl
theorem YW{x:Ah}{i:Nat}:Ez x (i+1)=Ez x i++ML (gd x.Ag.xs i) (gd x.Ag.xs i).CE.toNat:=by
 unfold Ez;rw[List.range_succ,List.flatMap_append];simp
def Fq(x:Ah):Nat:=(List.range 16).countP (fun t=>(Ez x x.Ag.xs.length).contains t)
theorem RH{p:Nat→Bool}{j:Nat}:(List.range (j+1)).countP p=(List.range j).countP p+if p j then 1 else 0:=by
 rw[List.range_succ,List.countP_append];simp[List.countP_singleton]
theorem Oy(x:Ah):Fq x≤16:=Nat.le_trans List.countP_le_length (by simp)
theorem blk_row{b:Nat}{c:Array Value}{t:TypeId}{r:Bool}:RowOf (.blk b (.cells c t (0,0)) r) b 0 c:=fun w hw i v hv=>by
 have hw':w.heap[b]? = some (.cells c t (0,0)):=hw
 simp only[World.cell?,hw',Nat.zero_add];simpa using hv
section
variable (z:Nat)(x:Ah)(n2:Nat)(y11:Ar)(j b4 o5:Nat)(w:World)
abbrev JO:=bk z (Ah.arr x) 52
abbrev Ot:=bk n2 (Ar.arr y11) 54
abbrev VU:=(7,i6 ((((List.range j).countP (fun t=>(Ez x x.Ag.xs.length).contains t))+1:Nat):Int))
abbrev QZ:=(7,i6 (((List.range j).countP (fun t=>(Ez x x.Ag.xs.length).contains t):Nat):Int))
abbrev LD:Dq:=(11,.slice (some ⟨b4,o5,none⟩) x.Ag.xs.length x.Ag.cap)
abbrev MV:Dq:=(11,.slice x.Ag.a x.Ag.xs.length x.Ag.cap)
abbrev Jo:=(12,Ad x.Ag.xs.length)
abbrev OL:Dq:=(30,.agg (IW (Ez x x.Ag.xs.length)))
abbrev Jp:=(3,pt (z+1))
abbrev VG:=[(Ak w),(JO z x),(bk (z+1) (IW (Ez x x.Ag.xs.length)) 105)]
end
theorem YM(w:World)(x:Ah)(hx:Ah.ok Any w x)(hr:∀ i,i<x.Ag.xs.length→I7 (gd x.Ag.xs i)=true):Calls Try.prog 25 #[.agg (Ah.arr x)] w fun e w'=>e = .returned (.int .i64 (Fq x:Nat))∧BN (fun _=>False) w w':=by
 obtain⟨z,hz⟩:∃ z,z=w.heap.size:=⟨_,rfl⟩
 refine BV (args:=[.agg (Ah.arr x)]) 39 ⟨w,z,[(Ak w)]⟩ Try.func25 rfl (by kernel_rfl) (by kernel_rfl) (Fv hz) ?_
 have hlR:=hx.Ag.1.len
 refine Eb [0] [(0,.agg (Ah.arr x))] ?_
 refine q_c 14 0 [] [[o0,o0],[o0],[o0,(a1 1),o0,o0]] [Qb z] [(Jp z),(MV x),(Jo x),(13,i6 0)] ⟨w,z+2,[(Ak w),(JO z x),(bk (z+1) #[.bool false,.bool false,.bool false,.bool false,.bool false,.bool false,.bool false,.bool false,.bool false,.bool false,.bool false,.bool false,.bool false,.bool false,.bool false,.bool false] 105)]⟩ rfl ⟨rfl,Ae⟩ ?_
 refine Ce (fun m a w'=>∃ (n2:Nat) (i:Nat),m=x.Ag.xs.length - i∧z+2≤n2∧(i≤x.Ag.xs.length)∧St 39 [(Jp z),(MV x),(Jo x),(13,Ad i)] [] ⟨w,n2,[(Ak w),(JO z x),(bk (z+1) (IW (Ez x i)) 105)]⟩ a w') (x.Ag.xs.length - 0) ?_ ?_
 ·intro a w' hs;exact⟨(z+2),0,rfl,Nat.le_refl _,Nat.zero_le _,hs⟩
 rintro m a w' ⟨n2,i,rfl,hn1,hki,hs⟩
 refine(?_:G Try.prog 39 [(Jp z),(MV x),(Jo x),(13,Ad i)] [] ⟨w,n2,[(Ak w),(JO z x),(bk (z+1) (IW (Ez x i)) 105)]⟩ _ _ _) a w' hs
 clear hs a w'
 refine CP ?_
 by_cases h3:(i:Int)<(x.Ag.xs.length:Int)
 ·refine A8 10 0 [1] [[oT]] [BT ((i:Int)<(x.Ag.xs.length:Int))] [(Jp z),(MV x),(Jo x),(13,Ad i),(14,.bool true)] rfl ⟨bt,Ae⟩ ?_
  obtain⟨b4,o5,ha6,hF8,hc7⟩:=(hx.Ag).1.all (show 0<x.Ag.xs.length by omega)
  replace ha6:x.Ag.a=some ⟨b4,o5,none⟩:=ha6
  refine IZ [(Jp z),(LD x b4 o5),(Jo x),(13,Ad i),(14,.bool true)] (by(try dsimp only[JO,LD,MV,Jo,Jp]);simp only[ha6]) ?_
  have hc9:=hc7 i (show i<x.Ag.xs.length by omega)
  have he10:=(hx.Ag).2 i (show i<x.Ag.xs.length by omega)
  obtain⟨y11,hy11⟩:∃ y_,y_=gd x.Ag.xs i:=⟨_,rfl⟩
  rw[←hy11]at he10 hc9
  have hrg:=hr i (by omega);rw[←hy11]at hrg;unfold I7 at hrg;rw[decide_eq_true_eq]at hrg
  refine q_c 8 0 [] [[(oi i),(ol 0 (Ar.arr y11)),o0,(an 4 3)],[o0,(a1 3),o0]] [BI i,i<x.Ag.xs.length,Bq,Eh w b4 (o5+i*4) (Ar.arr y11),Qb n2,Qb n2,Qb n2,Qb n2,Qb n2] [(Jp z),(5,pt n2),(LD x b4 o5),(Jo x),(13,Ad i),(18,i6 y11.CE),(19,i6 0)] ⟨w,n2+1,[(Ak w),(JO z x),(bk (z+1) (IW (Ez x i)) 105),(Ot n2 y11)]⟩ rfl ⟨rfl,(by omega),rfl,CB hc9,rfl,rfl,rfl,rfl,rfl,Ae⟩ ?_
  refine Ce (fun m a w'=>∃ (n13:Nat) (k:Nat),m=y11.CE.toNat - k∧n2+1≤n13∧(k≤y11.CE.toNat)∧St 39 [(Jp z),(5,pt n2),(LD x b4 o5),(Jo x),(13,Ad i),(18,i6 y11.CE),(19,Ad k)] [] ⟨w,n13,[(Ak w),(JO z x),(bk (z+1) (IW (Ez x i++ML y11 k)) 105),(Ot n2 y11)]⟩ a w') (y11.CE.toNat - 0) ?_ ?_
  ·intro a w' hs;exact⟨(n2+1),0,rfl,Nat.le_refl _,Nat.zero_le _,by(try dsimp only[JO,Ot,LD,MV,Jo,Jp]at hs ⊢);rw[show ML y11 0=[]from rfl,List.append_nil];exact hs⟩
  rintro m a w' ⟨n13,k,rfl,hn12,hkk,hs⟩
  refine(?_:G Try.prog 39 [(Jp z),(5,pt n2),(LD x b4 o5),(Jo x),(13,Ad i),(18,i6 y11.CE),(19,Ad k)] [] ⟨w,n13,[(Ak w),(JO z x),(bk (z+1) (IW (Ez x i++ML y11 k)) 105),(Ot n2 y11)]⟩ _ _ _) a w' hs
  clear hs a w'
  refine CP ?_
  by_cases h14:(k:Int)<y11.CE
  ·refine q_c 19 0 [1] [[oT],[o0,o0],[o0,(a1 3),o0,(ov (i6 (y11.Ci+(k:Int)))),(ov (i6 ((y11.Ci+(k:Int)) / 16))),(oi (((y11.Ci+(k:Int)) / 16).toNat)),(oa [.atv 2 undef])],[(ov (i6 ((k+1:Nat):Int))),o0]] [BT ((k:Int)<y11.CE),Qb n2,Wr ((y11.Ci:Int)+(k:Int)) (y11.Ci+(k:Int)),Wr (Int.tdiv (y11.Ci+(k:Int)) 16) ((y11.Ci+(k:Int)) / 16),((y11.Ci+(k:Int)) / 16:Int)=((((y11.Ci+(k:Int)) / 16).toNat:Nat):Int),((y11.Ci+(k:Int)) / 16).toNat<16,Bq,Bq,Qb (z+1),0+(((y11.Ci+(k:Int)) / 16).toNat)<(IW (Ez x i++ML y11 k)).size,Wr ((k:Int)+1) (((k+1:Nat):Int))] [(Jp z),(5,pt n2),(LD x b4 o5),(Jo x),(13,Ad i),(18,i6 y11.CE),(19,i6 ((k+1:Nat):Int))] ⟨w,n13,[(Ak w),(JO z x),(Ch.blk (z+1) (.cells ((IW (Ez x i++ML y11 k)).setIfInBounds (0+(((y11.Ci+(k:Int)) / 16).toNat)) (.bool true)) 105 (0,0)) true),(Ot n2 y11)]⟩ rfl ⟨bt,rfl,Be,congrArg (Value.int .i64) (I5 (by omega) (by omega) (by omega)),(by omega),(by omega),rfl,rfl,rfl,(by rw[Uo];omega),Be,Ae⟩ ?_
   refine Bz (fun a w' hs=>⟨y11.CE.toNat - (k+1),by omega,n13,(k+1),rfl,by omega,by omega,by(try dsimp only[JO,Ot,LD,MV,Jo,Jp]at hs ⊢);rw[YS,←List.append_assoc,Zac];simpa only[Nat.zero_add]using hs⟩)
  refine A8 13 0 [0] [[oF],[(ov (i6 ((i+1:Nat):Int))),o0]] [BF ((k:Int)<y11.CE),Wr ((i:Int)+1) (((i+1:Nat):Int))] [(Jp z),(LD x b4 o5),(Jo x),(13,i6 ((i+1:Nat):Int))] rfl ⟨bf,Be,Ae⟩ ?_
  refine BO [0,1,2] [(Ak w),(JO z x),(bk (z+1) (IW (Ez x i++ML y11 k)) 105)] rfl rfl ?_
  refine EP [3,11,12,13] [(Jp z),(MV x),(Jo x),(13,i6 ((i+1:Nat):Int))] (by(try dsimp only[JO,Ot,LD,MV,Jo,Jp]);simp only[ha6];rfl) ?_
  refine Bz (fun a w' hs=>⟨x.Ag.xs.length - (i+1),by omega,n13,(i+1),rfl,by omega,by omega,by(try dsimp only[JO,Ot,LD,MV,Jo,Jp]at hs ⊢);rw[YW,←hy11,show y11.CE.toNat=k by omega];exact hs⟩)
 refine A8 20 0 [0] [[oF],[o0],[⟨.row 2 (IW (Ez x i)),none⟩,o0]] [BF ((i:Int)<(x.Ag.xs.length:Int)),RowOf (bk (z+1) (IW (Ez x i)) 105) (z+1) 0 (IW (Ez x i))] [(7,i6 0),(30,.agg (IW (Ez x i))),(31,i6 0)] rfl ⟨bf,blk_row,Ae⟩ ?_
 have e0:i=x.Ag.xs.length:=by omega
 subst e0
 refine Ce (fun m a w'=>∃ (n16:Nat) (j:Nat),m=16 - j∧n2≤n16∧(j≤16)∧St 39 [(QZ x j),(OL x),(31,Ad j)] [] ⟨w,n16,(VG z x w)⟩ a w') (16 - 0) ?_ ?_
 ·intro a w' hs;exact⟨n2,0,rfl,Nat.le_refl _,Nat.zero_le _,hs⟩
 rintro m a w' ⟨n16,j,rfl,hn15,hkj,hs⟩
 refine(?_:G Try.prog 39 [(QZ x j),(OL x),(31,Ad j)] [] ⟨w,n16,(VG z x w)⟩ _ _ _) a w' hs
 clear hs a w'
 have hcl:(List.range j).countP (fun t=>(Ez x x.Ag.xs.length).contains t)≤j:=Nat.le_trans List.countP_le_length (by simp)
 refine CP ?_
 by_cases h17:(j:Int)<16
 ·refine A8 17 0 [1] [[oT],[⟨.aidx j (.bool ((Ez x x.Ag.xs.length).contains j)),none⟩,o0],[o0]] [BT ((j:Int)<16),BI j,j<16,((IW (Ez x x.Ag.xs.length)):Array Value)[EK 1 j]? = some (.bool ((Ez x x.Ag.xs.length).contains j))] [(QZ x j),(OL x),(31,Ad j),(34,.bool ((Ez x x.Ag.xs.length).contains j))] rfl ⟨bt,rfl,(by omega),(WW (t:=j) _ (by omega)),Ae⟩ ?_
  by_cases h18:((Ez x x.Ag.xs.length).contains j)=true
  ·refine A8 7 0 [3] [[o0,(ov (i6 ((((List.range j).countP (fun t=>(Ez x x.Ag.xs.length).contains t))+1:Nat):Int))),o0],[(ov (i6 ((j+1:Nat):Int))),o0]] [Value.bool ((Ez x x.Ag.xs.length).contains j)=Value.bool true,Wr (((((List.range j).countP (fun t=>(Ez x x.Ag.xs.length).contains t):Nat):Int):Int)+1) (((((List.range j).countP (fun t=>(Ez x x.Ag.xs.length).contains t))+1:Nat):Int)),Wr ((j:Int)+1) (((j+1:Nat):Int))] [(VU x j),(OL x),(31,i6 ((j+1:Nat):Int))] rfl ⟨(congrArg Value.bool h18),Be,Be,Ae⟩ ?_
   have hT:=RH (p:=fun t=>(Ez x x.Ag.xs.length).contains t) (j:=j)
   simp only[h18,if_true,if_false,Nat.add_zero]at hT
   refine Dp [7,30,31] [(VU x j),(OL x),(31,i6 ((j+1:Nat):Int))] ?_
   refine Bz (fun a w' hs=>⟨16 - (j+1),by omega,n16,(j+1),rfl,by omega,by omega,by(try dsimp only[JO,Ot,VU,QZ,LD,MV,Jo,OL,Jp,VG]at hs ⊢);rw[hT];exact hs⟩)
  refine A8 6 0 [2] [[(ov (i6 ((j+1:Nat):Int))),o0]] [Value.bool ((Ez x x.Ag.xs.length).contains j)=Value.bool false,Wr ((j:Int)+1) (((j+1:Nat):Int))] [(QZ x j),(OL x),(31,i6 ((j+1:Nat):Int))] rfl ⟨(congrArg Value.bool (Bool.eq_false_iff.2 h18)),Be,Ae⟩ ?_
  have hT:=RH (p:=fun t=>(Ez x x.Ag.xs.length).contains t) (j:=j)
  simp only[(Bool.eq_false_iff.2 h18),Bool.false_eq_true,if_true,if_false,Nat.add_zero]at hT
  refine Dp [7,30,31] [(QZ x j),(OL x),(31,i6 ((j+1:Nat):Int))] ?_
  refine Bz (fun a w' hs=>⟨16 - (j+1),by omega,n16,(j+1),rfl,by omega,by omega,by(try dsimp only[JO,Ot,VU,QZ,LD,MV,Jo,OL,Jp,VG]at hs ⊢);rw[hT];exact hs⟩)
 refine A8 15 0 [0] [[oF],[o0,o0]] [BF ((j:Int)<16)] [(2,i6 (((List.range j).countP (fun t=>(Ez x x.Ag.xs.length).contains t):Nat):Int))] rfl ⟨bf,Ae⟩ ?_
 refine AZ [] [] (i6 (((List.range j).countP (fun t=>(Ez x x.Ag.xs.length).contains t):Nat):Int)) Ae ?_
 intro w19 hw19
 refine⟨congrArg (fun n=>Ending.returned (i6 n)) (?_:((((List.range j).countP (fun t=>(Ez x x.Ag.xs.length).contains t):Nat):Int):Int)=(Fq x:Int)),Bg hw19⟩
 rw[show j=16 by omega];rfl
end Go.Proofs.Ytlhjneaafhoipaa.Ly
