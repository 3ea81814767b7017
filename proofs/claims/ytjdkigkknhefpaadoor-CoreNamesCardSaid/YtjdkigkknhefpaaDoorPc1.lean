/- Packed: EngA, EngB, EngC, EngU, EngD, Mem, EngE, EngF, EngG, EngJ, EngK, EngM, EngI, EngN, EngQ, EngY, EngAb, ShA, ShB, ShC, ShD, ShE, ShF, CaA, CaB, CoA, SlA, SlB, SlC, SlD. No conditions. -/
import Derived.WalkKit
import Derived.KernelRfl
import Derived.Deep.LoopGhost
import Derived.ProofKit
import Derived.ChangeKeysEq
import Derived.Laws.StructEq
import Derived.OrdersHeld
import Derived.Test.YtjdkigkknhefpaaDoorProg
import Derived.WalkLawsBesides
import Derived.WalkSpells
import Derived.Lib.Hide
import Derived.BigQuiet
import Derived.BigRegion
import Derived.Deep.QuietTactic
import Derived.Deep.RegionWith
import Derived.RangeFuncRecord
import Derived.Maps.OwnOps
import Derived.Maps.AppendAt
import Derived.Laws.OwnMore
import Derived.Lib.AppendStr
import Derived.Laws.IdiomCopy
import Derived.Laws.CopyRow
import Derived.Laws.IdiomStrings
import Derived.LoopN
set_option maxHeartbeats 4000000
namespace Go.Proofs.YtjdkigkknhefpaaDoor.Eng
open Go
set_option linter.unusedSimpArgs false
set_option linter.unusedVariables false
inductive Ch where
 | blk (b:Nat) (o:Obj) (rw:Bool)
 | inv (F:Nat→Prop) (Φ:World→Prop) (rw:Bool)
def Ch.F:Ch→Nat→Prop
 | .blk b _ _=>fun k=>k=b
 | .inv F _ _=>F
def Ch.rw:Ch→Bool
 | .blk _ _ r=>r
 | .inv _ _ r=>r
def Ch.holds:Ch→World→Prop
 | .blk b o _=>fun w=>w.heap[b]? = some o
 | .inv _ Φ _=>Φ
def Ch.stable(c:Ch):Prop:=∀ w w':World,(∀ b,c.F b→w'.heap[b]? = w.heap[b]?)→c.holds w→c.holds w'
theorem Ch.ER(b:Nat)(o:Obj)(r:Bool):(Ch.blk b o r).stable:=fun w w' h hw=>(h b rfl).trans hw
abbrev Key:=(Nat→Prop)×Bool
def Ch.key(c:Ch):Key:=(c.F,c.rw)
def Key.apart(c d:Key):Prop:=(c.2=true∨d.2=true)→∀ b,c.1 b→¬ d.1 b
structure AW where
 w0:World
 n:Nat
 σ:List Ch
structure Sat(A:AW)(w:World):Prop where
 os:w.os=A.w0.os
 tape:w.tape=A.w0.tape
 output:w.output=A.w0.output
 size:w.heap.size=A.n
 all:∀ c∈A.σ,c.holds w
 bnd:∀ c∈A.σ,∀ b,c.F b→b<A.n
 Et:∀ c∈A.σ,c.stable
 EN:(A.σ.map Ch.key).Pairwise Key.apart
theorem Sat.at{A:AW}{w:World}(h:Sat A w){i:Nat}{c:Ch}(hc:A.σ[i]? = some c):c.holds w:=h.all _ (List.mem_of_getElem? hc)
theorem Sat.drew{A:AW}{w:World}(h:Sat A w):Sat A w.drew := 
 ⟨h.os,h.tape,h.output,h.size,fun c hc=>h.Et c hc w w.drew (fun _ _=>rfl) (h.all c hc),h.bnd,h.Et,h.EN⟩
theorem Fj{l:List Key}(h:l.Pairwise Key.apart){i j:Nat}{c d:Key}(hi:l[i]? = some c)(hj:l[j]? = some d)(hij:i≠j)(hr:c.2=true):∀ b,c.1 b→¬ d.1 b:=by
 obtain⟨hi',rfl⟩:=List.getElem?_eq_some_iff.1 hi
 obtain⟨hj',rfl⟩:=List.getElem?_eq_some_iff.1 hj
 rcases Nat.lt_or_gt_of_ne hij with hlt | hlt
 ·exact List.pairwise_iff_getElem.1 h i j hi' hj' hlt (.inl hr)
 intro b hb hd
 exact List.pairwise_iff_getElem.1 h j i hj' hi' hlt (.inr hr) b hd hb
theorem Sat.put{A:AW}{w w':World}(h:Sat A w){i:Nat}{c c':Ch}(hc:A.σ[i]? = some c)(hrw:c.rw=true)(hk:c'.key=c.key)(hst:c'.stable)
   (hos:w'.os=w.os) (htp:w'.tape=w.tape) (hout:w'.output=w.output) (hsz:w'.heap.size=w.heap.size)
   (hb:∀ b,¬ c.F b→w'.heap[b]? = w.heap[b]?) (hh:c'.holds w'):Sat { A with σ:=A.σ.set i c' } w':=by
 have hF:c'.F=c.F:=congrArg Prod.fst hk
 obtain⟨hi,hci⟩:=List.getElem?_eq_some_iff.1 hc
 have hmap:(A.σ.set i c').map Ch.key=A.σ.map Ch.key:=by
   rw[List.map_set,hk]
   apply List.ext_getElem?
   intro j
   rw[List.getElem?_set]
   split
   · rename_i hij;subst hij;simp[hc,hi,hci]
   · rfl
 refine⟨hos.trans h.os,htp.trans h.tape,hout.trans h.output,hsz.trans h.size, ?_, ?_, ?_, ?_⟩
 · intro d hd
   obtain⟨j,hj⟩:=List.getElem?_of_mem hd
   by_cases hij:i=j
   · subst hij;rw[List.getElem?_set_self hi]at hj;cases hj;exact hh
   · rw[List.getElem?_set_ne hij]at hj
     refine h.Et d (List.mem_of_getElem? hj) w w' (fun b hbd=>hb b (fun hcb => ?_)) (h.at hj)
     exact Fj h.EN (i:=i) (j:=j) (by rw[List.getElem?_map,hc];rfl) (by rw[List.getElem?_map,hj];rfl) hij hrw b hcb hbd
 · intro d hd b hbd
   rcases List.mem_or_eq_of_mem_set hd with hd | rfl
   · exact h.bnd d hd b hbd
   · exact h.bnd c (List.mem_of_getElem? hc) b (by rw[←hF];exact hbd)
 · intro d hd
   rcases List.mem_or_eq_of_mem_set hd with hd | rfl
   · exact h.Et d hd
   · exact hst
 · rw[hmap];exact h.EN
theorem Sat.new{A:AW}{w:World}(h:Sat A w)(o:Obj):Sat { A with n:=A.n+1,σ:=A.σ++[.blk A.n o true] } { w with heap:=w.heap.push o }:=by
 have hget:∀ b,b<A.n→(w.heap.push o)[b]? = w.heap[b]? := fun b hb=>by
  rw[Array.getElem?_push,if_neg (by rw[h.size];omega)]
 refine⟨h.os,h.tape,h.output,by simp[h.size], ?_, ?_, ?_, ?_⟩
 ·intro c hc
  rcases List.mem_append.1 hc with hc | hc
  ·exact h.Et c hc w _ (fun b hb=>hget b (h.bnd c hc b hb)) (h.all c hc)
  simp only[List.mem_singleton]at hc;subst hc
  show(w.heap.push o)[A.n]? = some o
  rw[Array.getElem?_push,if_pos h.size.symm]
 ·intro c hc b hb
  show b<A.n+1
  rcases List.mem_append.1 hc with hc | hc
  ·have:=h.bnd c hc b hb;omega
  simp only[List.mem_singleton]at hc;subst hc;cases hb;omega
 ·intro c hc
  rcases List.mem_append.1 hc with hc | hc
  ·exact h.Et c hc
  simp only[List.mem_singleton]at hc;subst hc;exact Ch.ER _ _ _
 show((A.σ++[Ch.blk A.n o true]).map Ch.key).Pairwise Key.apart
 rw[List.map_append,List.pairwise_append]
 refine⟨h.EN,by simp, ?_⟩
 intro k hk k' hk' _ b hb hb'
 simp only[List.map_cons,List.map_nil,List.mem_singleton]at hk'
 subst hk'
 obtain⟨c,hc,rfl⟩:=List.mem_map.1 hk
 have h1:=h.bnd c hc b hb
 have h2:b=A.n:=hb'
 omega
inductive LC where
 | at (i:Nat)
 | atv (i:Nat) (v:Value)
 | via (i:Nat) (v:Value)
 | shp (i:Nat) (t n:Nat)
def CE:List Prop→Prop
 | []=>True
 | p :: l=>p∧CE l
theorem BG{l m:List Prop}:CE (l++m)↔CE l∧CE m:=by
 induction l with
 | nil=>simp[CE]
 | cons p l ih=>simp[CE,ih,and_assoc]
def scalar:Value→Bool
 | .agg _=>false
 | .tuple _=>false
 | _=>true
abbrev D5(α:Type):=Option (List Prop×List LC×α×AW)
def D5.and{α:Type}(ps:List Prop)(r:D5 α):D5 α:=match r with
 | some (qs,x)=>some (ps++qs,x)
 | none=>none
theorem D5.BV{α:Type}{ps vs:List Prop}{r:D5 α}{x:List LC×α×AW}(h:D5.and ps r=some (vs,x)):∃ qs,r=some (qs,x)∧vs=ps++qs:=by
 unfold D5.and at h
 split at h
 ·rename_i qs y;simp at h;exact⟨qs,by rw[h.2],h.1.symm⟩
 cases h
def BB(P:Program)(ro:Bool){α:Type}:Sem α→List LC→AW→D5 α
 | .pure a,cs,A=>some ([],cs,a,A)
 | .load _ a k,.at i :: cs,A=>match A.σ[i]? with
  | some (.blk b (.cells c _ _) _)=>match a.spot,c[a.off]? with
   | none,some v=>(BB P ro (k v) cs A).and [a.block=b]
   | _,_=>none
  | _=>none
 | .load _ a k,.atv i v :: cs,A=>match A.σ[i]? with
  | some (.blk b (.cells c _ _) _)=>(BB P ro (k v) cs A).and [a.spot=none,a.block=b,c[a.off]? = some v]
  | _=>none
 | .load _ a k,.via i v :: cs,A=>match A.σ[i]? with
  | some c=>(BB P ro (k v) cs A).and [∀ w,c.holds w→w.cell? a=some v]
  | _=>none
 | .load _ _ _,_,_=>none
 | .store _ a v k,.at i :: cs,A=>match A.σ[i]? with
  | some (.blk b (.cells c t (0,0)) true)=>match ro,scalar v,c[a.off]?,a.spot with
   | false,true,some _,none=>(BB P ro k cs { A with σ:=A.σ.set i (.blk b (.cells (c.setIfInBounds a.off v) t (0,0)) true) }).and [a.block=b]
   | _,_,_,_=>none
  | _=>none
 | .store _ a v k,.atv i _ :: cs,A=>match A.σ[i]? with
  | some (.blk b (.cells c t (0,0)) true)=>match ro,scalar v with
   | false,true=>(BB P ro k cs { A with σ:=A.σ.set i (.blk b (.cells (c.setIfInBounds a.off v) t (0,0)) true) }).and [a.spot=none,a.block=b,a.off<c.size]
   | _,_=>none
  | _=>none
 | .store _ _ _ _,_,_=>none
 | .new o k,cs,A=>match ro with
  | false=>BB P ro (k A.n) cs { A with n:=A.n+1,σ:=A.σ++[.blk A.n o true] }
  | true=>none
 | .shape r k,.at i :: cs,A=>match A.σ[i]? with
  | some (.blk b (.cells c t _) _)=>(BB P ro (k (some (t,c.size))) cs A).and [r=b]
  | some (.blk b (.map _ _) _)=>(BB P ro (k none) cs A).and [r=b]
  | _=>none
 | .shape r k,.shp i t n :: cs,A=>match A.σ[i]? with
  | some c=>(BB P ro (k (some (t,n))) cs A).and [∀ w,c.holds w→w.shape? r=some (t,n)]
  | _=>none
 | .shape _ _,_,_=>none
 | .freeze _ _ _,_,_=>none
 | .frozen a k,.at i :: cs,A=>match A.σ[i]? with
  | some (.blk b (.cells _ _ (0,0)) _)=>(BB P ro (k false) cs A).and [a.block=b]
  | _=>none
 | .frozen _ _,_,_=>none
 | .getObj r k,.at i :: cs,A=>match A.σ[i]? with
  | some (.blk b (.map es c) _)=>(BB P ro (k (.map es c)) cs A).and [r=b]
  | _=>none
 | .getObj _ _,_,_=>none
 | .setObj r o k,.at i :: cs,A=>match A.σ[i]? with
  | some (.blk b (.map _ _) true)=>match ro with
   | false=>(BB P ro k cs { A with σ:=A.σ.set i (.blk b o true) }).and [r=b]
   | true=>none
  | _=>none
 | .setObj _ _ _,_,_=>none
 | .choose _ _,_,_=>none
 | .sys _ _,_,_=>none
 | .program k,cs,A=>BB P ro (k P) cs A
 | .mark _ k,cs,A=>BB P ro k cs A
 | .halt _,_,_=>none
theorem EJ(w:World)(a:Addr)(v:Value)(b:Nat)(h:¬ b=a.block):(w.setCell a v).heap[b]? = w.heap[b]? := by
 simp only[World.setCell,Array.getElem?_modify]
 rw[if_neg (fun e=>h e.symm)]
theorem En(w:World)(a:Addr)(v:Value)(c:Array Value)(t:TypeId)(f:Nat×Nat)(hs:a.spot=none)(h:w.heap[a.block]? = some (.cells c t f)) :
   (w.setCell a v).heap[a.block]? = some (.cells (c.setIfInBounds a.off v) t f):=by
 simp only[World.setCell,Array.getElem?_modify,if_true,h,Option.map_some,hs,Option.isSome_none,Bool.false_eq_true,if_false]
theorem run_store{P:Program}{α:Type}{m:_root_.Go.Mode}{a:Addr}{v:Value}{k:Sem α}{w:World}(hs:scalar v=true){x:Value}(hc:w.cell? a=some x)(hf:w.frozen? a=false) :
   (Sem.store m a v k).run P w=k.run P (w.setCell a v):=by
 cases v <;> first | (simp[scalar]at hs;done) | simp[Sem.run,hc,hf]
theorem H5{P:Program}{ro:Bool}{α:Type}(s:Sem α):∀ (cs:List LC) (A:AW) (vs:List Prop) (cs':List LC) (x:α) (A':AW),BB P ro s cs A=some (vs,cs',x,A')→CE vs→∀ w,Sat A w→∃ w',s.run P w = .ok x w'∧Sat A' w'∧A'.w0=A.w0:=by
 induction s with
 | pure a =>
  intro cs A vs cs' x A' h hv w hw
  simp only[BB,Option.some.injEq,Prod.mk.injEq]at h
  obtain⟨-, -,rfl,rfl⟩:=h
  exact⟨w,rfl,hw,rfl⟩
 | load m a k ih =>
  intro cs A vs cs' x A' h hv w hw
  cases cs with
  | nil=>simp[BB]at h
  | cons c cs =>
   cases c with
   | «at» i =>
    simp only[BB]at h
    split at h
    ·rename_i b c t f r hi
     split at h
     ·rename_i v h1 hc
      obtain⟨qs,h',rfl⟩:=D5.BV h
      rw[BG]at hv
      obtain⟨⟨h2, -⟩,hv⟩:=hv
      have hb:w.heap[a.block]? = some (.cells c t f):=h2 ▸ hw.at hi
      have hcell:w.cell? a=some v:=by simp[World.cell?,hb,h1,hc]
      obtain⟨w',hr,hs⟩:=ih v cs A qs cs' x A' h' hv w hw
      exact⟨w',by simp[Sem.run,hcell,hr],hs⟩
     cases h
    cases h
   | atv i v =>
    simp only[BB]at h
    split at h
    ·rename_i b c t f r hi
     obtain⟨qs,h',rfl⟩:=D5.BV h
     rw[BG]at hv
     obtain⟨⟨h1,h2,h3, -⟩,hv⟩:=hv
     have hb:w.heap[a.block]? = some (.cells c t f):=h2 ▸ hw.at hi
     have hcell:w.cell? a=some v:=by simp[World.cell?,hb,h1,h3]
     obtain⟨w',hr,hs⟩:=ih v cs A qs cs' x A' h' hv w hw
     exact⟨w',by simp[Sem.run,hcell,hr],hs⟩
    cases h
   | via i v =>
    simp only[BB]at h
    split at h
    ·rename_i c hi
     obtain⟨qs,h',rfl⟩:=D5.BV h
     rw[BG]at hv
     obtain⟨⟨h1, -⟩,hv⟩:=hv
     have hcell:w.cell? a=some v:=h1 w (hw.at hi)
     obtain⟨w',hr,hs⟩:=ih v cs A qs cs' x A' h' hv w hw
     exact⟨w',by simp[Sem.run,hcell,hr],hs⟩
    cases h
   | shp i t n=>simp[BB]at h
 | store m a v k ih =>
  intro cs A vs cs' x A' h hv w hw
  cases cs with
  | nil=>simp[BB]at h
  | cons c cs =>
   cases c with
   | «at» i =>
    simp only[BB]at h
    split at h
    ·rename_i b c t hi
     split at h
     ·rename_i y hsc hc h1
      obtain⟨qs,h',rfl⟩:=D5.BV h
      rw[BG]at hv
      obtain⟨⟨h2, -⟩,hv⟩:=hv
      have hb:w.heap[a.block]? = some (.cells c t (0,0)):=h2 ▸ hw.at hi
      have hcell:w.cell? a=some y:=by simp[World.cell?,hb,h1,hc]
      have hfz:w.frozen? a=false:=by simp[World.frozen?,hb]
      have hs':=hw.put (w':=w.setCell a v) hi rfl (c':= .blk b (.cells (c.setIfInBounds a.off v) t (0,0)) true) rfl (Ch.ER _ _ _) rfl rfl rfl (by simp[World.setCell]) (fun k hk=>EJ w a v k (fun e=>hk (e.trans h2))) (by subst h2;exact En w a v c t _ h1 hb)
      obtain⟨w',hr,hs⟩:=ih cs _ qs cs' x A' h' hv _ hs'
      exact⟨w',by rw[run_store hsc hcell hfz];exact hr,hs⟩
     cases h
    cases h
   | atv i _ =>
    simp only[BB]at h
    split at h
    ·rename_i b c t hi
     split at h
     ·rename_i _ hsc
      obtain⟨qs,h',rfl⟩:=D5.BV h
      rw[BG]at hv
      obtain⟨⟨h1,h2,h3, -⟩,hv⟩:=hv
      have hb:w.heap[a.block]? = some (.cells c t (0,0)):=h2 ▸ hw.at hi
      have hcell:w.cell? a=some c[a.off]:=by simp[World.cell?,hb,h1,h3]
      have hfz:w.frozen? a=false:=by simp[World.frozen?,hb]
      have hs':=hw.put (w':=w.setCell a v) hi rfl (c':= .blk b (.cells (c.setIfInBounds a.off v) t (0,0)) true) rfl (Ch.ER _ _ _) rfl rfl rfl (by simp[World.setCell]) (fun k hk=>EJ w a v k (fun e=>hk (e.trans h2))) (by subst h2;exact En w a v c t _ h1 hb)
      obtain⟨w',hr,hs⟩:=ih cs _ qs cs' x A' h' hv _ hs'
      exact⟨w',by rw[run_store hsc hcell hfz];exact hr,hs⟩
     cases h
    cases h
   | via i v=>simp[BB]at h
   | shp i t n=>simp[BB]at h
 | new o k ih =>
  intro cs A vs cs' x A' h hv w hw
  simp only[BB]at h
  split at h
  ·obtain⟨w',hr,hs⟩:=ih A.n cs _ vs cs' x A' h hv _ (hw.new o)
   exact⟨w',by simp only[Sem.run,hw.size];exact hr,hs⟩
  cases h
 | shape r k ih =>
  intro cs A vs cs' x A' h hv w hw
  cases cs with
  | nil=>simp[BB]at h
  | cons c cs =>
   cases c with
   | «at» i =>
    simp only[BB]at h
    split at h
    ·rename_i b c t f rw hi
     obtain⟨qs,h',rfl⟩:=D5.BV h
     rw[BG]at hv
     obtain⟨⟨h1, -⟩,hv⟩:=hv
     have hb:w.heap[r]? = some (.cells c t f):=h1 ▸ hw.at hi
     obtain⟨w',hr,hs⟩:=ih _ cs A qs cs' x A' h' hv w hw
     exact⟨w',by simp[Sem.run,World.shape?,hb,hr],hs⟩
    ·rename_i b es c rw hi
     obtain⟨qs,h',rfl⟩:=D5.BV h
     rw[BG]at hv
     obtain⟨⟨h1, -⟩,hv⟩:=hv
     have hb:w.heap[r]? = some (.map es c):=h1 ▸ hw.at hi
     obtain⟨w',hr,hs⟩:=ih _ cs A qs cs' x A' h' hv w hw
     exact⟨w',by simp[Sem.run,World.shape?,hb,hr],hs⟩
    cases h
   | atv i v=>simp[BB]at h
   | via i v=>simp[BB]at h
   | shp i t n =>
    simp only[BB]at h
    split at h
    ·rename_i c hi
     obtain⟨qs,h',rfl⟩:=D5.BV h
     rw[BG]at hv
     obtain⟨⟨h1, -⟩,hv⟩:=hv
     obtain⟨w',hr,hs⟩:=ih _ cs A qs cs' x A' h' hv w hw
     exact⟨w',by simp[Sem.run,h1 w (hw.at hi),hr],hs⟩
    cases h
 | freeze a n k ih=>intro cs A vs cs' x A' h;simp[BB]at h
 | frozen a k ih =>
  intro cs A vs cs' x A' h hv w hw
  cases cs with
  | nil=>simp[BB]at h
  | cons c cs =>
   cases c with
   | «at» i =>
    simp only[BB]at h
    split at h
    ·rename_i b c t rw hi
     obtain⟨qs,h',rfl⟩:=D5.BV h
     rw[BG]at hv
     obtain⟨⟨h1, -⟩,hv⟩:=hv
     have hb:w.heap[a.block]? = some (.cells c t (0,0)):=h1 ▸ hw.at hi
     have hfz:w.frozen? a=false:=by simp[World.frozen?,hb]
     obtain⟨w',hr,hs⟩:=ih _ cs A qs cs' x A' h' hv w hw
     exact⟨w',by simp[Sem.run,hfz,hr],hs⟩
    cases h
   | atv i v=>simp[BB]at h
   | via i v=>simp[BB]at h
   | shp i t n=>simp[BB]at h
 | getObj r k ih =>
  intro cs A vs cs' x A' h hv w hw
  cases cs with
  | nil=>simp[BB]at h
  | cons c cs =>
   cases c with
   | «at» i =>
    simp only[BB]at h
    split at h
    ·rename_i b es c rw hi
     obtain⟨qs,h',rfl⟩:=D5.BV h
     rw[BG]at hv
     obtain⟨⟨h1, -⟩,hv⟩:=hv
     have hb:w.heap[r]? = some (.map es c):=h1 ▸ hw.at hi
     obtain⟨w',hr,hs⟩:=ih _ cs A qs cs' x A' h' hv w hw
     exact⟨w',by simp[Sem.run,hb,hr],hs⟩
    cases h
   | atv i v=>simp[BB]at h
   | via i v=>simp[BB]at h
   | shp i t n=>simp[BB]at h
 | setObj r o k ih =>
  intro cs A vs cs' x A' h hv w hw
  cases cs with
  | nil=>simp[BB]at h
  | cons c cs =>
   cases c with
   | «at» i =>
    simp only[BB]at h
    split at h
    ·rename_i b es c hi
     split at h
     case h_2=>cases h
     obtain⟨qs,h',rfl⟩:=D5.BV h
     rw[BG]at hv
     obtain⟨⟨h1, -⟩,hv⟩:=hv
     have hb:w.heap[r]? = some (.map es c):=h1 ▸ hw.at hi
     have hlt:r<w.heap.size:=(Array.getElem?_eq_some_iff.1 hb).1
     have hs':=hw.put (w':={ w with heap:=w.heap.setIfInBounds r o }) hi rfl (c':= .blk b o true) rfl (Ch.ER _ _ _) rfl rfl rfl (by simp) (fun k hk=>by
      have hne:r≠k:=fun e=>hk (show k=b from e ▸ h1)
      simp[Array.getElem?_setIfInBounds_ne hne]) (by subst h1;simp[Ch.holds,hlt])
     obtain⟨w',hr,hs⟩:=ih cs _ qs cs' x A' h' hv _ hs'
     exact⟨w',by simp[Sem.run,hb];exact hr,hs⟩
    cases h
   | atv i v=>simp[BB]at h
   | via i v=>simp[BB]at h
   | shp i t n=>simp[BB]at h
 | choose q k ih=>intro cs A vs cs' x A' h;simp[BB]at h
 | sys c k ih=>intro cs A vs cs' x A' h;simp[BB]at h
 | program k ih =>
  intro cs A vs cs' x A' h hv w hw
  simp only[BB]at h
  obtain⟨w',hr,hs⟩:=ih P cs _ vs cs' x A' h hv _ hw
  exact⟨w',by simp only[Sem.run];exact hr,hs⟩
 | mark m k ih =>
  intro cs A vs cs' x A' h hv w hw
  simp only[BB]at h
  obtain⟨w',hr,hs⟩:=ih cs _ vs cs' x A' h hv _ hw
  exact⟨w',by simp only[Sem.run];exact hr,hs⟩
 | halt h'=>intro cs A vs cs' x A' h;simp[BB]at h
theorem EP{P:Program}{α:Type}(s:Sem α):∀ (cs:List LC) (A:AW) (vs:List Prop) (cs':List LC) (x:α) (A':AW),BB P true s cs A=some (vs,cs',x,A')→CE vs→∀ w:World,(∀ c∈A.σ,c.holds w)→s.run P w = .ok x w∧A'=A:=by
 induction s with
 | pure a =>
  intro cs A vs cs' x A' h hv w hw
  simp only[BB,Option.some.injEq,Prod.mk.injEq]at h
  obtain⟨-, -,rfl,rfl⟩:=h
  exact⟨rfl,rfl⟩
 | load m a k ih =>
  intro cs A vs cs' x A' h hv w hw
  cases cs with
  | nil=>simp[BB]at h
  | cons c cs =>
   cases c with
   | «at» i =>
    simp only[BB]at h
    split at h
    ·rename_i b c t f r hi
     split at h
     ·rename_i v h1 hc
      obtain⟨qs,h',rfl⟩:=D5.BV h
      rw[BG]at hv
      obtain⟨⟨h2, -⟩,hv⟩:=hv
      have hb:w.heap[a.block]? = some (.cells c t f):=h2 ▸ hw _ (List.mem_of_getElem? hi)
      have hcell:w.cell? a=some v:=by simp[World.cell?,hb,h1,hc]
      obtain⟨hr,hs⟩:=ih v cs A qs cs' x A' h' hv w hw
      exact⟨by simp[Sem.run,hcell,hr],hs⟩
     cases h
    cases h
   | atv i v =>
    simp only[BB]at h
    split at h
    ·rename_i b c t f r hi
     obtain⟨qs,h',rfl⟩:=D5.BV h
     rw[BG]at hv
     obtain⟨⟨h1,h2,h3, -⟩,hv⟩:=hv
     have hb:w.heap[a.block]? = some (.cells c t f):=h2 ▸ hw _ (List.mem_of_getElem? hi)
     have hcell:w.cell? a=some v:=by simp[World.cell?,hb,h1,h3]
     obtain⟨hr,hs⟩:=ih v cs A qs cs' x A' h' hv w hw
     exact⟨by simp[Sem.run,hcell,hr],hs⟩
    cases h
   | via i v =>
    simp only[BB]at h
    split at h
    ·rename_i c hi
     obtain⟨qs,h',rfl⟩:=D5.BV h
     rw[BG]at hv
     obtain⟨⟨h1, -⟩,hv⟩:=hv
     have hcell:w.cell? a=some v:=h1 w (hw _ (List.mem_of_getElem? hi))
     obtain⟨hr,hs⟩:=ih v cs A qs cs' x A' h' hv w hw
     exact⟨by simp[Sem.run,hcell,hr],hs⟩
    cases h
   | shp i t n=>simp[BB]at h
 | store m a v k ih =>
  intro cs A vs cs' x A' h
  cases cs with
  | nil=>simp[BB]at h
  | cons c cs=>cases c <;> (simp only[BB]at h;repeat (split at h)) <;> simp_all
 | new o k ih=>intro cs A vs cs' x A' h;simp[BB]at h
 | shape r k ih =>
  intro cs A vs cs' x A' h hv w hw
  cases cs with
  | nil=>simp[BB]at h
  | cons c cs =>
   cases c with
   | «at» i =>
    simp only[BB]at h
    split at h
    ·rename_i b c t f rw hi
     obtain⟨qs,h',rfl⟩:=D5.BV h
     rw[BG]at hv
     obtain⟨⟨h1, -⟩,hv⟩:=hv
     have hb:w.heap[r]? = some (.cells c t f):=h1 ▸ hw _ (List.mem_of_getElem? hi)
     obtain⟨hr,hs⟩:=ih _ cs A qs cs' x A' h' hv w hw
     exact⟨by simp[Sem.run,World.shape?,hb,hr],hs⟩
    ·rename_i b es c rw hi
     obtain⟨qs,h',rfl⟩:=D5.BV h
     rw[BG]at hv
     obtain⟨⟨h1, -⟩,hv⟩:=hv
     have hb:w.heap[r]? = some (.map es c):=h1 ▸ hw _ (List.mem_of_getElem? hi)
     obtain⟨hr,hs⟩:=ih _ cs A qs cs' x A' h' hv w hw
     exact⟨by simp[Sem.run,World.shape?,hb,hr],hs⟩
    cases h
   | atv i v=>simp[BB]at h
   | via i v=>simp[BB]at h
   | shp i t n =>
    simp only[BB]at h
    split at h
    ·rename_i c hi
     obtain⟨qs,h',rfl⟩:=D5.BV h
     rw[BG]at hv
     obtain⟨⟨h1, -⟩,hv⟩:=hv
     obtain⟨hr,hs⟩:=ih _ cs A qs cs' x A' h' hv w hw
     exact⟨by simp[Sem.run,h1 w (hw _ (List.mem_of_getElem? hi)),hr],hs⟩
    cases h
 | freeze a n k ih=>intro cs A vs cs' x A' h;simp[BB]at h
 | frozen a k ih =>
  intro cs A vs cs' x A' h hv w hw
  cases cs with
  | nil=>simp[BB]at h
  | cons c cs =>
   cases c with
   | «at» i =>
    simp only[BB]at h
    split at h
    ·rename_i b c t rw hi
     obtain⟨qs,h',rfl⟩:=D5.BV h
     rw[BG]at hv
     obtain⟨⟨h1, -⟩,hv⟩:=hv
     have hb:w.heap[a.block]? = some (.cells c t (0,0)):=h1 ▸ hw _ (List.mem_of_getElem? hi)
     have hfz:w.frozen? a=false:=by simp[World.frozen?,hb]
     obtain⟨hr,hs⟩:=ih _ cs A qs cs' x A' h' hv w hw
     exact⟨by simp[Sem.run,hfz,hr],hs⟩
    cases h
   | atv i v=>simp[BB]at h
   | via i v=>simp[BB]at h
   | shp i t n=>simp[BB]at h
 | getObj r k ih =>
  intro cs A vs cs' x A' h hv w hw
  cases cs with
  | nil=>simp[BB]at h
  | cons c cs =>
   cases c with
   | «at» i =>
    simp only[BB]at h
    split at h
    ·rename_i b es c rw hi
     obtain⟨qs,h',rfl⟩:=D5.BV h
     rw[BG]at hv
     obtain⟨⟨h1, -⟩,hv⟩:=hv
     have hb:w.heap[r]? = some (.map es c):=h1 ▸ hw _ (List.mem_of_getElem? hi)
     obtain⟨hr,hs⟩:=ih _ cs A qs cs' x A' h' hv w hw
     exact⟨by simp[Sem.run,hb,hr],hs⟩
    cases h
   | atv i v=>simp[BB]at h
   | via i v=>simp[BB]at h
   | shp i t n=>simp[BB]at h
 | setObj r o k ih =>
  intro cs A vs cs' x A' h
  cases cs with
  | nil=>simp[BB]at h
  | cons c cs=>cases c <;> (simp only[BB]at h;repeat (split at h)) <;> simp_all
 | choose q k ih=>intro cs A vs cs' x A' h;simp[BB]at h
 | sys c k ih=>intro cs A vs cs' x A' h;simp[BB]at h
 | program k ih =>
  intro cs A vs cs' x A' h hv w hw
  simp only[BB]at h
  obtain⟨hr,hs⟩:=ih P cs _ vs cs' x A' h hv _ hw
  exact⟨by simp only[Sem.run];exact hr,hs⟩
 | mark m k ih =>
  intro cs A vs cs' x A' h hv w hw
  simp only[BB]at h
  obtain⟨hr,hs⟩:=ih cs _ vs cs' x A' h hv _ hw
  exact⟨by simp only[Sem.run];exact hr,hs⟩
 | halt h'=>intro cs A vs cs' x A' h;simp[BB]at h
abbrev Env:=List (Nat×Value)
def look:Env→Nat→Option Value
 | [],_=>none
 | (k,v) :: r,t=>bif Nat.beq k t then some v else look r t
def GL:Env→Nat→Env
 | [],_=>[]
 | (k,v) :: r,t=>bif Nat.beq k t then GL r t else(k,v) :: GL r t
def DT(env:Env)(d:Option Nat)(v:Value):Env:=match d with
 | none=>env
 | some t=>(t,v) :: GL env t
def MS(env:Env)(d:Option Nat):Env:=match d with
 | none=>env
 | some t=>GL env t
def DI:List Nat→Env→Env
 | [],_=>[]
 | t :: ts,env=>match look env t with
  | some v=>(t,v) :: DI ts env
  | none=>DI ts env
theorem IK{env:Env}{t u:Nat}{v:Value}(h:look (GL env t) u=some v):u≠t∧look env u=some v:=by
 induction env with
 | nil=>simp[GL,look]at h
 | cons p r ih =>
  obtain⟨k,x⟩:=p
  simp only[GL]at h
  cases hk:Nat.beq k t with
  | true =>
   simp only[hk,cond_true]at h
   obtain⟨h1,h2⟩:=ih h
   have hkt:k=t:=Nat.eq_of_beq_eq_true hk
   refine⟨h1, ?_⟩
   simp only[look]
   have:Nat.beq k u=false:=by
    cases hb:Nat.beq k u with
    | false=>rfl
    | true=>exact absurd ((Nat.eq_of_beq_eq_true hb).symm.trans hkt) h1
   rw[this];exact h2
  | false =>
   simp only[hk,cond_false,look]at h
   simp only[look]
   cases hb:Nat.beq k u with
   | true =>
    rw[hb]at h
    refine⟨fun e => ?_,h⟩
    have h1:=Nat.eq_of_beq_eq_true hb
    rw[h1,e]at hk
    rw[Nat.beq_refl]at hk;cases hk
   | false=>rw[hb]at h;exact ih h
theorem DC{ts:List Nat}{env:Env}{u:Nat}{v:Value}(h:look (DI ts env) u=some v):look env u=some v:=by
 induction ts with
 | nil=>simp[DI,look]at h
 | cons t ts ih =>
  simp only[DI]at h
  split at h
  ·rename_i x hx
   simp only[look]at h
   cases hb:Nat.beq t u with
   | true=>rw[hb]at h;have:=Nat.eq_of_beq_eq_true hb;subst this;simp at h;rw[hx,h]
   | false=>rw[hb]at h;exact ih h
  exact ih h
structure St(N:Nat)(env:Env)(ds:List Deferred)(A:AW)(a:Act)(w:World):Prop where
 sz:a.tmps.size=N
 df:a.defers=ds
 kn:∀ t v,look env t=some v→a.tmps.getD t undef=v
 mem:Sat A w
def known(env:Env):Operand→Bool
 | .tmp t=>(look env t).isSome
 | _=>true
def CV(env:Env):Operand→Value
 | .tmp t=>(look env t).getD undef
 | .const v=>v
 | .global g=> .pointer (some ⟨g,0,none⟩)
 | .func f=> .func (.func f) #[] #[]
theorem St.eval{N:Nat}{env:Env}{ds:List Deferred}{A:AW}{a:Act}{w:World}(h:St N env ds A a w){x:Operand}(hx:known env x=true):a.eval x=CV env x:=by
 cases x with
 | tmp t =>
  simp only[known,Option.isSome_iff_exists]at hx
  obtain⟨v,hv⟩:=hx
  simp only[Act.eval,CV,hv,Option.getD_some]
  exact h.kn t v hv
 | _=>rfl
theorem Jl(a:Array Value)(d t:Nat)(v:Value):(a.setIfInBounds d v).getD t undef=if d=t∧d<a.size then v else a.getD t undef:=by
 simp only[Array.getD_eq_getD_getElem?,Array.getElem?_setIfInBounds]
 by_cases h:d=t
 ·subst h
  by_cases h2:d<a.size
  ·simp[h2]
  simp[h2,Array.getElem?_eq_none (Nat.not_lt.1 h2)]
 simp[h]
def Fv(N:Nat):Option Nat→Bool
 | none=>true
 | some d=>Nat.blt d N
theorem St.put{N:Nat}{env:Env}{ds:List Deferred}{A A':AW}{a:Act}{w w':World}(h:St N env ds A a w)(hs:Sat A' w')(d:Option Nat)(hd:Fv N d=true)(v:Value):St N (DT env d v) ds A' (a.put d v) w':=by
 cases d with
 | none=>exact⟨h.sz,h.df,h.kn,hs⟩
 | some d =>
  have hlt:d<N:=by simpa[Fv]using hd
  refine⟨by simp[Act.put,h.sz],h.df,fun t x hx => ?_,hs⟩
  simp only[Act.put,Jl,h.sz]
  simp only[DT,look]at hx
  cases hb:Nat.beq d t with
  | true =>
   rw[hb]at hx
   simp only[cond_true,Option.some.injEq]at hx
   rw[if_pos ⟨Nat.eq_of_beq_eq_true hb,hlt⟩];exact hx
  | false =>
   rw[hb]at hx
   simp only[cond_false]at hx
   have:=IK hx
   rw[if_neg (fun e=>this.1 e.1.symm)]
   exact h.kn t x this.2
theorem St.drop{N:Nat}{env:Env}{ds:List Deferred}{A:AW}{a:Act}{w:World}(h:St N env ds A a w)(d:Option Nat)(v:Value):St N (MS env d) ds A (a.put d v) w:=by
 cases d with
 | none=>exact h
 | some d =>
  refine⟨by simp[Act.put,h.sz],h.df,fun t x hx => ?_,h.mem⟩
  simp only[Act.put,Jl,h.sz]
  have:=IK hx
  rw[if_neg (fun e=>this.1 e.1.symm)]
  exact h.kn t x this.2
theorem St.sub{N:Nat}{env env':Env}{ds:List Deferred}{A:AW}{a:Act}{w:World}(h:St N env ds A a w)(he:∀ t v,look env' t=some v→look env t=some v):St N env' ds A a w :=
 ⟨h.sz,h.df,fun t v ht=>h.kn t v (he t v ht),h.mem⟩
def Le:Op→Bool
 | .select _ _=>false
 | _=>true
theorem execOp_congr{ρ ρ':Operand→Value}{o:Oper}(hs:Le o.op=true)(h:∀ x∈o.op.operands,ρ x=ρ' x):execOp ρ o=execOp ρ' o:=by
 have hcall:∀ (c:Call) (t:TypeId),(∀ x∈c.operands,ρ x=ρ' x)→resolve ρ c t=resolve ρ' c t:=by
  intro c t hc
  have hargs:c.args.map ρ=c.args.map ρ':=by
   apply Array.map_congr_left
   intro x hx
   exact hc x (by simp[Call.operands,hx])
  unfold resolve
  rw[hargs]
  cases hcal:c.callee with
  | value f=>simp only[hc f (by simp[Call.operands,hcal])]
  | invoke r m=>simp only[hc r (by simp[Call.operands,hcal])]
  | builtin b=>rfl
 have hparts:∀ (parts:Array (Nat×Operand)),(∀ x∈(parts.toList.map (·.2)).toArray,ρ x=ρ' x)→parts.map (fun(i,x)=>(i,ρ x))=parts.map (fun(i,x)=>(i,ρ' x)):=by
  intro parts hp
  apply Array.map_congr_left
  rintro⟨i,x⟩ hx
  have:=hp x (by simp;exact⟨i,hx⟩)
  simp[this]
 have hopt:∀ (r:Option Operand),(∀ x∈r.toArray,ρ x=ρ' x)→r.map ρ=r.map ρ':=by
  intro r hr
  cases r with
  | none=>rfl
  | some x=>simp[hr x (by simp)]
 have harr:∀ (r:Array Operand),(∀ x∈r,ρ x=ρ' x)→r.map ρ=r.map ρ':=fun r hr=>Array.map_congr_left hr
 unfold execOp
 cases hop:o.op <;> simp only[hop,Op.operands]at h <;> simp only[]
 case move x=>rw[h x (by simp)]
 case assign x=>rw[h x (by simp)]
 case pick c a b=>rw[h c (by simp),h a (by simp),h b (by simp)]
 case box e x=>rw[h x (by simp)]
 case build t ps=>rw[hparts ps h]
 case buildSlice t l ps=>rw[hparts ps h]
 case insert t m k v=>rw[h m (by simp),h k (by simp),h v (by simp)]
 case load t a=>rw[h a (by simp)]
 case store t a v=>rw[h a (by simp),h v (by simp)]
 case nilCheck x=>rw[h x (by simp)]
 case binOp op t x y u =>
  rw[h x (by simp),h y (by simp)]
 case unOp op t x=>rw[h x (by simp)]
 case convert s d x=>rw[h x (by simp)]
 case sliceToArrayPointer d x=>rw[h x (by simp)]
 case makeInterface t x=>rw[h x (by simp)]
 case makeFunc f a b=>rw[harr a (fun x hx=>h x (by simp[hx])),harr b (fun x hx=>h x (by simp[hx]))]
 case makeMap t r=>rw[hopt r h]
 case makeChan t s=>rw[h s (by simp)]
 case makeSlice t l c=>rw[h l (by simp),h c (by simp)]
 case slice t x lo hi mx=>rw[h x (by simp),hopt lo (fun x hx=>h x (by simp at hx;simp[hx])),hopt hi (fun x hx=>h x (by simp at hx;simp[hx])),hopt mx (fun x hx=>h x (by simp at hx;simp[hx]))]
 case fieldAddr t x f=>rw[h x (by simp)]
 case field t x f=>rw[h x (by simp)]
 case indexAddr t x i=>rw[h x (by simp),h i (by simp)]
 case index t x i=>rw[h x (by simp),h i (by simp)]
 case lookup t x i c=>rw[h x (by simp),h i (by simp)]
 case mapUpdate t m k v=>rw[h m (by simp),h k (by simp),h v (by simp)]
 case mapEntry t m k=>rw[h m (by simp),h k (by simp)]
 case entryStore t m k v=>rw[h m (by simp),h k (by simp),h v (by simp)]
 case range t x=>rw[h x (by simp)]
 case next i s=>rw[h i (by simp)]
 case entry i=>rw[h i (by simp)]
 case typeAssert x a b c=>rw[h x (by simp)]
 case extract t i=>rw[h t (by simp)]
 case call c=>rw[hcall c o.type h]
 case go c=>rw[hcall c o.type h]
 case defer c=>rw[hcall c o.type h]
 case panic x=>rw[h x (by simp)]
 case send c x=>rw[h c (by simp),h x (by simp)]
 case recv t c k=>simp only[h c (by simp)]
 case select cs b=>rw[hop]at hs;cases hs
inductive OK where
 | auto (cs:List LC)
 | idx (j:Nat)
 | aidx (j:Nat) (v:Value)
 | sidx (c:UInt8)
 | slc (l h:Nat) (moved:Bool)
 | row (i:Nat) (arr:Array Value)
 | seq (b:Bool)
 | aeq (b:Bool)
structure OC where
 k:OK
 LW:Option Value:=none
abbrev Na:=Option (List Prop×Value×AW)
def JH(w:World)(b k:Nat)(arr:Array Value):Prop:=∀ i v,arr[i]? = some v→w.cell? ⟨b,k+i,none⟩=some v
def RowOf(c:Ch)(b k:Nat)(arr:Array Value):Prop:=∀ w,c.holds w→JH w b k arr
def CY(n j:Nat):Nat:=bif Nat.beq n 1 then j else j*n
theorem DN(n j:Nat):CY n j=j*n:=by
 unfold CY
 cases h:Nat.beq n 1 with
 | true=>have:=Nat.eq_of_beq_eq_true h;subst this;simp
 | false=>rfl
def Ep:Option Value→Nat→Option Int
 | none,d=>some d
 | some (.int _ i),_=>some i
 | some _,_=>none
def Iw(P:Program)(sub:TypeId→Array Value→Array Value→Option Bool)(xs ys:Array Value):List Field→Option Bool
 | []=>some true
 | f :: fs => match f.name == "_", P.underlying f.type, xs[f.offset]?, ys[f.offset]?, Iw P sub xs ys fs with
  | false,some (.int _),some (.int k a),some (.int k' b),some r=>match decide (k=k')with
   | true=>some ((a==b)&&r)
   | false=>none
  | false,some .bool,some (.bool a),some (.bool b),some r=>some ((a==b)&&r)
  | false,some .string,some (.string a),some (.string b),some r=>some ((a==b)&&r)
  | false,some (.struct _),_,_,some r=>match sub f.type (xs.extract f.offset (f.offset+P.cellsOf f.type)) (ys.extract f.offset (f.offset+P.cellsOf f.type))with
   | some a=>some (a&&r)
   | none=>none
  | _,_,_,_,_=>none
def Ij(P:Program):Nat→TypeId→Array Value→Array Value→Option Bool
 | 0,_,_,_=>none
 | n+1,t,xs,ys=>match P.stoodInHeld t,P.underlying t with
  | false,some (.struct fs)=>Iw P (Ij P n) xs ys fs.toList
  | _,_=>none
theorem DX{P:Program}{t:TypeId}{d:TypeDesc}{cs:Array Value}{off:Nat}{v:Value}(hd:P.underlying t=some d)(h1:∀ x,d ≠ .struct x)(h2:∀ x y,d ≠ .array x y)(hv:cs[off]? = some v)(w:World):(part t cs off).run P w = .ok v w:=by
 have hagg:∀ w,(isAgg t).run P w = .ok false w:=by
  intro w
  cases d <;> first | (exact absurd rfl (h1 _)) | (exact absurd rfl (h2 _ _)) | simp[isAgg,underlying,program,Sem.run,hd]
 simp[part,hagg,hv,Sem.run]
theorem Iy{P:Program}{t:TypeId}{fs:Array Field}{cs:Array Value}{off:Nat}(hd:P.underlying t=some (.struct fs))(w:World):(part t cs off).run P w = .ok (.agg (cs.extract off (off+P.cellsOf t))) w:=by
 have hagg:∀ w,(isAgg t).run P w = .ok true w:=by
  intro w
  simp[isAgg,underlying,program,Sem.run,hd]
 obtain⟨ti,hi, -⟩:∃ ti,P.info? t=some ti∧True:=by
  cases h:P.info? t with
  | none=>simp[Program.underlying,h]at hd
  | some ti=>exact⟨ti,rfl,trivial⟩
 simp[part,hagg,Sem.run_bind,run_sizeOf w hi,Program.cellsOf,hi]
theorem Jh{P:Program}{xs ys:Array Value}{sub:TypeId→Array Value→Array Value→Option Bool}(d:Nat)(hsub:∀ t fs cs es r,P.underlying t=some (.struct fs)→sub t cs es=some r→∀ w,(Op.equalIn (d+1) t (.agg cs) (.agg es)).run P w = .ok r w):∀ (fs:List Field) (r:Bool),Iw P sub xs ys fs=some r→∀ w,(Op.eqFields (d+1) xs ys fs).run P w = .ok r w
 | [],r,h,w=>by simp only[Iw,Option.some.injEq]at h;subst h;simp[Op.eqFields]
 | f :: fs,r,h,w=>by
  have key : ∀ (a b : Value) (e s : Bool), (f.name == "_") = false → (part f.type xs f.offset).run P w = .ok a w → (part f.type ys f.offset).run P w = .ok b w → (Op.equalIn (d + 1) f.type a b).run P w = .ok e w → Iw P sub xs ys fs = some s → (Op.eqFields (d + 1) xs ys (f :: fs)).run P w = .ok (e && s) w := by
   intro a b e s hn ha hb he hs
   have ih:=Jh d hsub fs s hs w
   have hn' : f.name ≠ "_" := by simpa using hn
   rw[Op.eqFields]
   simp only[if_pos hn',Sem.run_bind,ha,hb,he,Result.andThen_ok]
   cases e
   ·simp
   simpa using ih
  unfold Iw at h
  split at h
  ·rename_i k0 k a k' b s hn hd ha hb hs
   split at h
   ·rename_i hk
    simp only[Option.some.injEq]at h;subst h
    have hk':=of_decide_eq_true hk;subst hk'
    exact key _ _ _ _ hn (DX hd (by simp) (by simp) ha w) (DX hd (by simp) (by simp) hb w) (run_equalIn_int w d f.type _ _ a b hd) hs
   cases h
  ·rename_i a b s hn hd ha hb hs
   simp only[Option.some.injEq]at h;subst h
   exact key _ _ _ _ hn (DX hd (by simp) (by simp) ha w) (DX hd (by simp) (by simp) hb w) (run_equalIn_bool' w d f.type a b hd) hs
  ·rename_i a b s hn hd ha hb hs
   simp only[Option.some.injEq]at h;subst h
   exact key _ _ _ _ hn (DX hd (by simp) (by simp) ha w) (DX hd (by simp) (by simp) hb w) (by rw[run_equalIn_string w d f.type a b hd,beq_toListBytes]) hs
  ·rename_i gs s hn hd hs
   split at h
   ·rename_i a hsb
    simp only[Option.some.injEq]at h;subst h
    exact key _ _ _ _ hn (Iy hd w) (Iy hd w) (hsub _ _ _ _ _ hd hsb w) hs
   cases h
  cases h
theorem IV{P:Program}(d:Nat):∀ (n:Nat) (t:TypeId) (xs ys:Array Value) (r:Bool),Ij P n t xs ys=some r→∀ w,(Op.equalIn (d+1+n) t (.agg xs) (.agg ys)).run P w = .ok r w
 | 0,t,xs,ys,r,h=>by cases h
 | n+1,t,xs,ys,r,h=>by
  intro w
  unfold Ij at h
  split at h
  ·rename_i fs hp hu
   have hf:P.fieldsOf t=fs:=by simp[Program.fieldsOf,hu]
   rw[show d+1+(n+1)=(d+1+n)+1 from rfl,run_equalIn_agg (P:=P) w (d+1+n) t xs ys (by rw[hf];exact hu) hp,hf]
   have e:d+1+n=(d+n)+1:=by omega
   rw[e]
   exact Jh (d+n) (fun t fs cs es r _ hs w=>by rw[←e];exact IV d n t cs es r hs w) _ _ h w
  cases h
def Jk(xs ys:Array Value):List Nat→Option Bool
 | []=>some true
 | i :: is=>match xs[i]?,ys[i]?,Jk xs ys is with
  | some (.int k a),some (.int k' b),some r=>match decide (k=k')with
   | true=>some ((a==b)&&r)
   | false=>none
  | _,_,_=>none
theorem IB{P:Program}{e:TypeId}{k0:IntKind}{xs ys:Array Value}(hu:P.underlying e=some (.int k0))(d:Nat):∀ (is:List Nat) (r:Bool),Jk xs ys is=some r→∀ w,(Op.eqItems (d+1) e 1 xs ys is).run P w = .ok r w
 | [],r,h,w=>by simp only[Jk,Option.some.injEq]at h;subst h;simp[Op.eqItems]
 | i :: is,r,h,w=>by
  unfold Jk at h
  split at h
  ·rename_i k a k' b s ha hb hs
   split at h
   ·rename_i hk
    simp only[Option.some.injEq]at h;subst h
    have hk':=of_decide_eq_true hk;subst hk'
    have ih:=IB hu d is s hs w
    have pa:=DX (P:=P) hu (by simp) (by simp) ha
    have pb:=DX (P:=P) hu (by simp) (by simp) hb
    simp only[Op.eqItems,Nat.mul_one,Sem.run_bind,pa,pb,run_equalIn_int w d e k k0 a b hu,Result.andThen_ok]
    cases a==b
    ·simp
    simpa using ih
   cases h
  cases h
def Fe(P:Program)(ro:Bool)(ρ:Operand→Value)(o:Oper)(A:AW):OK→Na
 | .auto cs=>match BB P ro (execOp ρ o) cs A with
  | some (vs,[],.value v,A')=>some (vs,v,A')
  | some (vs,[],.skip,A')=>match ro with
   | false=>some (vs,undef,A')
   | true=>none
  | _=>none
 | .idx j=>match o.op with
  | .indexAddr t x ix=>match ρ x,ρ ix,P.underlying t with
   | .slice (some a) len _,.int _ i,some (.slice e)=>match P.info? e with
    | some f=>some ([i=(j:Int),j<len,a.spot=none],.pointer (some ⟨a.block,a.off+CY f.size j,none⟩),A)
    | none=>none
   | .pointer (some a),.int _ i,some (.array len e)=>match P.info? e with
    | some f=>some ([i=(j:Int),j<len,a.spot=none],.pointer (some ⟨a.block,a.off+CY f.size j,none⟩),A)
    | none=>none
   | _,_,_=>none
  | _=>none
 | .aidx j v=>match o.op with
  | .index t x ix=>match ρ x,ρ ix,P.underlying t with
   | .agg cs,.int _ i,some (.array len e)=>match P.info? e,P.underlying e with
    | some f,some (.struct _)=>none
    | some f,some (.array _ _)=>none
    | some f,some _=>some ([i=(j:Int),j<len,cs[CY f.size j]? = some v],v,A)
    | _,_=>none
   | _,_,_=>none
  | _=>none
 | .sidx c=>match o.op with
  | .index t x ix=>match ρ x,ρ ix,P.underlying t with
   | .string s,.int _ i,some .string=>some ([0≤i,s[i.toNat]? = some c],.int .u8 c.toNat,A)
   | _,_,_=>none
  | _=>none
 | .row i arr=>match o.op with
  | .load t x=>match ρ x,A.σ[i]?,P.info? t with
   | .pointer (some a),some c,some f=>match a.spot,Nat.beq arr.size f.size,(match P.underlying t with | some (.struct _)=>true | some (.array _ _)=>true | _=>false)with
    | none,true,true=>some ([RowOf c a.block a.off arr],.agg arr,A)
    | _,_,_=>none
   | _,_,_=>none
  | _=>none
 | .aeq b=>match o.op with
  | .binOp .eql t x y _=>match ρ x,ρ y,P.eqGuardType P.depth t,P.underlying t with
   | .agg xs,.agg ys,false,some (.array n e)=>match P.info? e,P.underlying e,Nat.beq (P.cellsOf e) 1,Jk xs ys (List.range n)with
    | some _,some (.int _),true,some r=>some ([r=b],.bool b,A)
    | _,_,_,_=>none
   | _,_,_,_=>none
  | _=>none
 | .seq b=>match o.op with
  | .binOp .eql t x y _=>match ρ x,ρ y,P.eqGuardType P.depth t,P.stoodInHeld t,P.underlying t with
   | .agg xs,.agg ys,false,false,some (.struct fs)=>match Ij P 4 t xs ys with
    | some r=>some ([r=b],.bool b,A)
    | none=>none
   | _,_,_,_,_=>none
  | .binOp .neq t x y _=>match ρ x,ρ y,P.eqGuardType P.depth t,P.stoodInHeld t,P.underlying t with
   | .agg xs,.agg ys,false,false,some (.struct fs)=>match Ij P 4 t xs ys with
    | some r=>some ([r=b],.bool (!b),A)
    | none=>none
   | _,_,_,_,_=>none
  | _=>none
 | .slc l h moved=>match o.op with
  | .slice t x lo hi none=>match ρ x,P.underlying t,Ep (lo.map ρ) 0 with
   | .slice a len cap,some (.slice e),some lo'=>match P.info? e,Ep (hi.map ρ) len with
    | some f,some hi'=>match a,moved with
     | a,false=>some ([lo'=(l:Int),hi'=(h:Int),l≤h,h≤cap,cap=l∨l=0],.slice a (h - l) (cap - l),A)
     | some a,true=>some ([lo'=(l:Int),hi'=(h:Int),l≤h,h≤cap,cap≠l,a.spot=none],.slice (some ⟨a.block,a.off+CY f.size l,none⟩) (h - l) (cap - l),A)
     | _,_=>none
    | _,_=>none
   | _,_,_=>none
  | _=>none
def Yields(P:Program)(ρ:Operand→Value)(o:Oper)(v:Value)(w w':World):Prop :=
 (execOp ρ o).run P w = .ok (.value v) w'∨((execOp ρ o).run P w = .ok .skip w'∧v=undef)
theorem EE{a:Addr}(h:a.spot=none)(k:Nat):a.add k=⟨a.block,a.off+k,none⟩:=by
 obtain⟨b,o,s⟩:=a
 simp only at h;subst h
 simp[Addr.add]
theorem run_indexAt_slice{P:Program}{t e:TypeId}{f:TypeInfo}{a:Addr}{len cap:Nat}{k:IntKind}{i:Int}{j:Nat}(ht:P.underlying t=some (.slice e))(he:P.info? e=some f)(hi:i=(j:Int))(hj:j<len)(hs:a.spot=none)(w:World) :
   (Instr.indexAt t (.slice (some a) len cap) (.int k i)).run P w = .ok (.pointer (some ⟨a.block,a.off+CY f.size j,none⟩)) w:=by
 subst hi
 have hb:(0:Int)≤(j:Int)∧(j:Int)<(len:Int):=⟨Int.natCast_nonneg j,by exact_mod_cast hj⟩
 simp[Instr.indexAt,asIntOf,underlying,program,Sem.run,ht,sizeOf,typeInfo,he,hj,DN,EE hs]
theorem run_indexAt_array{P:Program}{t e:TypeId}{f:TypeInfo}{a:Addr}{len:Nat}{k:IntKind}{i:Int}{j:Nat}(ht:P.underlying t=some (.array len e))(he:P.info? e=some f)(hi:i=(j:Int))(hj:j<len)(hs:a.spot=none)(w:World) :
   (Instr.indexAt t (.pointer (some a)) (.int k i)).run P w = .ok (.pointer (some ⟨a.block,a.off+CY f.size j,none⟩)) w:=by
 subst hi
 have hb:(0:Int)≤(j:Int)∧(j:Int)<(len:Int):=⟨Int.natCast_nonneg j,by exact_mod_cast hj⟩
 simp[Instr.indexAt,asIntOf,underlying,program,Sem.run,ht,sizeOf,typeInfo,he,hj,DN,EE hs,Instr.sureAddr]
theorem H6{P:Program}{t e:TypeId}{f:TypeInfo}{d:TypeDesc}{cs:Array Value}{len:Nat}{k:IntKind}{i:Int}{j:Nat}{v:Value}(ht:P.underlying t=some (.array len e))(he:P.info? e=some f)(hd:P.underlying e=some d)(h1:∀ x,d ≠ .struct x)(h2:∀ x y,d ≠ .array x y)(hi:i=(j:Int))(hj:j<len)(hv:cs[CY f.size j]? = some v)(w:World) :
   (Instr.index t (.agg cs) (.int k i)).run P w = .ok v w:=by
 subst hi
 have hagg:∀ w,(isAgg e).run P w = .ok false w:=by
   intro w
   cases d <;> first | (exact absurd rfl (h1 _)) | (exact absurd rfl (h2 _ _)) | simp[isAgg,underlying,program,Sem.run,hd]
 rw[DN]at hv
 simp[Instr.index,asIntOf,underlying,program,Sem.run,ht,sizeOf,typeInfo,he,hj,part,hagg,hv]
theorem run_index_string{P:Program}{t:TypeId}{s:ByteArray}{k:IntKind}{i:Int}{c:UInt8}(ht:P.underlying t=some .string)(hi:0≤i)(hv:s[i.toNat]? = some c)(w:World) :
   (Instr.index t (.string s) (.int k i)).run P w = .ok (.int .u8 c.toNat) w:=by
 simp[Instr.index,asIntOf,underlying,program,Sem.run,ht,hi,hv]
theorem G8{P:Program}{t e:TypeId}{f:TypeInfo}{a:Option Addr}{len cap:Nat}{lo hi:Option Value}{lo' hi':Int}{l h:Nat}(ht:P.underlying t=some (.slice e))(he:P.info? e=some f)
   (h1:Ep lo 0=some lo') (h2:Ep hi len=some hi') (e1:lo'=(l:Int)) (e2:hi'=(h:Int)) (hlh:l≤h) (hc:h≤cap) (w:World) :
   (Instr.sliceAt t (.slice a len cap) lo hi none).run P w = .ok (.slice (if cap=l then a else a.map (·.add (l*f.size))) (h - l) (cap - l)) w:=by
 subst e1;subst e2
 have hb:∀ w,(Instr.sliceBounds true len cap lo hi none).run P w = .ok (l,h,cap) w:=by
   intro w
   have B:∀ (x:Value) (y n:Nat) (c:BoundsCode) (d:Nat),Ep (some x) d=some (n:Int)→n≤y→∀ w,(Instr.sliceBound x y c).run P w = .ok n w:=by
     intro x y n c d hx hn w
     cases x <;> simp[Ep]at hx
     subst hx
     simp[Instr.sliceBound,asIntOf,Sem.run,hn]
   cases hi with
   | none =>
     simp[Ep]at h2
     have h2':len=h:=by exact_mod_cast h2
     subst h2'
     cases lo with
     | none =>
       simp[Ep]at h1
       have h1':l=0:=by omega
       subst h1'
       simp[Instr.sliceBounds]
     | some v=>simp[Instr.sliceBounds,B v len l .sliceB 0 h1 hlh]
   | some u =>
     have hB:=B u cap h .sliceAcap len h2 hc
     cases lo with
     | none =>
       simp[Ep]at h1
       have h1':l=0:=by omega
       subst h1'
       simp[Instr.sliceBounds,hB]
     | some v=>simp[Instr.sliceBounds,hB,B v h l .sliceB 0 h1 hlh]
 simp[Instr.sliceAt,Instr.slice,underlying,program,Sem.run,ht,hb,sizeOf,typeInfo,he]
theorem run_loadCells{P:Program}{w:World}{b k:Nat}{arr:Array Value}(h:JH w b k arr):∀ (n i:Nat) (acc:Array Value),i+n=arr.size→(loadCellsFrom ⟨b,k,none⟩ i n acc).run P w = .ok (acc++(arr.toList.drop i).toArray) w:=by
 intro n
 induction n with
 | zero=>intro i acc hi;simp[loadCellsFrom,Sem.run,List.drop_eq_nil_of_le (show arr.toList.length≤i by simp;omega)]
 | succ n ih =>
  intro i acc hi
  have hlt:i<arr.size:=by omega
  have hc:=h i arr[i] (by simp[hlt])
  have hd:arr.toList.drop i=arr[i] :: arr.toList.drop (i+1):=by rw[List.drop_eq_getElem_cons (by simpa using hlt)];simp
  simp only[loadCellsFrom,load,Sem.run_bind,Sem.run,EE (show(⟨b,k,none⟩:Addr).spot=none from rfl),hc,Result.andThen_ok]
  rw[ih (i+1) _ (by omega),hd]
  simp
theorem JI{P:Program}{w:World}{a:Addr}{arr:Array Value}{t:TypeId}{f:TypeInfo}(h:JH w a.block a.off arr)(hs:a.spot=none)(hf:P.info? t=some f)(hn:arr.size=f.size)(hagg:(match P.underlying t with | some (.struct _)=>true | some (.array _ _)=>true | _=>false)=true) :
   (Instr.loadAt t (.pointer (some a))).run P w = .ok (.agg arr) w:=by
 obtain⟨b,k,sp⟩:=a
 simp only at hs;subst hs
 have ha:∀ w,(isAgg t).run P w = .ok true w:=by
   intro w
   cases hu:P.underlying t with
   | none=>rw[hu]at hagg;cases hagg
   | some d=>rw[hu]at hagg;cases d <;> first | (cases hagg;done) | simp[isAgg,underlying,program,Sem.run,hu]
 have hl:=run_loadCells (P:=P) h f.size 0 #[] (by omega)
 simp at hl
 simp[Instr.loadAt,Instr.sureAddr,loadVar,ha,sizeOf,typeInfo,program,Sem.run,hf,loadCells,hl]
theorem I5{P:Program}{ro:Bool}{ρ:Operand→Value}{o:Oper}{A A':AW}{k:OK}{vs:List Prop}{v:Value}(hk:∀ cs,k ≠ .auto cs)(h:Fe P ro ρ o A k=some (vs,v,A'))(hv:CE vs):A'=A∧∀ w:World,(∀ c∈A.σ,c.holds w)→(execOp ρ o).run P w = .ok (.value v) w:=by
 cases k with
 | auto cs=>exact absurd rfl (hk cs)
 | idx j =>
  simp only[Fe]at h
  split at h
  ·rename_i t x ix hop
   split at h
   ·rename_i a len cap k i e hx hix ht
    split at h
    ·rename_i f he
     simp only[Option.some.injEq,Prod.mk.injEq]at h
     obtain⟨rfl,rfl,rfl⟩:=h
     obtain⟨h1,h2,h3, -⟩:=hv
     exact⟨rfl,fun w _=>by simp[execOp,hop,hx,hix,run_indexAt_slice ht he h1 h2 h3,Sem.run,Result.andThen]⟩
    cases h
   ·rename_i a k i len e hx hix ht
    split at h
    ·rename_i f he
     simp only[Option.some.injEq,Prod.mk.injEq]at h
     obtain⟨rfl,rfl,rfl⟩:=h
     obtain⟨h1,h2,h3, -⟩:=hv
     exact⟨rfl,fun w _=>by simp[execOp,hop,hx,hix,run_indexAt_array ht he h1 h2 h3,Sem.run,Result.andThen]⟩
    cases h
   cases h
  cases h
 | aidx j u =>
  simp only[Fe]at h
  split at h
  ·rename_i t x ix hop
   split at h
   ·rename_i cs k i len e hx hix ht
    split at h
    ·cases h
    ·cases h
    ·rename_i f d hn1 hn2 he hd
     simp only[Option.some.injEq,Prod.mk.injEq]at h
     obtain⟨rfl,rfl,rfl⟩:=h
     obtain⟨h1,h2,h3, -⟩:=hv
     exact⟨rfl,fun w _=>by simp[execOp,hop,hx,hix,H6 ht he hd hn1 hn2 h1 h2 h3,Sem.run,Result.andThen]⟩
    cases h
   cases h
  cases h
 | sidx c =>
  simp only[Fe]at h
  split at h
  ·rename_i t x ix hop
   split at h
   ·rename_i s k i hx hix ht
    simp only[Option.some.injEq,Prod.mk.injEq]at h
    obtain⟨rfl,rfl,rfl⟩:=h
    obtain⟨h1,h2, -⟩:=hv
    exact⟨rfl,fun w _=>by simp[execOp,hop,hx,hix,run_index_string ht h1 h2,Sem.run,Result.andThen]⟩
   cases h
  cases h
 | row i arr =>
  simp only[Fe]at h
  split at h
  ·rename_i t x hop
   split at h
   ·rename_i a c f hx hi hf
    split at h
    ·rename_i hs hn hagg
     simp only[Option.some.injEq,Prod.mk.injEq]at h
     obtain⟨rfl,rfl,rfl⟩:=h
     exact⟨rfl,fun w hw=>by simp[execOp,hop,hx,JI (hv.1 w (hw c (List.mem_of_getElem? hi))) hs hf (Nat.eq_of_beq_eq_true hn) hagg,Sem.run,Result.andThen]⟩
    cases h
   cases h
  cases h
 | aeq b =>
  simp only[Fe]at h
  split at h
  ·rename_i t x y tt hop
   split at h
   ·rename_i xs ys n e hx hy hm hu
    split at h
    ·rename_i i k0 r hi hek hc hr
     simp only[Option.some.injEq,Prod.mk.injEq]at h
     obtain⟨rfl,rfl,rfl⟩:=h
     obtain⟨rfl, -⟩:=hv
     have hc1:P.cellsOf e=1:=Nat.eq_of_beq_eq_true hc
     have eqr:∀ w,(Op.equalIn 10000 t (.agg xs) (.agg ys)).run P w = .ok r w:=fun w=>by
      rw[run_equalIn_array (P:=P) w 9999 xs ys hu hi,hc1]
      exact IB hek 9998 _ _ hr w
     exact⟨rfl,fun w _=>by simp[execOp,hop,hx,hy,run_eqGuard_agg (P:=P) w .eql t x y xs ys hm,run_eql_struct,eqr w,Sem.run,Result.andThen]⟩
    cases h
   cases h
  cases h
 | seq b =>
  have eqr:∀ (t:TypeId) (xs ys:Array Value) (fs:Array Field) (r:Bool) (w:World),P.stoodInHeld t=false→P.underlying t=some (.struct fs)→Ij P 4 t xs ys=some r→(Op.equalIn 10000 t (.agg xs) (.agg ys)).run P w = .ok r w:=fun t xs ys fs r w _ _ he=>IV 9995 4 t xs ys r he w
  simp only[Fe]at h
  split at h
  ·rename_i t x y tt hop
   split at h
   ·rename_i xs ys fs hx hy hm hp hu
    split at h
    ·rename_i r hr
     simp only[Option.some.injEq,Prod.mk.injEq]at h
     obtain⟨rfl,rfl,rfl⟩:=h
     obtain⟨rfl, -⟩:=hv
     exact⟨rfl,fun w _=>by simp[execOp,hop,hx,hy,run_eqGuard_agg (P:=P) w .eql t x y xs ys hm,run_eql_struct,eqr t xs ys fs _ w hp hu hr,Sem.run,Result.andThen]⟩
    cases h
   cases h
  ·rename_i t x y tt hop
   split at h
   ·rename_i xs ys fs hx hy hm hp hu
    split at h
    ·rename_i r hr
     simp only[Option.some.injEq,Prod.mk.injEq]at h
     obtain⟨rfl,rfl,rfl⟩:=h
     obtain⟨rfl, -⟩:=hv
     exact⟨rfl,fun w _=>by simp[execOp,hop,hx,hy,run_eqGuard_agg (P:=P) w .neq t x y xs ys hm,run_neq_struct,eqr t xs ys fs _ w hp hu hr,Sem.run,Result.andThen]⟩
    cases h
   cases h
  cases h
 | slc l m moved =>
  simp only[Fe]at h
  split at h
  ·rename_i t x lo hi hop
   split at h
   ·rename_i a len cap e lo' hx ht h1
    split at h
    ·rename_i f hi' he h2
     split at h
     ·simp only[Option.some.injEq,Prod.mk.injEq]at h
      obtain⟨rfl,rfl,rfl⟩:=h
      obtain⟨e1,e2,e3,e4,e5, -⟩:=hv
      refine⟨rfl,fun w _ => ?_⟩
      have hr:=G8 (a:=a) (cap:=cap) ht he h1 h2 e1 e2 e3 e4 w
      have ha:(if cap=l then a else a.map (·.add (l*f.size)))=a:=by
       rcases e5 with rfl | rfl
       ·simp
       split
       ·rfl
       cases a <;> simp[Addr.add]
      rw[ha]at hr
      simp[execOp,hop,hx,hr,Sem.run,Result.andThen]
     ·rename_i a
      simp only[Option.some.injEq,Prod.mk.injEq]at h
      obtain⟨rfl,rfl,rfl⟩:=h
      obtain⟨e1,e2,e3,e4,e5,e6, -⟩:=hv
      refine⟨rfl,fun w _ => ?_⟩
      have hr:=G8 (a:=some a) (cap:=cap) ht he h1 h2 e1 e2 e3 e4 w
      rw[if_neg e5]at hr
      simp only[Option.map_some,EE e6]at hr
      simp[execOp,hop,hx,hr,Sem.run,Result.andThen,DN]
     cases h
    cases h
   cases h
  cases h
theorem FX{P:Program}{ro:Bool}{ρ:Operand→Value}{o:Oper}{A A':AW}{k:OK}{vs:List Prop}{v:Value}(h:Fe P ro ρ o A k=some (vs,v,A'))(hv:CE vs){w:World}(hw:Sat A w) :
   ∃ w',Yields P ρ o v w w'∧Sat A' w'∧A'.w0=A.w0:=by
 by_cases hk:∃ cs,k = .auto cs
 · obtain⟨cs,rfl⟩:=hk
   simp only[Fe]at h
   split at h
   · rename_i vs' v' A'' hr
     simp only[Option.some.injEq,Prod.mk.injEq]at h
     obtain⟨rfl,rfl,rfl⟩:=h
     obtain⟨w',h1,h2,h3⟩:=H5 _ _ _ _ _ _ _ hr hv w hw
     exact⟨w',.inl h1,h2,h3⟩
   · rename_i vs' A'' hr
     split at h
     · simp only[Option.some.injEq,Prod.mk.injEq]at h
       obtain⟨rfl,rfl,rfl⟩:=h
       obtain⟨w',h1,h2,h3⟩:=H5 _ _ _ _ _ _ _ hr hv w hw
       exact⟨w',.inr ⟨h1,rfl⟩,h2,h3⟩
     · cases h
   · cases h
 · obtain⟨rfl,h1⟩:=I5 (fun cs e=>hk ⟨cs,e⟩) h hv
   exact⟨w,.inl (h1 w hw.all),hw,rfl⟩
theorem KF{P:Program}{ρ:Operand→Value}{o:Oper}{A A':AW}{k:OK}{vs:List Prop}{v:Value}(h:Fe P true ρ o A k=some (vs,v,A'))(hv:CE vs){w:World}(hw:∀ c∈A.σ,c.holds w) :
   (execOp ρ o).run P w = .ok (.value v) w:=by
 by_cases hk:∃ cs,k = .auto cs
 · obtain⟨cs,rfl⟩:=hk
   simp only[Fe]at h
   split at h
   · rename_i vs' v' A'' hr
     simp only[Option.some.injEq,Prod.mk.injEq]at h
     obtain⟨rfl,rfl,rfl⟩:=h
     exact(EP _ _ _ _ _ _ _ hr hv w hw).1
   · cases h
   · cases h
 · exact(I5 (fun cs e=>hk ⟨cs,e⟩) h hv).2 w hw
def EO(ops:Array Oper)(env:Env)(o:Oper):Option Bool:=match o.guard with
 | none=>some true
 | some (j,want)=>match(ops[j]?).bind (·.dst)with
  | some d=>match look env d with
   | some (.bool b)=>some (b==want)
   | some (.tuple _)=>some false
   | _=>none
  | none=>none
theorem CO{N:Nat}{env:Env}{ds:List Deferred}{A:AW}{a:Act}{w:World}{ops:Array Oper}{o:Oper}{b:Bool}(h:EO ops env o=some b)(hs:St N env ds A a w):Region.wanted o (yielded ops a.tmps)=b:=by
 unfold EO at h
 unfold Region.wanted
 split at h
 ·rename_i hg;simp only[hg];simpa using h
 rename_i j want hg
 simp only[hg]
 split at h
 ·rename_i d hd
  split at h
  ·rename_i c hc
   have hk:=hs.kn _ _ hc
   have hy:yielded ops a.tmps j=some c:=by
    have h1:a.tmps[d]? = some (.bool c):=by
     rw[Array.getD_eq_getD_getElem?]at hk
     cases h2:a.tmps[d]? with
     | none=>rw[h2]at hk;cases hk
     | some y=>rw[h2]at hk;exact congrArg some hk
    unfold yielded
    simp only[hd,Option.bind_some,h1]
   simp only[Option.some.injEq]at h
   rw[hy,←h];cases c <;> cases want <;> rfl
  ·rename_i c hc
   have hk:=hs.kn _ _ hc
   have hy:yielded ops a.tmps j=none:=by
    have h1:a.tmps[d]? = some (.tuple c)∨a.tmps[d]? = none:=by
     rw[Array.getD_eq_getD_getElem?]at hk
     cases h2:a.tmps[d]? with
     | none=>exact .inr rfl
     | some y=>rw[h2]at hk;exact .inl (congrArg some hk)
    unfold yielded
    rcases h1 with h1 | h1 <;> simp only[hd,Option.bind_some,h1]
   simp only[Option.some.injEq]at h
   rw[hy,←h];cases want <;> rfl
  cases h
 cases h
def Ea(env:Env)(o:Oper):Bool:=Le o.op&&o.op.operands.all (known env)
abbrev Ee:=Option (List Prop×Env×AW)
def Ee.and(ps:List Prop)(r:Ee):Ee:=match r with
 | some (qs,x)=>some (ps++qs,x)
 | none=>none
theorem Ee.BV{ps vs:List Prop}{r:Ee}{x:Env×AW}(h:Ee.and ps r=some (vs,x)):∃ qs,r=some (qs,x)∧vs=ps++qs:=by
 unfold Ee.and at h
 split at h
 ·rename_i qs y;simp at h;exact⟨qs,by rw[h.2],h.1.symm⟩
 cases h
def DZ(P:Program)(N:Nat)(ops:Array Oper):Nat→List OC→List Oper→Env→AW→Ee
 | 0,[],_,env,A=>some ([],env,A)
 | 0,_ :: _,_,_,_=>none
 | _+1,_,[],_,_=>none
 | m+1,cs,o :: l,env,A=>match EO ops env o with
  | some false=>match Fv N o.dst with
   | true=>DZ P N ops m cs l (DT env o.dst undef) A
   | false=>none
  | some true=>match cs with
   | []=>none
   | c :: cs=>match Ea env o,Fv N o.dst,Fe P false (CV env) o A c.k with
    | true,true,some (vs,v,A')=>match c.LW with
     | none=>(DZ P N ops m cs l (DT env o.dst v) A').and vs
     | some u=>(DZ P N ops m cs l (DT env o.dst u) A').and (vs++[v=u])
    | _,_,_=>none
  | none=>none
inductive Kt where
 | seq (c:Code)
 | blk (id:Nat)
 | inv (R:Act→World→Prop)
def QQ(P:Program):List Kt→(Exit→Act→World→Prop)→Exit→Act→World→Prop
 | [],Q=>Q
 | .seq c :: s,Q=>Exit.then (c.wp P (QQ P s Q)) (QQ P s Q)
 | .blk id :: s,Q=>Exit.inBlock id (QQ P s Q)
 | .inv R :: s,Q=>Exit.then R (QQ P s Q)
def Lg(P:Program)(N:Nat)(env:Env)(ds:List Deferred)(A:AW)(ops:Array Oper)(l:List Oper)(s:List Kt)(Q:Exit→Act→World→Prop):Prop :=
 ∀ a w,St N env ds A a w→wpList P ops (QQ P s Q) l a w
def G(P:Program)(N:Nat)(env:Env)(ds:List Deferred)(A:AW)(c:Code)(s:List Kt)(Q:Exit→Act→World→Prop):Prop :=
 ∀ a w,St N env ds A a w→c.wp P (QQ P s Q) a w
def E(P:Program)(N:Nat)(env:Env)(ds:List Deferred)(A:AW)(e:Exit)(s:List Kt)(Q:Exit→Act→World→Prop):Prop :=
 ∀ a w,St N env ds A a w→QQ P s Q e a w
theorem Ef{P:Program}{ops:Array Oper}{Q:Exit→Act→World→Prop}{l:List Oper}{o:Oper}{a:Act}{w w':World}{v:Value}(hw:Region.wanted o (yielded ops a.tmps)=true)(hy:Yields P a.eval o v w w')(h:wpList P ops Q l (a.put o.dst v) w'):wpList P ops Q (o :: l) a w:=by
 unfold wpList
 rw[if_pos hw]
 left
 unfold Oper.wp
 rcases hy with hy | ⟨hy,rfl⟩ <;> rw[hy] <;> exact h
theorem Dy{N:Nat}{env:Env}{ds:List Deferred}{A:AW}{a:Act}{w:World}{o:Oper}(hs:St N env ds A a w)(hk:Ea env o=true):execOp a.eval o=execOp (CV env) o:=by
 simp only[Ea,Bool.and_eq_true,Array.all_eq_true_iff_forall_mem]at hk
 exact execOp_congr hk.1 (fun x hx=>hs.eval (hk.2 x hx))
theorem F9{P:Program}{N:Nat}{ops:Array Oper}{ds:List Deferred}{s:List Kt}{Q:Exit→Act→World→Prop}:∀ (m:Nat) (cs:List OC) (l:List Oper) (env:Env) (A:AW) (vs:List Prop) (env':Env) (A':AW),
   DZ P N ops m cs l env A=some (vs,env',A')→CE vs→(A'.w0=A.w0→Lg P N env' ds A' ops (l.drop m) s Q)→Lg P N env ds A ops l s Q:=by
 intro m
 induction m with
 | zero =>
   intro cs l env A vs env' A' h hv K
   cases cs with
   | nil=>simp only[DZ,Option.some.injEq,Prod.mk.injEq]at h;obtain⟨-,rfl,rfl⟩:=h;simpa using K rfl
   | cons c cs=>simp[DZ]at h
 | succ m ih =>
   intro cs l env A vs env' A' h hv K a w hs
   cases l with
   | nil=>simp[DZ]at h
   | cons o l =>
     simp only[DZ]at h
     split at h
     · rename_i hw
       have hw':=CO hw hs
       unfold wpList
       rw[if_neg (by rw[hw'];simp)]
       split at h
       · rename_i hd
         exact ih cs l _ A vs env' A' h hv K _ _ (hs.put hs.mem _ hd _)
       · cases h
     · rename_i hw
       have hw':=CO hw hs
       cases cs with
       | nil=>cases h
       | cons c cs =>
         simp only at h
         split at h
         · rename_i vs1 v A1 hk hd hx
           have hcg:=Dy hs hk
           split at h
           · rename_i hcas
             obtain⟨qs,h',rfl⟩:=Ee.BV h
             rw[BG]at hv
             obtain⟨w',hy,hsat,h0⟩:=FX hx hv.1 hs.mem
             refine Ef hw' (by unfold Yields at hy ⊢;rw[hcg];exact hy) ?_
             exact ih cs l _ _ qs env' A' h' hv.2 (fun h1=>K (h1.trans h0)) _ _ (hs.put hsat _ hd v)
           · rename_i u hcas
             obtain⟨qs,h',rfl⟩:=Ee.BV h
             rw[BG,BG]at hv
             obtain⟨⟨hv1,hvu, -⟩,hv2⟩:=hv
             have hvu':v=u:=hvu
             subst hvu'
             obtain⟨w',hy,hsat,h0⟩:=FX hx hv1 hs.mem
             refine Ef hw' (by unfold Yields at hy ⊢;rw[hcg];exact hy) ?_
             exact ih cs l _ _ qs env' A' h' hv2 (fun h1=>K (h1.trans h0)) _ _ (hs.put hsat _ hd v)
         · cases h
     · cases h
section rules
variable {P:Program}{N:Nat}{env:Env}{ds:List Deferred}{A:AW}{ops:Array Oper}{l:List Oper}{s:List Kt}{Q:Exit→Act→World→Prop}
theorem Fh(keep:List Nat)(env':Env)(K:Lg P N env' ds A ops l s Q)(h:DI keep env=env':=by as_aux_lemma=>kernel_rfl):Lg P N env ds A ops l s Q:=fun a w hs=>K a w (hs.sub (fun t v ht=>DC (by rw[h];exact ht)))
theorem JX{c:Code}(keep:List Nat)(env':Env)(K:G P N env' ds A c s Q)(h:DI keep env=env':=by as_aux_lemma=>kernel_rfl):G P N env ds A c s Q:=fun a w hs=>K a w (hs.sub (fun t v ht=>DC (by rw[h];exact ht)))
def G6(P:Program)(env:Env)(A:AW)(cs:List LC)(ops:Array Oper):List Oper→Option (List Prop×FuncId×Array Value×Option Nat)
 | []=>none
 | o :: _=>match EO ops env o,Ea env o,BB P true (execOp (CV env) o) cs A with
  | some true,true,some (vs,[],.enter f args,_)=>some (vs,f,args,o.dst)
  | _,_,_=>none
theorem l_call(cs:List LC)(vs:List Prop)(f:FuncId)(args:Array Value)(d:Option Nat)(hv:CE vs)
   (hc:∀ w,Sat A w→Calls P f args w fun e w'=>∃ v A',e = .returned v∧Sat A' w'∧Lg P N (DT env d v) ds A' ops (l.drop 1) s Q) (h:G6 P env A cs ops l=some (vs,f,args,d):=by as_aux_lemma=>kernel_rfl) (hd:Fv N d=true:=by kernel_rfl):Lg P N env ds A ops l s Q:=by
 intro a w hs
 cases l with
 | nil=>simp[G6]at h
 | cons o l =>
   simp only[G6]at h
   split at h
   · rename_i vs' f' args' A' hw hk hr
     simp only[Option.some.injEq,Prod.mk.injEq]at h
     obtain⟨rfl,rfl,rfl,rfl⟩:=h
     obtain⟨hrun, -⟩:=EP _ _ _ _ _ _ _ hr hv w hs.mem.all
     unfold wpList
     rw[if_pos (CO hw hs)]
     left
     unfold Oper.wp
     rw[Dy hs hk,hrun]
     refine(hc w hs.mem).mono ?_
     rintro e w' ⟨v,A1,rfl,hs1,K⟩
     exact K _ _ (hs.put hs1 _ hd v)
   · cases h
theorem KU{id:Nat}{os:Array Oper}(h:Lg P N env ds A os os.toList s Q):G P N env ds A (.region id os false) s Q:=fun a w hs=>wp_region_list (h a w hs)
theorem JC{x y:Code}(h:G P N env ds A x (.seq y :: s) Q):G P N env ds A (.seq x y) s Q:=fun a w hs=>wp_seq (h a w hs)
theorem LX(h:E P N env ds A .normal s Q):G P N env ds A .skip s Q:=fun a w hs=>wp_skip (h a w hs)
theorem LG{n:Nat}(h:E P N env ds A .normal s Q):G P N env ds A (.label n) s Q:=fun a w hs=>wp_label (h a w hs)
theorem L8{id:Nat}{c:Code}(h:G P N env ds A c (.blk id :: s) Q):G P N env ds A (.block id c) s Q:=fun a w hs=>wp_block (h a w hs)
theorem MB{id:Nat}(h:E P N env ds A (.exit id) s Q):G P N env ds A (.exit id) s Q:=fun a w hs=>wp_exit (h a w hs)
theorem I9(h:E P N env ds A .ret s Q):G P N env ds A .ret s Q:=fun a w hs=>wp_ret (h a w hs)
theorem Ku{c:Operand}{x y:Code}(h:G P N env ds A x s Q)(hc:CV env c = .bool true:=by rfl)(hk:known env c=true:=by rfl):G P N env ds A (.cond c x y) s Q:=fun a w hs=>wp_cond_true ((hs.eval hk).trans hc) (h a w hs)
theorem J4{c:Operand}{x y:Code}(h:G P N env ds A y s Q)(hc:CV env c = .bool false:=by rfl)(hk:known env c=true:=by rfl):G P N env ds A (.cond c x y) s Q:=fun a w hs=>wp_cond_false ((hs.eval hk).trans hc) (h a w hs)
theorem Gy{c:Code}(h:G P N env ds A c s Q):E P N env ds A .normal (.seq c :: s) Q:=h
theorem MQ{id:Nat}(h:E P N env ds A .normal s Q):E P N env ds A .normal (.blk id :: s) Q:=h
theorem MM{id:Nat}(h:E P N env ds A .normal s Q):E P N env ds A (.exit id) (.blk id :: s) Q:=fun a w hs=>by
 show Exit.inBlock id (QQ P s Q) (.exit id) a w
 simp only[Exit.inBlock,if_true];exact h a w hs
theorem Md{id id':Nat}(hne:Nat.beq id id'=false)(h:E P N env ds A (.exit id) s Q):E P N env ds A (.exit id) (.blk id' :: s) Q:=fun a w hs=>by
 show Exit.inBlock id' (QQ P s Q) (.exit id) a w
 simp only[Exit.inBlock]
 rw[if_neg (fun e=>by subst e;rw[Nat.beq_refl]at hne;cases hne)]
 exact h a w hs
theorem MV{id:Nat}{c:Code}(h:E P N env ds A (.exit id) s Q):E P N env ds A (.exit id) (.seq c :: s) Q:=h
theorem Me{id:Nat}{R:Act→World→Prop}(h:E P N env ds A (.exit id) s Q):E P N env ds A (.exit id) (.inv R :: s) Q:=h
theorem H7:∀ (s:List Kt) {a:Act} {w:World},Q .ret a w→QQ P s Q .ret a w
 | [],_,_,h=>h
 | .seq _ :: s,_,_,h=>H7 s h
 | .blk _ :: s,_,_,h=>H7 s h
 | .inv _ :: s,_,_,h=>H7 s h
def KT(fn:Func)(env:Env):Sem Value:=do
 let vs ← fn.results.mapM fun
  | .tmp t=>pure ((look env t).getD undef)
  | .cell a t=>do loadVar t (← asAddr ((look env a).getD undef))
 pure (if h:vs.size=1 then vs[0]else .tuple vs)
def FN(env:Env):ResultVar→Bool
 | .tmp t=>(look env t).isSome
 | .cell t _=>(look env t).isSome
theorem I4{t:Nat}(h:(look env t).isSome=true){a:Act}{w:World}(hs:St N env ds A a w):a.tmps.getD t undef=(look env t).getD undef:=by
 simp only[Option.isSome_iff_exists]at h
 obtain⟨v,hv⟩:=h
 rw[hv];exact hs.kn t v hv
theorem mapM_congr{α β:Type}{f g:α→Sem β}:∀ (l:List α),(∀ x∈l,f x=g x)→l.mapM f=l.mapM g
 | [],_=>rfl
 | x :: l,h=>by simp only[List.mapM_cons,h x (by simp),mapM_congr l (fun y hy=>h y (by simp[hy]))]
theorem JF{fn:Func}{a:Act}{w:World}(hk:fn.results.all (FN env)=true)(hs:St N env ds A a w):results fn a.tmps=KT fn env:=by
 simp only[Array.all_eq_true_iff_forall_mem]at hk
 unfold results KT
 simp only[Array.mapM_eq_mapM_toList]
 refine congrArg (fun z:Sem (List Value)=>(List.toArray <$> z >>= fun vs=>pure (if h:vs.size=1 then vs[0]else Value.tuple vs))) (mapM_congr _ fun x hx => ?_)
 have hx':=hk x (by simpa using hx)
 cases x with
 | tmp t=>simp only[I4 (by simpa[FN]using hx') hs]
 | cell b t=>simp only[I4 (by simpa[FN]using hx') hs]
theorem AL{fn:Func}{R:Ending→World→Prop}(cs:List LC)(vs:List Prop)(v:Value)(hv:CE vs)(K:∀ w,Sat A w→R (.returned v) w)(hk:fn.results.all (FN env)=true:=by kernel_rfl)(h:BB P true (KT fn env) cs A=some (vs,[],v,A):=by as_aux_lemma=>kernel_rfl):E P N env [] A .ret s (bodyPost P fn R):=by
 intro a w hs
 obtain⟨hrun, -⟩:=EP _ _ _ _ _ _ _ h hv w hs.mem.all
 exact H7 s ⟨hs.df,v,by rw[JF hk hs];exact hrun,K w hs.mem⟩
end rules
def IG:List Value→Nat→Env
 | [],_=>[]
 | v :: r,i=>(i,v) :: IG r (i+1)
theorem IJ:∀ (l:List Value) (i t:Nat) (v:Value),look (IG l i) t=some v→i≤t∧l[t - i]? = some v
 | [],_,_,_,h=>by simp[IG,look]at h
 | x :: r,i,t,v,h=>by
  simp only[IG,look]at h
  cases hb:Nat.beq i t with
  | true=>rw[hb]at h;have:=Nat.eq_of_beq_eq_true hb;subst this;simp at h;simp[h]
  | false =>
   rw[hb]at h
   obtain⟨h1,h2⟩:=IJ r (i+1) t v h
   refine⟨by omega, ?_⟩
   rw[show t - i=(t - (i+1))+1 from by omega];simpa using h2
theorem A7{P:Program}{f:FuncId}{fn:Func}{c:Code}{args:List Value}{w:World}{R:Ending→World→Prop}(N:Nat)(A:AW)(hf:P.funcs[f]? = some fn)(hb:fn.body=some c)(hn:fn.ntmps=N)(hl:Nat.ble args.length N=true)(hs:Sat A w)
   (h:G P N (IG args 0) [] A c [] (bodyPost P fn R)):Calls P f args.toArray w R:=by
 refine calls_of_wp hf hb (h _ _ ⟨?_,rfl, ?_,hs⟩)
 · have:=Nat.le_of_ble_eq_true hl
   simp[hn];omega
 · intro t v ht
   obtain⟨-,h2⟩:=IJ args 0 t v ht
   have hlt:t<args.length:=(List.getElem?_eq_some_iff.1 h2).1
   simp only[Array.getD_eq_getD_getElem?]
   rw[Array.getElem?_append_left (by simpa using hlt)]
   simp at h2 ⊢
   rw[h2];rfl
abbrev pt(b:Nat):Value:= .pointer (some ⟨b,0,none⟩)
abbrev i6(n:Int):Value:= .int .i64 n
abbrev bk(b:Nat)(cs:Array Value)(t:TypeId):Ch:= .blk b (.cells cs t (0,0)) true
abbrev a1(i:Nat):OC:=⟨.auto [.at i],none⟩
abbrev an(n i:Nat):OC:=⟨.auto (List.replicate n (.at i)),none⟩
inductive GG where
 | code (c:Code)
 | out (e:Exit)
 | reg (os:Array Oper) (l:List Oper)
inductive Seg where
 | ops (os:Array Oper) (l:List Oper)
 | cnd (x:Operand) (b lit:Bool)
abbrev Stp:=Option (List Seg×GG×List Kt×List Nat)
def step1:GG→List Kt→List Nat→Stp
 | .code c,s,bs=>match c with
  | .seq x y=>some ([],.code x,.seq y :: s,bs)
  | .skip=>some ([],.out .normal,s,bs)
  | .label _=>some ([],.out .normal,s,bs)
  | .block id c=>some ([],.code c,.blk id :: s,bs)
  | .region _ os false=>some ([],.reg os os.toList,s,bs)
  | .exit id=>some ([],.out (.exit id),s,bs)
  | .ret=>some ([],.out .ret,s,bs)
  | .cond x c d=>match bs with
   | 0 :: bs=>some ([.cnd x false true],.code d,s,bs)
   | 1 :: bs=>some ([.cnd x true true],.code c,s,bs)
   | 2 :: bs=>some ([.cnd x false false],.code d,s,bs)
   | 3 :: bs=>some ([.cnd x true false],.code c,s,bs)
   | _=>none
  | _=>none
 | .reg os l,s,bs=>some ([.ops os l],.out .normal,s,bs)
 | .out .normal,.seq c :: s,bs=>some ([],.code c,s,bs)
 | .out .normal,.blk _ :: s,bs=>some ([],.out .normal,s,bs)
 | .out (.exit id),.seq _ :: s,bs=>some ([],.out (.exit id),s,bs)
 | .out (.exit id),.inv _ :: s,bs=>some ([],.out (.exit id),s,bs)
 | .out (.exit id),.blk id' :: s,bs=>match Nat.beq id id' with
  | true=>some ([],.out .normal,s,bs)
  | false=>some ([],.out (.exit id),s,bs)
 | _,_,_=>none
def path:Nat→Nat→List Nat→GG→List Kt→Option (List Seg×GG×List Kt)
 | 0,last,_,p,s=>match last with
  | 0=>some ([],p,s)
  | k+1=>match p with
   | .reg os l=>some ([.ops os (l.take (k+1))],.reg os (l.drop (k+1)),s)
   | _=>none
 | n+1,last,bs,p,s=>match step1 p s bs with
  | some (sg,p',s',bs')=>match path n last bs' p' s' with
   | some (sgs,r)=>some (sg++sgs,r)
   | none=>none
  | none=>none
def CB(P:Program)(N:Nat):List Seg→List (List OC)→Env→AW→Ee
 | [],[],env,A=>some ([],env,A)
 | .ops os l :: r,cs :: css,env,A=>match DZ P N os l.length cs l env A with
  | some (vs,env',A')=>(CB P N r css env' A').and vs
  | none=>none
 | .cnd x b lit :: r,css,env,A=>match known env x with
  | true=>match lit with
   | false=>(CB P N r css env A).and [CV env x = .bool b]
   | true=>match CV env x,b with
    | .bool true,true=>CB P N r css env A
    | .bool false,false=>CB P N r css env A
    | _,_=>none
  | false=>none
 | _,_,_,_=>none
section
variable {P:Program}{N:Nat}{ds:List Deferred}{Q:Exit→Act→World→Prop}
abbrev Gl(P:Program)(N:Nat)(env:Env)(ds:List Deferred)(A:AW)(p:GG)(s:List Kt)(Q:Exit→Act→World→Prop):Prop:=match p with
 | .code c=>G P N env ds A c s Q
 | .out e=>E P N env ds A e s Q
 | .reg os l=>Lg P N env ds A os l s Q
theorem Jp{p p':GG}{s s':List Kt}{bs bs':List Nat}{sg:List Seg}(h:step1 p s bs=some (sg,p',s',bs')) :
   ∀ (css css':List (List OC)) (env env':Env) (A A':AW) (vs:List Prop) (r:List Seg),CB P N (sg++r) css env A=some (vs,env',A')→CE vs →
     (∀ (css2:List (List OC)) (env2:Env) (A2:AW) (vs2:List Prop),CB P N r css2 env2 A2=some (vs2,env',A')→CE vs2→Gl P N env2 ds A2 p' s' Q)→Gl P N env ds A p s Q:=by
 intro css css' env env' A A' vs r hr hv K
 unfold step1 at h
 split at h
 · rename_i c s0 bs0
   split at h
   · cases h;exact JC (K _ _ _ _ hr hv)
   · cases h;exact LX (K _ _ _ _ hr hv)
   · cases h;exact LG (K _ _ _ _ hr hv)
   · cases h;exact L8 (K _ _ _ _ hr hv)
   · cases h;exact KU (K _ _ _ _ hr hv)
   · cases h;exact MB (K _ _ _ _ hr hv)
   · cases h;exact I9 (K _ _ _ _ hr hv)
   · have key:∀ (x:Operand) (b lit:Bool),CB P N ([.cnd x b lit]++r) css env A=some (vs,env',A')→known env x=true∧CV env x = .bool b∧∃ vs2,CB P N r css env A=some (vs2,env',A')∧CE vs2:=by
       intro x b lit hr
       simp only[List.cons_append,List.nil_append,CB]at hr
       split at hr
       · rename_i hk
         split at hr
         · obtain⟨qs,h1,rfl⟩:=Ee.BV hr
           rw[BG]at hv
           exact⟨hk,hv.1.1,qs,h1,hv.2⟩
         · split at hr
           · rename_i he;exact⟨hk,he,vs,hr,hv⟩
           · rename_i he;exact⟨hk,he,vs,hr,hv⟩
           · cases hr
       · cases hr
     split at h
     · cases h
       obtain⟨h1,h2,vs2,h3,h4⟩:=key _ _ _ hr
       exact J4 (K _ _ _ _ h3 h4) h2 h1
     · cases h
       obtain⟨h1,h2,vs2,h3,h4⟩:=key _ _ _ hr
       exact Ku (K _ _ _ _ h3 h4) h2 h1
     · cases h
       obtain⟨h1,h2,vs2,h3,h4⟩:=key _ _ _ hr
       exact J4 (K _ _ _ _ h3 h4) h2 h1
     · cases h
       obtain⟨h1,h2,vs2,h3,h4⟩:=key _ _ _ hr
       exact Ku (K _ _ _ _ h3 h4) h2 h1
     · cases h
   · cases h
 · rename_i os l
   cases h
   cases css with
   | nil=>simp[CB]at hr
   | cons cs css =>
     simp only[List.cons_append,List.nil_append,CB]at hr
     split at hr
     · rename_i vs1 e1 A1 h1
       obtain⟨qs,h2,rfl⟩:=Ee.BV hr
       rw[BG]at hv
       refine F9 l.length cs l env A vs1 e1 A1 h1 hv.1 (fun _ a w hs => ?_)
       rw[List.drop_length]
       exact K _ _ _ _ h2 hv.2 a w hs
     · cases hr
 · cases h;exact Gy (K _ _ _ _ hr hv)
 · cases h;exact MQ (K _ _ _ _ hr hv)
 · cases h;exact MV (K _ _ _ _ hr hv)
 · cases h;exact Me (K _ _ _ _ hr hv)
 · split at h
   · rename_i hb
     cases h
     have:=Nat.eq_of_beq_eq_true hb
     subst this
     exact MM (K _ _ _ _ hr hv)
   · rename_i hb
     cases h
     exact Md hb (K _ _ _ _ hr hv)
 · cases h
theorem JA:∀ (n last:Nat) (bs:List Nat) (p p':GG) (s s':List Kt) (sgs:List Seg),path n last bs p s=some (sgs,p',s') →
   ∀ (css:List (List OC)) (env env':Env) (A A':AW) (vs:List Prop),CB P N sgs css env A=some (vs,env',A')→CE vs→Gl P N env' ds A' p' s' Q→Gl P N env ds A p s Q:=by
 intro n
 induction n with
 | zero =>
   intro last bs p p' s s' sgs h css env env' A A' vs hr hv K
   unfold path at h
   split at h
   · cases h
     cases css with
     | nil=>simp only[CB,Option.some.injEq,Prod.mk.injEq]at hr;obtain⟨-,rfl,rfl⟩:=hr;exact K
     | cons c cs=>simp[CB]at hr
   · rename_i k
     split at h
     · rename_i os l
       cases h
       cases css with
       | nil=>simp[CB]at hr
       | cons cs css =>
         simp only[CB]at hr
         split at hr
         · rename_i vs1 e1 A1 h1
           obtain⟨qs,h2,rfl⟩:=Ee.BV hr
           rw[BG]at hv
           cases css with
           | nil =>
             simp only[CB,Option.some.injEq,Prod.mk.injEq]at h2
             obtain⟨-,rfl,rfl⟩:=h2
             have hlen:(l.take (k+1)).length=min (k+1) l.length:=List.length_take
             by_cases hkl:k+1≤l.length
             · have h3:=listA_take (P:=P) (N:=N) (ops:=os) (k+1) cs l env A hkl
               rw[hlen,Nat.min_eq_left hkl,h3]at h1
               exact F9 (k+1) cs l env A vs1 _ _ h1 hv.1 (fun _=>K)
             · have ht:l.take (k+1)=l:=List.take_of_length_le (by omega)
               have hd:l.drop (k+1)=l.drop l.length:=by rw[List.drop_of_length_le (by omega),List.drop_length]
               rw[ht]at h1
               refine F9 l.length cs l env A vs1 _ _ h1 hv.1 (fun _ => ?_)
               rw[←hd];exact K
           | cons c cs=>simp[CB]at h2
         · cases hr
     · cases h
 | succ n ih =>
   intro last bs p p' s s' sgs h css env env' A A' vs hr hv K
   unfold path at h
   split at h
   · rename_i sg p1 s1 bs1 h1
     split at h
     · rename_i sgs2 r h2
       cases h
       exact Jp h1 css css env env' A A' vs sgs2 hr hv (fun css2 env2 A2 vs2 hr2 hv2=>ih last bs1 p1 p' s1 s' sgs2 h2 css2 env2 env' A2 A' vs2 hr2 hv2 K)
     · cases h
   · cases h
where
 listA_take:∀ {P:Program} {N:Nat} {ops:Array Oper} (m:Nat) (cs:List OC) (l:List Oper) (env:Env) (A:AW),m≤l.length→DZ P N ops m cs (l.take m) env A=DZ P N ops m cs l env A
  | P,N,ops,0,cs,l,env,A,_=>by cases cs <;> simp[DZ]
  | P,N,ops,m+1,cs,[],env,A,h=>by simp at h
  | P,N,ops,m+1,cs,o :: l,env,A,h=>by
   have h':m≤l.length:=by simpa using h
   rw[List.take_succ_cons]
   simp only[DZ]
   have ih:=fun cs env A=>listA_take (P:=P) (N:=N) (ops:=ops) m cs l env A h'
   simp only[ih]
def Gt(P:Program)(N:Nat)(sgs:List Seg)(css:List (List OC))(keep:List Nat)(env:Env)(A:AW):Ee:=match CB P N sgs css env A with
 | some (vs,e,A')=>some (vs,DI keep e,A')
 | none=>none
theorem Lt{env env':Env}{A:AW}{p:GG}{s:List Kt}{keep:List Nat}(h:DI keep env=env')(K:Gl P N env' ds A p s Q):Gl P N env ds A p s Q:=by
 cases p <;> exact fun a w hs=>K a w (hs.sub (fun t v ht=>DC (by rw[h];exact ht)))
abbrev Gx(env:Env):List Nat:=env.map (·.1)
theorem Gu{p p':GG}{s s':List Kt}{sgs:List Seg}{env:Env}{A:AW}(n last:Nat)(bs:List Nat)(css:List (List OC))(keep:List Nat)(vs:List Prop)(env':Env)(A':AW)(hp:path n last bs p s=some (sgs,p',s'))(hv:CE vs)(K:Gl P N env' ds A' p' s' Q)(h:Gt P N sgs css keep env A=some (vs,env',A')):Gl P N env ds A p s Q:=by
 unfold Gt at h
 split at h
 ·rename_i vs' e A1 h1
  simp only[Option.some.injEq,Prod.mk.injEq]at h
  obtain⟨rfl,rfl,rfl⟩:=h
  exact JA n last bs p p' s s' sgs hp css env e A _ _ h1 hv (Lt rfl K)
 cases h
variable {env:Env}{A:AW}{p':GG}{s s':List Kt}{sgs:List Seg}
theorem q_c{c:Code}(n last:Nat)(bs:List Nat)(css:List (List OC))(vs:List Prop)(env':Env)(A':AW)(hp:path n last bs (.code c) s=some (sgs,p',s'))(hv:CE vs)(K:Gl P N env' ds A' p' s' Q)(h:Gt P N sgs css (Gx env') env A=some (vs,env',A'):=by as_aux_lemma=>kernel_rfl):G P N env ds A c s Q:=Gu (p:= .code c) n last bs css _ vs env' A' hp hv K h
theorem BF{c:Code}(n last:Nat)(bs:List Nat)(css:List (List OC))(vs:List Prop)(env':Env)(hp:path n last bs (.code c) s=some (sgs,p',s'))(hv:CE vs)(K:Gl P N env' ds A p' s' Q)(h:Gt P N sgs css (Gx env') env A=some (vs,env',A):=by as_aux_lemma=>kernel_rfl):G P N env ds A c s Q:=Gu (p:= .code c) n last bs css _ vs env' A hp hv K h
theorem MW{e:Exit}(n last:Nat)(bs:List Nat)(css:List (List OC))(vs:List Prop)(env':Env)(A':AW)(hp:path n last bs (.out e) s=some (sgs,p',s'))(hv:CE vs)(K:Gl P N env' ds A' p' s' Q)(h:Gt P N sgs css (Gx env') env A=some (vs,env',A'):=by as_aux_lemma=>kernel_rfl):E P N env ds A e s Q:=Gu (p:= .out e) n last bs css _ vs env' A' hp hv K h
theorem GM{e:Exit}(n last:Nat)(bs:List Nat)(css:List (List OC))(vs:List Prop)(env':Env)(hp:path n last bs (.out e) s=some (sgs,p',s'))(hv:CE vs)(K:Gl P N env' ds A p' s' Q)(h:Gt P N sgs css (Gx env') env A=some (vs,env',A):=by as_aux_lemma=>kernel_rfl):E P N env ds A e s Q:=Gu (p:= .out e) n last bs css _ vs env' A hp hv K h
theorem D9{os:Array Oper}{l:List Oper}(n last:Nat)(bs:List Nat)(css:List (List OC))(vs:List Prop)(env':Env)(A':AW)(hp:path n last bs (.reg os l) s=some (sgs,p',s'))(hv:CE vs)(K:Gl P N env' ds A' p' s' Q)(h:Gt P N sgs css (Gx env') env A=some (vs,env',A'):=by as_aux_lemma=>kernel_rfl):Lg P N env ds A os l s Q:=Gu (p:= .reg os l) n last bs css _ vs env' A' hp hv K h
theorem BI{os:Array Oper}{l:List Oper}(n last:Nat)(bs:List Nat)(css:List (List OC))(vs:List Prop)(env':Env)(hp:path n last bs (.reg os l) s=some (sgs,p',s'))(hv:CE vs)(K:Gl P N env' ds A p' s' Q)(h:Gt P N sgs css (Gx env') env A=some (vs,env',A):=by as_aux_lemma=>kernel_rfl):Lg P N env ds A os l s Q:=Gu (p:= .reg os l) n last bs css _ vs env' A hp hv K h
end
section
variable {P:Program}{ops:Array Oper}{Q:Exit→Act→World→Prop}{md:Region.Mode}{C:World→Prop}{late:Nat}
def Closed(md:Region.Mode)(ops:Array Oper)(listed:Array Bool):Prop :=
 (∀ j oj,ops[j]? = some oj→listed.getD j false=true→∀ e∈oj.after,Region.binds md e=true→listed.getD e.on false=true)∧∀ j,listed.getD j false=true→j<ops.size
def F6(md:Region.Mode)(ops:Array Oper):Nat→Nat→List Nat
 | 0,_=>[]
 | f+1,j=>match ops[j]? with
  | none=>[]
  | some o=>o.after.toList.flatMap fun e=>if Region.binds md e then e.on :: F6 md ops f e.on else[]
theorem FU{listed:Array Bool}(hc:Closed md ops listed):∀ (f j:Nat) (o:Oper),ops[j]? = some o→(∀ e∈o.after,Region.binds md e=true→listed.getD e.on false=true)→∀ m∈F6 md ops f j,listed.getD m false=true:=by
 intro f
 induction f with
 | zero=>intro j o _ _ m hm;simp[F6]at hm
 | succ f ih =>
  intro j o ho ha m hm
  simp only[F6,ho,List.mem_flatMap]at hm
  obtain⟨e,he,hm⟩:=hm
  have he':e∈o.after:=by simpa using he
  split at hm
  ·rename_i hb
   have h1:=ha e he' hb
   rcases List.mem_cons.1 hm with rfl | hm
   ·exact h1
   cases hoe:ops[e.on]? with
   | none=>cases f <;> simp[F6,hoe]at hm
   | some oe=>exact ih e.on oe hoe (hc.1 e.on oe hoe h1) m hm
  cases hm
theorem CZ{listed:Array Bool}{i:Nat}(hc:Closed md ops listed)(hi:i∈Region.ready md ops listed):Closed md ops (listed.setIfInBounds i true):=by
 obtain⟨-,o,ho,hall⟩:=mem_ready.1 hi
 refine⟨?_,fun j hl => ?_⟩
 ·intro j oj hj hl e he hb
  by_cases hij:i=j
  ·subst hij
   rw[hj]at ho;cases ho
   exact getD_set_true (hall e he hb)
  rw[getD_set_ne false hij]at hl
  exact getD_set_true (hc.1 j oj hj hl e he hb)
 by_cases hij:i=j
 ·subst hij;exact(Array.getElem?_eq_some_iff.1 ho).1
 rw[getD_set_ne false hij]at hl
 exact hc.2 j hl
def Dc(P:Program)(md:Region.Mode)(ops:Array Oper)(Q:Exit→Act→World→Prop)(late:Nat)(C:World→Prop):Nat→Array Bool→Act→World→Prop
 | 0,listed,a,w=>Region.ready md ops listed=[]∧Q .normal a w
 | fuel+1,listed,a,w =>
  (Region.ready md ops listed=[]→Q .normal a w) ∧
  ∀ i∈Region.ready md ops listed,wpOp P ops Q i (fun a' w'=>((listed.setIfInBounds i true).getD late false=false→C w')∧Dc P md ops Q late C fuel (listed.setIfInBounds i true) a' w') a w
def ahead(md:Region.Mode)(ops:Array Oper)(late i:Nat):Bool:=Nat.ble ops.size late||(F6 md ops ops.size late).contains i
theorem Hz{i:Nat}{oi:Oper}{listed:Array Bool}(hl:ahead md ops late i=true)(hi:ops[i]? = some oi)(hc:Closed md ops listed)(hr:i∈Region.ready md ops listed):listed.getD late false=false:=by
 cases hb:listed.getD late false with
 | false=>rfl
 | true =>
  exfalso
  have hlt:=hc.2 late hb
  unfold ahead at hl
  rcases Bool.or_eq_true_iff.1 hl with hl | hl
  ·have h1:=Nat.le_of_ble_eq_true hl
   omega
  have h0:=(mem_ready.1 hr).1
  have h1:=FU hc ops.size late ops[late] (by simp[hlt]) (hc.1 late ops[late] (by simp[hlt]) hb) i (by simpa using hl)
  rcases Nat.lt_or_ge i listed.size with h' | h'
  ·simp[h']at h0 h1;rw[h0]at h1;cases h1
  simp[Array.getElem?_eq_none h']at h1
theorem first{i:Nat}{oi:Oper}{v:Value}(hl:ahead md ops late i=true)(hi:ops[i]? = some oi)(hsel:∀ (j:Nat) (o:Oper) cs b,ops[j]? = some o→o.op ≠ .select cs b)
   (hQ:∀ c a w,Q (.panic c) (a.put oi.dst v) w→Q (.panic c) a w) :
   ∀ (fuel:Nat) (listed:Array Bool) (a:Act) (w:World),Closed md ops listed →
     (∀ j oj,ops[j]? = some oj→j≠i→listed.getD j true=false→(∀ e∈oj.after,Region.binds md e=true→e.on≠i)→oi.apart ops oj=true) →
     i∈Region.ready md ops listed→YieldsIf P ops C oi v a→C w→i≠late →
     Dc P md ops Q late C fuel (listed.setIfInBounds i true) (a.put oi.dst v) w→Dc P md ops Q late C (fuel+1) listed a w:=by
 intro fuel
 induction fuel with
 | zero =>
   intro listed a w _ _ hr hy hS hil H
   refine⟨fun h=>(by rw[h]at hr;cases hr),fun j hj => ?_⟩
   by_cases hji:j=i
   · subst hji;exact hy.wpOp hi hS ⟨fun _=>hS,H⟩
   · have:=ready_mono hj hji
     rw[H.1]at this
     cases this
 | succ fuel ih =>
   intro listed a w hcl hfree hr hy hS hil H
   refine⟨fun h=>(by rw[h]at hr;cases hr),fun j hj => ?_⟩
   by_cases hji:j=i
   · subst hji;exact hy.wpOp hi hS ⟨fun _=>hS,H⟩
   · have h1:=H.2 j (ready_mono hj hji)
     obtain⟨hjun,oj,hoj,hall⟩:=mem_ready.1 hj
     have hnot:∀ e∈oj.after,Region.binds md e=true→e.on≠i:=fun e he hb heq=>by
       have h1:=hall e he hb
       have h0:=(mem_ready.1 hr).1
       rw[heq]at h1
       rcases Nat.lt_or_ge i listed.size with h' | h'
       · simp[h']at h0 h1;rw[h0]at h1;cases h1
       · simp[Array.getElem?_eq_none h']at h1
     have hlate:(listed.setIfInBounds j true).getD late false=false:=Hz hl hi (CZ hcl hj) (ready_mono hr (Ne.symm hji))
     have hlate2:((listed.setIfInBounds i true).setIfInBounds j true).getD late false=(listed.setIfInBounds j true).getD late false∨i=late:=by
       by_cases hil:i=late
       · exact .inr hil
       · left;rw[Array.setIfInBounds_comm _ _ (Ne.symm hji),getD_set_ne false hil]
     have h2:=wpOp_putIf hoj (hfree j oj hoj hji hjun hnot) (fun cs b=>hsel i oi cs b hi) (fun cs b=>hsel j oj cs b hoj) hQ hy h1
     have hfree':∀ k ok,ops[k]? = some ok→k≠i→(listed.setIfInBounds j true).getD k true=false →
         (∀ e∈ok.after,Region.binds md e=true→e.on≠i)→oi.apart ops ok=true:=fun k ok hk hki hun hno=>by
       refine hfree k ok hk hki ?_ hno
       by_cases hjk:j=k
       · subst hjk;exact hjun
       · rw[getD_set_ne true hjk]at hun;exact hun
     refine wpOp_mono (fun a' w' h3 => ?_) h2
     have hCw:C w':=h3.2.1 (by
       rcases hlate2 with e | e
       · rw[e];exact hlate
       · exact absurd e hil)
     refine⟨fun _=>hCw,ih (listed.setIfInBounds j true) a' w' (CZ hcl hj) hfree' (ready_mono hr (Ne.symm hji)) h3.1 hCw hil ?_⟩
     rw[Array.setIfInBounds_comm _ _ hji]
     exact h3.2.2
def Quiet(Q:Exit→Act→World→Prop)(e:Exit)(a:Act)(w:World):Prop:=(e = .normal∧Q .normal a w)∨∃ ch,e = .panic ch∧∀ a':Act,a'.tmps.size=a.tmps.size→a'.defers=a.defers→Q (.panic ch) a' w
theorem Gp{a:Act}{w:World}(h:Quiet Q .normal a w):Q .normal a w:=by
 rcases h with h | ⟨ch,e, -⟩
 ·exact h.2
 cases e
theorem G9{ch:List PanicEntry}{a:Act}{w:World}(h:Quiet Q (.panic ch) a w):Q (.panic ch) a w:=by
 rcases h with h | ⟨ch,e,h⟩
 ·exact absurd h.1 (by simp)
 cases e;exact h a rfl rfl
theorem KA{ch:List PanicEntry}{a:Act}{w:World}{d:Option Tmp}{v:Value}(h:Quiet Q (.panic ch) (a.put d v) w):Quiet Q (.panic ch) a w:=by
 rcases h with h | ⟨ch,e,h⟩
 ·exact absurd h.1 (by simp)
 refine .inr ⟨ch,e,fun a' h1 h2=>h a' ?_ ?_⟩
 ·cases d <;> simp[Act.put,h1]
 cases d <;> simp[Act.put,h2]
theorem Gm:∀ (fuel:Nat) (listed:Array Bool) (a:Act) (w:World),Dc P md ops (Quiet Q) late C fuel listed a w→wpAny P md ops Q fuel listed a w:=by
 intro fuel
 induction fuel with
 | zero=>exact fun _ _ _ h=>⟨h.1,Gp h.2⟩
 | succ fuel ih =>
  intro listed a w h
  refine⟨fun h0=>Gp (h.1 h0),fun i hi => ?_⟩
  have h1:=h.2 i hi
  unfold wpOp at h1 ⊢
  cases ho:ops[i]? with
  | none=>simp only[ho]at h1;exact ih _ _ _ h1.2
  | some o =>
   simp only[ho]at h1
   simp only[]
   split
   ·rename_i hw
    simp only[hw,if_true]at h1
    rcases h1 with h1 | ⟨-,a',w',e⟩
    ·left
     unfold Oper.wp at h1 ⊢
     generalize (execOp a.eval o).run P w=r at *
     cases r with
     | ok x w' =>
      cases x <;> simp only[Oper.upon]at h1 ⊢ <;> first
       | exact ih _ _ _ h1.2
       | exact h1
       | exact Calls.mono h1 (fun e w'' he=>by cases e <;> first | exact ih _ _ _ he.2 | exact G9 he | (obtain⟨_,_,⟨e, -⟩ | ⟨_,e, -⟩⟩:=he <;> cases e))
       | exact Rows.mono h1 (fun _ _ he=>ih _ _ _ he.2)
     | halt x w'=>cases x <;> simp only[Oper.upon]at h1 ⊢ <;> first | exact h1 | exact G9 h1
    rcases e with⟨e, -⟩ | ⟨_,e, -⟩ <;> cases e
   rename_i hw
   simp only[hw,Bool.false_eq_true,if_false]at h1
   exact ih _ _ _ h1.2
end
def Cs(σC:List Ch)(w:World):Prop:=∀ c∈σC,c.holds w
def Wg(P:Program)(N:Nat)(env:Env)(ds:List Deferred)(A:AW)(ops:Array Oper)(σC:List Ch)(late fuel:Nat)(listed:List Bool)(s:List Kt)(Q:Exit→Act→World→Prop):Prop :=
 ∀ a w,St N env ds A a w→Closed .any ops listed.toArray→(listed.toArray.getD late false=false→Cs σC w)→Dc P .any ops (Quiet (QQ P s Q)) late (Cs σC) fuel listed.toArray a w
def WO(P:Program)(N:Nat)(env:Env)(ds:List Deferred)(A:AW)(ops:Array Oper)(σC:List Ch)(late fuel:Nat)(listed:List Bool)(s:List Kt)(Q:Exit→Act→World→Prop)(i:Nat):Prop :=
 ∀ a w,St N env ds A a w→Closed .any ops (listed.set i true).toArray→wpOp P ops (Quiet (QQ P s Q)) i (fun a' w'=>((listed.set i true).toArray.getD late false=false→Cs σC w')∧Dc P .any ops (Quiet (QQ P s Q)) late (Cs σC) fuel (listed.set i true).toArray a' w') a w
section
variable {P:Program}{N:Nat}{env:Env}{ds:List Deferred}{A:AW}{ops:Array Oper}{σC:List Ch}{late fuel:Nat}{listed:List Bool}{s:List Kt}{Q:Exit→Act→World→Prop}
def takes(P:Program)(N:Nat)(ops:Array Oper)(σC:List Ch)(w0:World)(late:Nat):List (Nat×OC)→List Bool→Env→Option (List Prop×List Bool×Env)
 | [],listed,env=>some ([],listed,env)
 | (i,c) :: r,listed,env=>match ahead .any ops late i && !Nat.beq i late,Region.free .any ops listed.toArray i,(Region.ready .any ops listed.toArray).contains i,ops[i]? with
  | true,true,true,some o=>match Fv N o.dst,EO ops env o with
   | true,some false=>takes P N ops σC w0 late r (listed.set i true) (DT env o.dst undef)
   | true,some true=>match Ea env o,Fe P true (CV env) o ⟨w0,0,σC⟩ c.k with
    | true,some (vs,v,_)=>match c.LW with
     | none=>match takes P N ops σC w0 late r (listed.set i true) (DT env o.dst v)with
      | some (us,x)=>some (vs++us,x)
      | none=>none
     | some u=>match takes P N ops σC w0 late r (listed.set i true) (DT env o.dst u)with
      | some (us,x)=>some (vs++(v=u) :: us,x)
      | none=>none
    | _,_=>none
   | _,_=>none
  | _,_,_,_=>none
theorem Jq(hs:Region.noSelect ops=true){w0:World}:∀ (cs:List (Nat×OC)) (listed:List Bool) (env:Env) (vs:List Prop) (listed':List Bool) (env':Env),
   takes P N ops σC w0 late cs listed env=some (vs,listed',env')→CE vs→Wg P N env' ds A ops σC late fuel listed' s Q→Wg P N env ds A ops σC late (fuel+cs.length) listed s Q:=by
 intro cs
 induction cs with
 | nil =>
   intro listed env vs listed' env' h hv K
   simp only[takes,Option.some.injEq,Prod.mk.injEq]at h
   obtain⟨-,rfl,rfl⟩:=h
   exact K
 | cons x r ih =>
   obtain⟨i,c⟩:=x
   intro listed env vs listed' env' h hv K a w hst hcl hC
   simp only[takes]at h
   split at h
   · rename_i o hah0 hfr hrd hi
     rw[Bool.and_eq_true]at hah0
     obtain⟨hah,hil0⟩:=hah0
     have hil:i≠late:=fun e=>by subst e;rw[Nat.beq_refl]at hil0;cases hil0
     have hrd':i∈Region.ready .any ops listed.toArray:=by simpa using hrd
     have hC0:=hC (Hz hah hi hcl hrd')
     have hQ:∀ v c a w,Quiet (QQ P s Q) (.panic c) (a.put o.dst v) w→Quiet (QQ P s Q) (.panic c) a w:=fun _ _ _ _ h=>KA h
     have hset:∀ l:List Bool,l.toArray.setIfInBounds i true=(l.set i true).toArray:=fun l=>by simp
     have hcl':Closed .any ops (listed.set i true).toArray:=by rw[←hset];exact CZ hcl hrd'
     have go:∀ v,YieldsIf P ops (Cs σC) o v a→Dc P .any ops (Quiet (QQ P s Q)) late (Cs σC) (fuel+r.length) (listed.set i true).toArray (a.put o.dst v) w→Dc P .any ops (Quiet (QQ P s Q)) late (Cs σC) (fuel+(r.length+1)) listed.toArray a w:=by
       intro v hy hw
       exact first (md:= .any) (late:=late) (C:=Cs σC) hah hi (Region.noSelect_spec hs) (hQ v) (fuel+r.length) listed.toArray a w hcl (Region.free_spec hi hfr) hrd' hy hC0 hil (by rw[hset];exact hw)
     split at h
     · rename_i hd hw
       exact go undef (.inr ⟨CO hw hst,rfl⟩) (ih _ _ vs listed' env' h hv K _ _ (hst.put hst.mem _ hd undef) hcl' (fun _=>hC0))
     · rename_i hd hw
       have hw':=CO hw hst
       split at h
       · rename_i vs1 v A1 hk hx
         have hcg:=Dy hst hk
         have hy:CE vs1→YieldsIf P ops (Cs σC) o v a:=fun h1=> .inl ⟨hw',fun w1 hC1=>by rw[hcg];exact KF hx h1 hC1⟩
         split at h
         · split at h
           · rename_i us x hx2
             simp only[Option.some.injEq,Prod.mk.injEq]at h
             obtain⟨rfl,rfl,rfl⟩:=h
             rw[BG]at hv
             exact go v (hy hv.1) (ih _ _ us _ _ hx2 hv.2 K _ _ (hst.put hst.mem _ hd v) hcl' (fun _=>hC0))
           · cases h
         · rename_i u hcas
           split at h
           · rename_i us x hx2
             simp only[Option.some.injEq,Prod.mk.injEq]at h
             obtain⟨rfl,rfl,rfl⟩:=h
             rw[BG]at hv
             obtain⟨h1,h2,h3⟩:=hv
             have h2':v=u:=h2
             subst h2'
             exact go v (hy h1) (ih _ _ us _ _ hx2 h3 K _ _ (hst.put hst.mem _ hd v) hcl' (fun _=>hC0))
           · cases h
       · cases h
     · cases h
   · cases h
theorem MC(cs:List (Nat×OC))(keep:List Nat)(vs:List Prop)(listed':List Bool)(env':Env)(hf:Nat.ble cs.length fuel=true)
   (h:(match takes P N ops σC A.w0 late cs listed env with | some (vs,l,e)=>some (vs,l,DI keep e) | none=>none)=some (vs,listed',env')) (hs:Region.noSelect ops=true) (hv:CE vs) (K:Wg P N env' ds A ops σC late (fuel - cs.length) listed' s Q):Wg P N env ds A ops σC late fuel listed s Q:=by
 split at h
 · rename_i vs' l e h1
   simp only[Option.some.injEq,Prod.mk.injEq]at h
   obtain⟨rfl,rfl,rfl⟩:=h
   have hle:=Nat.le_of_ble_eq_true hf
   have:=Jq (fuel:=fuel - cs.length) hs cs listed env _ _ _ h1 hv (fun a w hst hcl hC=>K a w (hst.sub (fun t v=>DC)) hcl hC)
   rwa [Nat.sub_add_cancel hle]at this
 · cases h
theorem Cb(cs:List (Nat×OC))(keep:List Nat)(vs:List Prop)(listed':List Bool)(env':Env)(hv:CE vs)(K:Wg P N env' ds A ops σC late (fuel - cs.length) listed' s Q)(hf:Nat.ble cs.length fuel=true:=by rfl)(h:(match takes P N ops σC A.w0 late cs listed env with | some (vs,l,e)=>some (vs,l,DI keep e) | none=>none)=some (vs,listed',env'):=by as_aux_lemma=>kernel_rfl)(hs:Region.noSelect ops=true:=by as_aux_lemma=>kernel_rfl):Wg P N env ds A ops σC late fuel listed s Q:=MC cs keep vs listed' env' hf h hs hv K
theorem w_all(rs:List Nat)(hr:Region.ready .any ops listed.toArray=rs)(hne:List.isEmpty rs=false)(hf:Nat.ble 1 fuel=true)(h:∀ i∈rs,WO P N env ds A ops σC late (fuel - 1) listed s Q i):Wg P N env ds A ops σC late fuel listed s Q:=by
 intro a w hst hcl hC
 obtain⟨f,rfl⟩:∃ f,fuel=f+1:=⟨fuel - 1,by have:=Nat.le_of_ble_eq_true hf;omega⟩
 refine⟨fun h0 => ?_,fun i hi => ?_⟩
 ·rw[h0]at hr;subst hr;cases hne
 have hset:listed.toArray.setIfInBounds i true=(listed.set i true).toArray:=by simp
 have hcl':Closed .any ops (listed.set i true).toArray:=by rw[←hset];exact CZ hcl hi
 rw[hr]at hi
 have:=h i hi a w hst hcl'
 rw[hset];exact this
theorem Nb(rs:List Nat)(h:∀ i∈rs,WO P N env ds A ops σC late (fuel - 1) listed s Q i)(hr:Region.ready .any ops listed.toArray=rs:=by as_aux_lemma=>kernel_rfl)(hne:List.isEmpty rs=false:=by rfl)(hf:Nat.ble 1 fuel=true:=by rfl):Wg P N env ds A ops σC late fuel listed s Q:=w_all rs hr hne hf h
theorem LY(hr:Region.ready .any ops listed.toArray=[])(K:E P N env ds A .normal s Q):Wg P N env ds A ops σC late fuel listed s Q:=by
 intro a w hst hcl hC
 cases fuel with
 | zero=>exact⟨hr,.inl ⟨rfl,K a w hst⟩⟩
 | succ f=>exact⟨fun _=> .inl ⟨rfl,K a w hst⟩,by rw[hr];simp⟩
theorem Di(K:E P N env ds A .normal s Q)(hr:Region.ready .any ops listed.toArray=[]:=by as_aux_lemma=>kernel_rfl):Wg P N env ds A ops σC late fuel listed s Q:=LY hr K
def picks:List Nat→List Ch→Option (List Ch)
 | [],_=>some []
 | i :: r,l=>match l[i]?,picks r l with
  | some c,some cs=>some (c :: cs)
  | _,_=>none
theorem Cj:∀ {is:List Nat} {l cs:List Ch},picks is l=some cs→∀ c∈cs,c∈l
 | [],_,_,h,c,hc=>by simp[picks]at h;subst h;cases hc
 | i :: r,l,cs,h,c,hc=>by
  simp only[picks]at h
  split at h
  ·rename_i d ds hd hds
   simp only[Option.some.injEq]at h;subst h
   rcases List.mem_cons.1 hc with rfl | hc
   ·exact List.mem_of_getElem? hd
   exact Cj hds c hc
  cases h
def La(P:Program)(N:Nat)(ops:Array Oper)(i:Nat)(c:OC)(env:Env)(A:AW):Ee:=match ops[i]? with
 | some o=>match Fv N o.dst,EO ops env o,Ea env o,Fe P false (CV env) o A c.k with
  | true,some true,true,some (vs,v,A')=>match c.LW with
   | none=>some (vs,DT env o.dst v,A')
   | some u=>some (vs++[v=u],DT env o.dst u,A')
  | true,some false,_,_=>some ([],DT env o.dst undef,A)
  | _,_,_,_=>none
 | none=>none
theorem Lj{i:Nat}{A':AW}{w':World}{cix:List Nat}(hcl:Closed .any ops (listed.set i true).toArray)(hC:Nat.beq i late=true∨picks cix A'.σ=some σC)(hi:i<listed.length)(hs:Sat A' w'):(listed.set i true).toArray.getD late false=false→Cs σC w':=by
 intro hl
 rcases hC with hC | hC
 ·have:=Nat.eq_of_beq_eq_true hC
  subst this
  simp[hi]at hl
 exact fun c hc=>hs.all c (Cj hC c hc)
theorem LZ{i:Nat}(c:OC)(keep:List Nat)(vs:List Prop)(env':Env)(A':AW)(cix:List Nat)
   (h:(match La P N ops i c env A with | some (vs,e,A')=>some (vs,DI keep e,A') | none=>none)=some (vs,env',A')) (hi:Nat.blt i listed.length=true) (hv:CE vs) (hC:Nat.beq i late=true∨picks cix A'.σ=some σC)
   (K:Wg P N env' ds A' ops σC late fuel (listed.set i true) s Q):WO P N env ds A ops σC late fuel listed s Q i:=by
 intro a w hst hcl
 have hlt:i<listed.length:=by simpa using hi
 split at h
 · rename_i vs' e A1 h1
   simp only[Option.some.injEq,Prod.mk.injEq]at h
   obtain⟨rfl,rfl,rfl⟩:=h
   unfold La at h1
   unfold wpOp
   split at h1
   · rename_i o ho
     simp only[ho]
     split at h1
     · rename_i vs1 v A2 hd hw hk hx
       have hw':=CO hw hst
       rw[if_pos hw']
       left
       have done:∀ u,e=DT env o.dst u→v=u→CE vs1→A2=A1→o.wp P a w (fun a' w'=>((listed.set i true).toArray.getD late false=false→Cs σC w')∧Dc P .any ops (Quiet (QQ P s Q)) late (Cs σC) fuel (listed.set i true).toArray a' w') (Quiet (QQ P s Q)):=by
         rintro u rfl rfl hv1 rfl
         obtain⟨w',hy,hsat, -⟩:=FX hx hv1 hst.mem
         have hcs:=Lj (listed:=listed) hcl hC hlt hsat
         have hfin:=K _ _ ((hst.put hsat _ hd v).sub (fun t v=>DC)) hcl hcs
         unfold Oper.wp
         rw[Dy hst hk]
         rcases hy with hy | ⟨hy,rfl⟩ <;> rw[hy] <;> exact⟨hcs,hfin⟩
       split at h1
       · simp only[Option.some.injEq,Prod.mk.injEq]at h1
         obtain⟨rfl,rfl,rfl⟩:=h1
         exact done v rfl rfl hv rfl
       · simp only[Option.some.injEq,Prod.mk.injEq]at h1
         obtain⟨rfl,rfl,rfl⟩:=h1
         rw[BG]at hv
         exact done _ rfl hv.2.1 hv.1 rfl
     · rename_i hd hw
       have hw':=CO hw hst
       simp only[Option.some.injEq,Prod.mk.injEq]at h1
       obtain⟨rfl,rfl,rfl⟩:=h1
       rw[if_neg (by rw[hw'];simp)]
       have hcs:=Lj (listed:=listed) hcl hC hlt hst.mem
       exact⟨hcs,K _ _ ((hst.put hst.mem _ hd undef).sub (fun t v=>DC)) hcl hcs⟩
     · cases h1
   · cases h1
 · cases h
theorem EU{i:Nat}(c:OC)(keep:List Nat)(vs:List Prop)(env':Env)(A':AW)(cix:List Nat)(hv:CE vs)(hC:Nat.beq i late=true∨picks cix A'.σ=some σC)(K:Wg P N env' ds A' ops σC late fuel (listed.set i true) s Q)(h:(match La P N ops i c env A with | some (vs,e,A')=>some (vs,DI keep e,A') | none=>none)=some (vs,env',A'):=by as_aux_lemma=>kernel_rfl)(hi:Nat.blt i listed.length=true:=by rfl):WO P N env ds A ops σC late fuel listed s Q i:=LZ c keep vs env' A' cix h hi hv hC K
theorem Dj{i:Nat}(cs:List LC)(vs:List Prop)(f:FuncId)(args:Array Value)(d:Option Nat)(h:(match ops[i]? with | some o=>G6 P env A cs ops [o] | none=>none)=some (vs,f,args,d))(hd:Fv N d=true)(hi:Nat.blt i listed.length=true)(hv:CE vs)
   (hc:∀ w,Sat A w→Calls P f args w fun e w'=>∃ v A',e = .returned v∧Sat A' w'∧(Nat.beq i late=true∨Cs σC w')∧Wg P N (DT env d v) ds A' ops σC late fuel (listed.set i true) s Q):WO P N env ds A ops σC late fuel listed s Q i:=by
 intro a w hst hcl
 have hlt:i<listed.length:=by simpa using hi
 split at h
 · rename_i o ho
   simp only[G6]at h
   split at h
   · rename_i vs' f' args' A' hw hk hr
     simp only[Option.some.injEq,Prod.mk.injEq]at h
     obtain⟨rfl,rfl,rfl,rfl⟩:=h
     obtain⟨hrun, -⟩:=EP _ _ _ _ _ _ _ hr hv w hst.mem.all
     unfold wpOp
     simp only[ho]
     rw[if_pos (CO hw hst)]
     left
     unfold Oper.wp
     rw[Dy hst hk,hrun]
     refine(hc w hst.mem).mono ?_
     rintro e w' ⟨v,A1,rfl,hs1,hC1,K⟩
     have hcs:(listed.set i true).toArray.getD late false=false→Cs σC w':=by
       intro hl
       rcases hC1 with hC1 | hC1
       · have:=Nat.eq_of_beq_eq_true hC1
         subst this
         simp[hlt]at hl
       · exact hC1
     exact⟨hcs,K _ _ (hst.put hs1 _ hd v) hcl hcs⟩
   · cases h
 · cases h
theorem JY{C C':World→Prop}{late':Nat}{Q:Exit→Act→World→Prop}:∀ (fuel:Nat) (listed:Array Bool) (a:Act) (w:World),listed.getD late false=true→Dc P .any ops Q late' C' fuel listed a w→Dc P .any ops Q late C fuel listed a w:=by
 intro fuel
 induction fuel with
 | zero=>exact fun _ _ _ _ h=>h
 | succ fuel ih =>
  intro listed a w hl h
  refine⟨h.1,fun i hi=>wpOp_mono (fun a' w' h3=>⟨fun hn => ?_,ih _ _ _ (getD_set_true hl) h3.2⟩) (h.2 i hi)⟩
  rw[getD_set_true hl]at hn;cases hn
theorem EI(late':Nat)(cix:List Nat)(σC':List Ch)(hl:listed.toArray.getD late false=true)(hC:picks cix A.σ=some σC')(h:Wg P N env ds A ops σC' late' fuel listed s Q):Wg P N env ds A ops σC late fuel listed s Q :=
 fun a w hst hcl _=>JY _ _ _ _ hl (h a w hst hcl (fun _ c hc=>hst.mem.all c (Cj hC c hc)))
theorem Dw{id:Nat}(late:Nat)(cix:List Nat)(σC:List Ch)(hm:P.follows .mixedOrders=true)(hC:picks cix A.σ=some σC)(h:Wg P N env ds A ops σC late ops.size (List.replicate ops.size false) s Q):G P N env ds A (.region id ops true) s Q:=by
 intro a w hst
 have hst':St N env ds A a w.drew:=⟨hst.sz,hst.df,hst.kn,hst.mem.drew⟩
 refine wp_region_any hm (Gm (late:=late) (C:=Cs σC) _ _ _ _ ?_)
 have hr:Array.replicate ops.size false=(List.replicate ops.size false).toArray:=by simp
 rw[hr]
 refine h a w.drew hst' ⟨fun j oj hj hl => ?_,fun j hl => ?_⟩ (fun _ c hc=>hst'.mem.all c (Cj hC c hc))
 all_goals
  rw[Array.getD_eq_getD_getElem?]at hl
  by_cases hlt:j<ops.size <;> simp[List.getElem?_replicate,hlt]at hl
end
end Go.Proofs.YtjdkigkknhefpaaDoor.Eng
namespace Go.Proofs.YtjdkigkknhefpaaDoor.Mem
open Go.RowKit
set_option linter.unusedSimpArgs false
set_option linter.unusedVariables false
def At(w:World)(b:Nat)(o:Obj):Prop:=w.heap[b]? = some o
section
variable {w:World}{b:Nat}{o:Obj}
theorem At.eq(h:At w b o):w.heap[b]? = some o:=h
theorem At.lt(h:At w b o):b<w.heap.size:=(Array.getElem?_eq_some_iff.1 h).1
theorem At.ne(h:At w b o):b≠w.heap.size:=by have:=h.lt;omega
theorem At.cell{c:Array Value}{t:TypeId}{fr:Nat×Nat}(h:At w b (.cells c t fr)){i:Nat}{v:Value}(hc:c[i]? = some v):w.cell? ⟨b,i,none⟩=some v:=by
 simp[World.cell?,h.eq,hc]
theorem At.free{c:Array Value}{t:TypeId}(h:At w b (.cells c t (0,0)))(i:Nat):w.frozen? ⟨b,i,none⟩=false:=by
 simp[World.frozen?,h.eq]
end
def setRow(i:Nat)(v:Value):Option Obj→Option Obj
 | some (.cells c t fr)=>some (.cells (c.setIfInBounds i v) t fr)
 | x=>x
theorem heap_setCell(w:World)(b i:Nat)(v:Value)(k:Nat):(w.setCell ⟨b,i,none⟩ v).heap[k]? = if b=k then setRow i v w.heap[k]? else w.heap[k]? := by
 simp only[World.setCell,Array.getElem?_modify]
 by_cases h:b=k
 ·subst h
  simp only[if_true]
  cases hk:w.heap[b]? with
  | none=>rfl
  | some o=>cases o <;> simp[setRow]
 simp[h]
theorem heap_alloc(w:World)(o:Obj)(k:Nat):(w.alloc o).heap[k]? = if k=w.heap.size then some o else w.heap[k]? := by
 show(w.heap.push o)[k]? = _
 rw[Array.getElem?_push]
theorem size_setCell(w:World)(a:Addr)(v:Value):(w.setCell a v).heap.size=w.heap.size:=by simp[World.setCell]
theorem size_alloc(w:World)(o:Obj):(w.alloc o).heap.size=w.heap.size+1:=by simp
theorem GH(w:World)(r:Nat)(o:Obj)(k:Nat):(w.putObj r o).heap[k]? = if r=k∧k<w.heap.size then some o else w.heap[k]? := by
 simp only[World.putObj]
 by_cases h:r=k
 ·subst h
  by_cases h2:r<w.heap.size
  ·simp[h2]
  simp[h2]
 simp[h,Array.getElem?_setIfInBounds_ne h]
theorem At.BZ{w:World}{b:Nat}{c:Array Value}{t:TypeId}{fr:Nat×Nat}(h:At w b (.cells c t fr))(i:Nat)(v:Value):At (w.setCell ⟨b,i,none⟩ v) b (.cells (c.setIfInBounds i v) t fr):=by
 unfold At;rw[heap_setCell,if_pos rfl,h.eq];rfl
theorem At.alloc{w:World}{b:Nat}{o:Obj}(h:At w b o)(o':Obj):At (w.alloc o') b o:=by
 unfold At;rw[heap_alloc,if_neg h.ne];exact h
theorem At.new(w:World)(o:Obj):At (w.alloc o) w.heap.size o:=by unfold At;rw[heap_alloc,if_pos rfl]
theorem At.G7{w:World}{b:Nat}{o:Obj}(h:At w b o)(o':Obj):At (w.putObj b o') b o':=by
 unfold At;rw[GH,if_pos ⟨rfl,h.lt⟩]
structure Af(S:Nat→Prop)(w w':World):Prop where
 os:w'.os=w.os
 tape:w'.tape=w.tape
 output:w'.output=w.output
 size:w.heap.size≤w'.heap.size
 block:∀ k,k<w.heap.size→¬ S k→w'.heap[k]? = w.heap[k]?
section
variable {S T:Nat→Prop}{a w w':World}
theorem Af.refl(S:Nat→Prop)(w:World):Af S w w:=⟨rfl,rfl,rfl,Nat.le_refl _,fun _ _ _=>rfl⟩
theorem Af.trans(h:Af S a w)(k:Af T w w')(hT:∀ i,i<a.heap.size→T i→S i):Af S a w' :=
 ⟨k.os.trans h.os,k.tape.trans h.tape,k.output.trans h.output,Nat.le_trans h.size k.size,
  fun i hi hn=>(k.block i (Nat.lt_of_lt_of_le hi h.size) (fun x=>hn (hT i hi x))).trans (h.block i hi hn)⟩
theorem Af.mono(h:Af S a w)(hT:∀ i,i<a.heap.size→S i→T i):Af T a w :=
 ⟨h.os,h.tape,h.output,h.size,fun i hi hn=>h.block i hi (fun x=>hn (hT i hi x))⟩
theorem Af.drew(h:Af S a w):Af S a w.drew:=⟨h.os,h.tape,h.output,h.size,h.block⟩
theorem Af.setCell(h:Af S a w){b i:Nat}{v:Value}(hb:S b∨a.heap.size≤b):Af S a (w.setCell ⟨b,i,none⟩ v) :=
 ⟨h.os,h.tape,h.output,by rw[size_setCell];exact h.size,fun k hk hn=>by
  rw[heap_setCell,if_neg (fun e=>by rcases hb with x | x;exact hn (e ▸ x);omega)];exact h.block k hk hn⟩
theorem Af.alloc(h:Af S a w)(o:Obj):Af S a (w.alloc o) :=
 ⟨h.os,h.tape,h.output,by rw[size_alloc];have:=h.size;omega,fun k hk hn=>by
  rw[heap_alloc,if_neg (by have:=h.size;omega)];exact h.block k hk hn⟩
theorem Af.putObj(h:Af S a w){b:Nat}{o:Obj}(hb:S b∨a.heap.size≤b):Af S a (w.putObj b o) :=
 ⟨h.os,h.tape,h.output,by simpa using h.size,fun k hk hn=>by
  rw[GH,if_neg (fun e=>by rcases hb with x | x;exact hn (e.1 ▸ x);omega)];exact h.block k hk hn⟩
theorem Af.get(h:Af S w w'){b:Nat}{o:Obj}(hb:At w b o)(hn:¬ S b):At w' b o:=(h.block b hb.lt hn).trans hb
theorem Af.below(h:Af S w w'){B:Nat}(hB:B≤w.heap.size)(hS:∀ k,k<B→¬ S k):Below B w w' :=
 ⟨h.os,h.tape,h.output,h.size,fun k hk=>h.block k (by omega) (hS k hk)⟩
theorem Af.of_grownBy{row:Option Nat}(h:w.grownBy w' row):Af (fun k=>some k=row) w w' :=
 ⟨h.os,h.tape,h.output,h.size,fun k hk hn=>h.block k hk hn⟩
theorem Af.Jz(h:Af S a.drew w):Af S a w:=⟨h.os,h.tape,h.output,h.size,h.block⟩
theorem Af.drewN(h:Af S a w)(n:Nat):Af S a (w.drewN n):=⟨h.os,h.tape,h.output,h.size,h.block⟩
end
def BX(w:World)(b:Nat)(l:List (Int×Value)):Prop :=
 ∃ es c,At w b (.map es c)∧es.toList.map (fun e=>(e.key,e.val))=l.map (fun x=>(Value.int .i64 x.1,x.2))
theorem BX.at{w:World}{b:Nat}{l:List (Int×Value)}(h:BX w b l):∃ o,At w b o:=by obtain⟨es,c,h,_⟩:=h;exact⟨_,h⟩
theorem BX.lt{w:World}{b:Nat}{l:List (Int×Value)}(h:BX w b l):b<w.heap.size:=by obtain⟨o,h⟩:=h.at;exact h.lt
theorem BX.of_heap{w w':World}{b:Nat}{l:List (Int×Value)}(h:BX w b l)(e:w'.heap[b]? = w.heap[b]?):BX w' b l:=by
 obtain⟨es,c,hb,he⟩:=h;exact⟨es,c,e.trans hb,he⟩
def find(k:Int):List (Int×Value)→Nat→Option (Nat×Value)
 | [],_=>none
 | x :: r,i=>if k=x.1 then some (i,x.2)else find k r (i+1)
theorem Ia(k:Int):∀ (es:List MapEntry) (l:List (Int×Value)) (i:Nat),es.map (fun e=>(e.key,e.val))=l.map (fun x=>(Value.int .i64 x.1,x.2)) →
   Instr.findNow (.int .i64) (.int .i64 k) es i=some (find k l i)
 | [],[],_,_=>rfl
 | [],_ :: _,_,h=>by simp at h
 | _ :: _,[],_,h=>by simp at h
 | e :: es,x :: l,i,h=>by
   simp only[List.map_cons,List.cons.injEq,Prod.mk.injEq]at h
   obtain⟨⟨hk,hv⟩,ht⟩:=h
   simp only[Instr.findNow,hk,Instr.sameNow,if_true,find]
   by_cases e1:k=x.1
   · simp[e1,hv]
   · have:(k==x.1)=false:=by simp[e1]
     simp only[this,if_neg e1]
     exact Ia k es l (i+1) ht
theorem Gg{k:Int}:∀ {l:List (Int×Value)} {i:Nat},find k l i=none↔∀ v,(k,v) ∉ l
 | [],_=>by simp[find]
 | x :: l,i=>by
  simp only[find]
  by_cases h:k=x.1
  ·simp only[if_pos h]
   constructor
   ·intro h';cases h'
   intro h';exact absurd (List.mem_cons.2 (.inl (by rw[h]))) (h' x.2)
  rw[if_neg h,Gg]
  constructor
  ·intro h' v hm
   rcases List.mem_cons.1 hm with e | e
   ·exact h (by rw[←e])
   exact h' v e
  intro h' v hm;exact h' v (List.mem_cons_of_mem _ hm)
theorem Gs{k:Int}{v:Value}:∀ {l:List (Int×Value)} {i:Nat},(l.map (·.1)).Nodup→(k,v)∈l→∃ j,find k l i=some (i+j,v)∧l[j]? = some (k,v)
 | [],_,_,h=>by simp at h
 | x :: l,i,hn,h=>by
  simp only[List.map_cons,List.nodup_cons]at hn
  simp only[find]
  rcases List.mem_cons.1 h with e | e
  ·subst e;exact⟨0,by simp,by simp⟩
  have hne:¬ k=x.1:=fun e'=>hn.1 (by rw[←e'];exact List.mem_map.2 ⟨_,e,rfl⟩)
  rw[if_neg hne]
  obtain⟨j,h1,h2⟩:=Gs (i:=i+1) hn.2 e
  exact⟨j+1,by rw[h1];congr 2;omega,by simpa using h2⟩
theorem map_eraseIdx{α β:Type}(f:α→β):∀ (l:List α) (j:Nat),(l.eraseIdx j).map f=(l.map f).eraseIdx j
 | [],_=>rfl
 | _ :: _,0=>rfl
 | x :: l,j+1=>by simp[map_eraseIdx f l j]
theorem F7{k:Int}{v:Value}:∀ {l:List (Int×Value)} {j:Nat},(l.map (·.1)).Nodup→l[j]? = some (k,v)→l.eraseIdx j=l.eraseP (fun x=>x.1==k)
 | [],j,_,h=>by simp at h
 | x :: l,0,_,h=>by simp at h;simp[h]
 | x :: l,j+1,hn,h=>by
  simp only[List.map_cons,List.nodup_cons]at hn
  simp at h
  have hm:(k,v)∈l:=List.mem_of_getElem? h
  have hne:¬ x.1=k:=fun e=>hn.1 (by rw[e];exact List.mem_map.2 ⟨_,hm,rfl⟩)
  rw[List.eraseIdx_cons_succ,List.eraseP_cons_of_neg (by simpa using hne),F7 hn.2 h]
section ops
variable {P:Program}{t tk te:TypeId}{w:World}{b:Nat}{l:List (Int×Value)}
theorem Eo(e:Bool)(ht:P.underlying tk=some (.int .i64))(k:Int):(Instr.checkKey e 10000 tk (.int .i64 k)).run P w = .ok () w :=
 MapKept.run_checkKey ht (by simp[MapKept.IsKey]) e 9999
theorem run_findKey(ht:P.underlying tk=some (.int .i64))(k:Int){es:List MapEntry}(h:es.map (fun e=>(e.key,e.val))=l.map (fun x=>(Value.int .i64 x.1,x.2))) :
   (Instr.findKey tk (.int .i64 k) es).run P w = .ok (find k l 0) w :=
 MapKept.run_findKey ht (Ia k es l 0 h)
theorem BX.DF(h:BX w b l)(hm:P.underlying t=some (.map tk te))(ht:P.underlying tk=some (.int .i64))(k:Int)(v:Value)(hn:(l.map (·.1)).Nodup)(hk:(k,v)∈l)(ok:Bool) :
   (Instr.lookup t (.map (some b)) (.int .i64 k) ok).run P w = .ok (if ok then .tuple #[v,.bool true]else v) w:=by
 obtain⟨es,c,hb,he⟩:=h
 obtain⟨j,hj,_⟩:=Gs (i:=0) hn hk
 have hf:=run_findKey (P:=P) (w:=w) ht k he
 simp[Instr.lookup,run_underlying hm,getObj,Sem.run,hb.eq,Eo,ht,hf,hj]
theorem BX.Dh(h:BX w b l)(hm:P.underlying t=some (.map tk te))(ht:P.underlying tk=some (.int .i64)){z:Value}(hz:(zeroValue te).run P w = .ok z w)(k:Int)(hk:∀ v,(k,v) ∉ l)(ok:Bool) :
   (Instr.lookup t (.map (some b)) (.int .i64 k) ok).run P w = .ok (if ok then .tuple #[z,.bool false]else z) w:=by
 obtain⟨es,c,hb,he⟩:=h
 have hj:=(Gg (i:=0)).2 hk
 have hf:=run_findKey (P:=P) (w:=w) ht k he
 simp[Instr.lookup,run_underlying hm,getObj,Sem.run,hb.eq,Eo,ht,hf,hj,hz]
theorem BX.Ik(h:BX w b l)(hm:P.underlying t=some (.map tk te))(ht:P.underlying tk=some (.int .i64))(k:Int)(v:Value)(hk:∀ v,(k,v) ∉ l) :
   ∃ w',(Instr.mapUpdate t (.map (some b)) (.int .i64 k) v).run P w = .ok () w'∧BX w' b (l++[(k,v)])∧Af (· = b) w w'∧w'.heap.size=w.heap.size:=by
 obtain⟨es,c,hb,he⟩:=h
 have hj:=(Gg (i:=0)).2 hk
 have hf:=run_findKey (P:=P) (w:=w) ht k he
 refine⟨w.putObj b (.map (es.push { key:= .int .i64 k,val:=v,born:=c }) (c+1)), ?_,⟨_,_,hb.G7 _,by simp[he]⟩,(Af.refl _ _).putObj (.inl rfl),by simp⟩
 simp[Instr.mapUpdate,run_underlying hm,getObj,setObj,Sem.run,hb.eq,Eo,ht,hf,hj,World.putObj]
theorem BX.H9(h:BX w b l)(hm:P.underlying t=some (.map tk te))(ht:P.underlying tk=some (.int .i64))(k:Int)(v:Value)(hn:(l.map (·.1)).Nodup)(hk:(k,v)∈l) :
   ∃ w',(∀ ty,(Builtin.delete_ #[t,tk] ty #[.map (some b),.int .i64 k]).run P w = .ok (.tuple #[]) w')∧BX w' b (l.eraseP (fun x=>x.1==k))∧Af (· = b) w w'∧w'.heap.size=w.heap.size:=by
 obtain⟨es,c,hb,he⟩:=h
 obtain⟨j,hj,hjl⟩:=Gs (i:=0) hn hk
 have hf:=run_findKey (P:=P) (w:=w) ht k he
 refine⟨w.putObj b (.map (es.eraseIdxIfInBounds j) c),fun ty => ?_,⟨_,_,hb.G7 _, ?_⟩,(Af.refl _ _).putObj (.inl rfl),by simp⟩
 · simp[Builtin.delete_,run_underlying hm,getObj,setObj,Sem.run,hb.eq,Eo,ht,hf,hj,World.putObj]
 · have e1:(es.eraseIdxIfInBounds j).toList=es.toList.eraseIdx j:=by
     unfold Array.eraseIdxIfInBounds
     split
     · simp
     · rename_i hh;rw[List.eraseIdx_of_length_le (by simpa using hh)]
   rw[e1,map_eraseIdx,he,←map_eraseIdx,F7 hn hjl]
theorem BX.Gw(h:BX w b l)(hm:P.underlying t=some (.map tk te))(ty:TypeId):(Builtin.len_ #[t] ty #[.map (some b)]).run P w = .ok (.int .i64 (l.length:Int)) w:=by
 obtain⟨es,c,hb,he⟩:=h
 have hs:es.size=l.length:=by have:=congrArg List.length he;simpa using this
 simp[Builtin.len_,run_underlying hm,getObj,Sem.run,hb.eq,goInt,hs]
end ops
theorem Dl{P:Program}{w:World}{ops:Array Oper}{rest:List Oper}{o:Oper}{a:Act}{Q:Exit→Act→World→Prop}{t tk te:TypeId}{b:Nat}{l:List (Int×Value)}
   (hg:o.guard=none) (m x v:Operand) (hop:o.op=Op.mapUpdate t m x v) (hm:P.underlying t=some (.map tk te)) (ht:P.underlying tk=some (.int .i64))
   (hb:a.eval m = .map (some b)) (k:Int) (hx:a.eval x = .int .i64 k) (val:Value) (hv:a.eval v=val) (h:BX w b l) (hk:∀ v,(k,v) ∉ l)
   (hK:∀ w',BX w' b (l++[(k,val)])→Af (· = b) w w'→w'.heap.size=w.heap.size→wpList P ops Q rest (a.put o.dst undef) w'):wpList P ops Q (o :: rest) a w:=by
 refine wpList_plain hg fun K' hK' => ?_
 obtain⟨w',hrun,r1,r2,r3⟩:=h.Ik hm ht k val hk
 unfold Oper.wp
 simp[execOp,hop,hb,hx,hv,hrun,Result.andThen]
 exact hK' _ _ (hK w' r1 r2 r3)
end Go.Proofs.YtjdkigkknhefpaaDoor.Mem
namespace Go.Proofs.YtjdkigkknhefpaaDoor.Eng
open Go Go.Proofs.YtjdkigkknhefpaaDoor.Mem
set_option linter.unusedSimpArgs false
set_option linter.unusedVariables false
def nodupB:List Nat→Bool
 | []=>true
 | x :: r => !(r.contains x)&&nodupB r
theorem Jd:∀ {l:List Nat},nodupB l=true→l.Nodup
 | [],_=>List.nodup_nil
 | x :: r,h=>by
  simp only[nodupB,Bool.and_eq_true,Bool.not_eq_true',List.contains_eq_mem,decide_eq_false_iff_not]at h
  exact List.nodup_cons.2 ⟨h.1,Jd h.2⟩
theorem Key.EQ{c d:Key}(h:Key.apart c d):Key.apart d c:=fun hr b hb hc=>h (hr.symm) b hc hb
theorem FM{l:List Key}(h:l.Pairwise Key.apart){i j:Nat}{c d:Key}(hi:l[i]? = some c)(hj:l[j]? = some d)(hij:i≠j):Key.apart c d:=by
 obtain⟨hi',rfl⟩:=List.getElem?_eq_some_iff.1 hi
 obtain⟨hj',rfl⟩:=List.getElem?_eq_some_iff.1 hj
 rcases Nat.lt_or_gt_of_ne hij with hlt | hlt
 ·exact List.pairwise_iff_getElem.1 h i j hi' hj' hlt
 exact Key.EQ (List.pairwise_iff_getElem.1 h j i hj' hi' hlt)
theorem Jb:∀ {is:List Nat} {l cs:List Ch},picks is l=some cs→∀ c∈cs,∃ i∈is,l[i]? = some c
 | [],_,_,h,c,hc=>by simp[picks]at h;subst h;cases hc
 | i :: r,l,cs,h,c,hc=>by
  simp only[picks]at h
  split at h
  ·rename_i d ds hd hds
   simp only[Option.some.injEq]at h;subst h
   rcases List.mem_cons.1 hc with rfl | hc
   ·exact⟨i,by simp,hd⟩
   obtain⟨j,hj,hl⟩:=Jb hds c hc
   exact⟨j,by simp[hj],hl⟩
  cases h
theorem GK{l:List Ch}(h:(l.map Ch.key).Pairwise Key.apart):∀ {is:List Nat} {cs:List Ch},is.Nodup→picks is l=some cs→(cs.map Ch.key).Pairwise Key.apart
 | [],_,_,h=>by simp[picks]at h;subst h;simp
 | i :: r,cs,hn,hp=>by
  simp only[picks]at hp
  split at hp
  ·rename_i d ds hd hds
   simp only[Option.some.injEq]at hp;subst hp
   rw[List.nodup_cons]at hn
   simp only[List.map_cons,List.pairwise_cons]
   refine⟨?_,GK h hn.2 hds⟩
   intro k hk
   obtain⟨c,hc,rfl⟩:=List.mem_map.1 hk
   obtain⟨j,hj,hl⟩:=Jb hds c hc
   exact FM h (i:=i) (j:=j) (by rw[List.getElem?_map,hd];rfl) (by rw[List.getElem?_map,hl];rfl) (fun e=>hn.1 (e ▸ hj))
  cases hp
theorem Sat.pick{A:AW}{w:World}(h:Sat A w)(is:List Nat){σ':List Ch}(hn:nodupB is=true)(hp:picks is A.σ=some σ'):Sat { A with σ:=σ' } w :=
 ⟨h.os,h.tape,h.output,h.size,fun c hc=>h.all c (Cj hp c hc),fun c hc=>h.bnd c (Cj hp c hc),fun c hc=>h.Et c (Cj hp c hc),GK h.EN (Jd hn) hp⟩
theorem Sat.keeps{A:AW}{w w':World}(h:Sat A w)(hk:Af (fun _=>False) w w'):Sat { A with n:=w'.heap.size } w':=by
 refine⟨hk.os.trans h.os,hk.tape.trans h.tape,hk.output.trans h.output,rfl,fun c hc => ?_,fun c hc b hb => ?_,h.Et,h.EN⟩
 ·exact h.Et c hc w w' (fun b hb=>hk.block b (by rw[h.size];exact h.bnd c hc b hb) id) (h.all c hc)
 have:=h.bnd c hc b hb
 have h2:=hk.size
 rw[h.size]at h2
 show b<w'.heap.size
 omega
theorem Sat.IE{A:AW}{w w':World}(h:Sat A w)(hk:Af (fun _=>False) w w')(c:Ch)(hc:c.holds w')(hst:c.stable)(hF:∀ b,c.F b→A.n≤b∧b<w'.heap.size):Sat { A with n:=w'.heap.size,σ:=A.σ++[c] } w':=by
 have h':=h.keeps hk
 refine⟨h'.os,h'.tape,h'.output,rfl, ?_, ?_, ?_, ?_⟩
 ·intro d hd
  rcases List.mem_append.1 hd with hd | hd
  ·exact h'.all d hd
  simp only[List.mem_singleton]at hd;subst hd;exact hc
 ·intro d hd b hb
  rcases List.mem_append.1 hd with hd | hd
  ·exact h'.bnd d hd b hb
  simp only[List.mem_singleton]at hd;subst hd;exact(hF b hb).2
 ·intro d hd
  rcases List.mem_append.1 hd with hd | hd
  ·exact h'.Et d hd
  simp only[List.mem_singleton]at hd;subst hd;exact hst
 show((A.σ++[c]).map Ch.key).Pairwise Key.apart
 rw[List.map_append,List.pairwise_append]
 refine⟨h.EN,by simp, ?_⟩
 intro x hx y hy _ b hb hb'
 simp only[List.map_cons,List.map_nil,List.mem_singleton]at hy
 subst hy
 obtain⟨d,hd,rfl⟩:=List.mem_map.1 hx
 have h1:=h.bnd d hd b hb
 have h2:=(hF b hb').1
 omega
def old(S:Nat→Prop)(w:World):Ch:= .inv (fun b=>b<w.heap.size∧¬ S b) (fun w'=>∀ b,b<w.heap.size→¬ S b→w'.heap[b]? = w.heap[b]?) false
theorem JS(S:Nat→Prop)(w:World):(old S w).stable:=fun w1 w2 h hw b hb hS=>(h b ⟨hb,hS⟩).trans (hw b hb hS)
theorem LM(w:World):Sat ⟨w,w.heap.size,[old (fun _=>False) w]⟩ w:=by
 refine⟨rfl,rfl,rfl,rfl, ?_, ?_, ?_,by simp⟩
 ·intro c hc;simp only[List.mem_singleton]at hc;subst hc;exact fun _ _ _=>rfl
 ·intro c hc b hb;simp only[List.mem_singleton]at hc;subst hc;exact hb.1
 intro c hc;simp only[List.mem_singleton]at hc;subst hc;exact JS _ _
theorem Sat.back{A:AW}{w0 w:World}{S:Nat→Prop}(h:Sat A w)(hw:A.w0=w0)(hn:w0.heap.size≤A.n)(hin:old S w0∈A.σ):Af S w0 w:=by
 subst hw
 refine⟨h.os,h.tape,h.output,by rw[h.size];exact hn,fun b hb hS => ?_⟩
 exact h.all _ hin b hb hS
theorem E5{A:AW}{w w':World}{S:Nat→Prop}(h:Sat A w)(hk:Af S w w'):A.n≤w'.heap.size:=by have:=hk.size;rw[h.size]at this;exact this
theorem MR{P:Program}{N:Nat}{env:Env}{ds:List Deferred}{A:AW}{ops:Array Oper}{l:List Oper}{s:List Kt}{Q:Exit→Act→World→Prop}(f:FuncId)(args:Array Value)(d:Option Nat)(v:Value)(hc:∀ w,Sat A w→Calls P f args w fun e w'=>e = .returned v∧Af (fun _=>False) w w')(K:∀ n,A.n≤n→Lg P N (DT env d v) ds { A with n:=n } ops (l.drop 1) s Q)(h:G6 P env A [] ops l=some ([],f,args,d):=by as_aux_lemma=>kernel_rfl)(hd:Fv N d=true:=by kernel_rfl):Lg P N env ds A ops l s Q :=
 l_call [] [] f args d trivial (fun w hw=>(hc w hw).mono fun e w' ⟨he,hk⟩=>⟨v,{ A with n:=w'.heap.size },he,hw.keeps hk,K _ (E5 hw hk)⟩) h hd
theorem Lh{w w':World}{n:Nat}{S:Nat→Prop}{σ:List Ch}(h:Sat ⟨w,n,old S w :: σ⟩ w')(hn:w.heap.size≤n:=by omega):Af S w w':=h.back rfl hn (List.mem_cons_self ..)
theorem Dz{S:Nat→Prop}{w:World}{b k:Nat}{v:Value}(h:w.cell? ⟨b,k,none⟩=some v)(hS:¬ S b):∀ w',(old S w).holds w'→w'.cell? ⟨b,k,none⟩=some v:=by
 intro w' hw
 have hlt:b<w.heap.size:=by
  simp only[World.cell?]at h
  split at h
  ·rename_i hb;exact(Array.getElem?_eq_some_iff.1 hb).1
  cases h
 rw[←h]
 simp only[World.cell?]
 rw[hw b hlt hS]
theorem BQ{w:World}{b k:Nat}{v:Value}(h:w.cell? ⟨b,k,none⟩=some v):∀ w',(old (fun _=>False) w).holds w'→w'.cell? ⟨b,k,none⟩=some v:=Dz h id
def FB(base:Nat)(e:TypeId)(size:Nat)(v:Value)(n:Nat)(xs:List Value):Ch:= .inv (fun b=>v.ownBlock=some b) (fun w=>w.ownsRow base e size v n xs) true
theorem Es(base:Nat)(e:TypeId)(size:Nat)(v:Value)(n:Nat)(xs:List Value):(FB base e size v n xs).stable:=by
 intro w w' h hw
 refine⟨hw.1, ?_⟩
 rcases hw.2 with hn | ⟨g,cap,cur,rfl,hb,hgg,rest⟩
 ·exact .inl hn
 exact .inr ⟨g,cap,cur,rfl,hb,(h g (by simp[FB,Ch.F,Value.ownBlock])).trans hgg,rest⟩
theorem Sat.more{A:AW}{w:World}(h:Sat A w)(c:Ch)(hc:c.holds w)(hst:c.stable)(hF:∀ b,¬ c.F b):Sat { A with σ:=A.σ++[c] } w:=by
 refine⟨h.os,h.tape,h.output,h.size, ?_, ?_, ?_, ?_⟩
 ·intro d hd
  rcases List.mem_append.1 hd with hd | hd
  ·exact h.all d hd
  simp only[List.mem_singleton]at hd;subst hd;exact hc
 ·intro d hd b hb
  rcases List.mem_append.1 hd with hd | hd
  ·exact h.bnd d hd b hb
  simp only[List.mem_singleton]at hd;subst hd;exact absurd hb (hF b)
 ·intro d hd
  rcases List.mem_append.1 hd with hd | hd
  ·exact h.Et d hd
  simp only[List.mem_singleton]at hd;subst hd;exact hst
 show((A.σ++[c]).map Ch.key).Pairwise Key.apart
 rw[List.map_append,List.pairwise_append]
 refine⟨h.EN,by simp, ?_⟩
 intro x hx y hy _ b hb hb'
 simp only[List.map_cons,List.map_nil,List.mem_singleton]at hy
 subst hy
 exact hF b hb'
theorem Sat.row{A:AW}{w:World}(h:Sat A w)(base:Nat)(e:TypeId)(size:Nat):Sat { A with σ:=A.σ++[FB base e size (.slice none 0 0) 0 []] } w :=
 h.more _ (World.ownsRow_nil w base e size) (Es _ _ _ _ _ _) (fun b hb=>by simp[FB,Ch.F,Value.ownBlock]at hb)
section
variable {P:Program}{N:Nat}{env:Env}{ds:List Deferred}{A:AW}{ops:Array Oper}{l:List Oper}{s:List Kt}{Q:Exit→Act→World→Prop}{c:Code}
theorem FZ{x:Exit}(keep:List Nat)(env':Env)(K:E P N env' ds A x s Q)(h:DI keep env=env':=by as_aux_lemma=>kernel_rfl):E P N env ds A x s Q:=fun a w hs=>K a w (hs.sub (fun t v ht=>DC (by rw[h];exact ht)))
theorem Kw{w:World}{base:Nat}{e:TypeId}{size n:Nat}{v:Value}{xs:List Value}(h:w.ownsRow base e size v n xs):∃ a cap,v = .slice a n cap:=by
 rcases h.2 with⟨rfl,rfl⟩ | ⟨g,cap,cur,rfl, -⟩
 ·exact⟨none,0,rfl⟩
 exact⟨_,cap,rfl⟩
theorem JQ{base:Nat}{ρ:Operand→Value}{o:Oper}{x y:Operand}{t e:TypeId}{f:TypeInfo}{z:Value}{i:Nat}{v:Value}{n:Nat}{xs:List Value}{ad:Addr}{m cp:Nat}{news:List Value}
   (ho:o.op = .call { callee:= .builtin .append,args:= #[x,y],argTypes:= #[t,t] }) (ht:P.underlying t=some (.slice e)) (hf:P.info? e=some f) (hz:f.zero=some z) (hzs:z.cells.size=f.size) (hsz:0<f.size)
   (hi:A.σ[i]? = some (FB base e f.size v n xs)) (hx:ρ x=v) (hy:ρ y = .slice (some ad) m cp) (hl:news.length=m*f.size) (h1:∀ u∈news,u.oneCell'=true) {w:World} (hs:Sat A w) (hnews:∀ j u,news[j]? = some u→w.cell? (ad.add j)=some u)
   (h63:n+m≤maxLen) (hb:(n+m)*f.bytes≤140737488355328) (hbase:base≤A.n) :
   ∃ a' cap' w',(execOp ρ o).run P w = .ok (.value (.slice a' (n+m) cap')) w'∧A.n≤w'.heap.size∧Sat { A with n:=w'.heap.size,σ:=A.σ.set i (FB base e f.size (.slice a' (n+m) cap') (n+m) (xs++news)) } w':=by
 have hown:w.ownsRow base e f.size v n xs:=hs.at hi
 obtain⟨v',w',hr,ho',hg, -,hat⟩:=run_append_own_at (P:=P) w base t o.type e f z f.size f.bytes ht hf hz rfl rfl hzs hsz v n xs hown ad m cp news hl hnews h1 h63 hb (by rw[hs.size];exact hbase)
 obtain⟨a',cap',rfl⟩:=Kw ho'
 have hk:Af (fun k=>some k=v.ownBlock) w w':=Af.of_grownBy hg
 have hsize:A.n≤w'.heap.size:=by have:=hk.size;rw[hs.size]at this;exact this
 refine⟨a',cap',w', ?_,hsize, ?_⟩
 · unfold execOp
   simp only[ho,resolve,invoke,builtin,Sem.run_bind,Sem.run_pure,Result.andThen_ok,List.map_toArray,List.map_cons,List.map_nil,hx,hy,hr]
 · obtain⟨hlt,hix⟩:=List.getElem?_eq_some_iff.1 hi
   have hvb:∀ b,v.ownBlock=some b→b<A.n:=fun b hb=>hs.bnd _ (List.mem_of_getElem? hi) b hb
   have hnew:∀ b,(Value.slice a' (n+m) cap').ownBlock=some b→v.ownBlock=some b∨b=w.heap.size:=by
     intro b hb
     rcases hat with e1 | e1
     · exact .inl (e1 ▸ hb)
     · rw[e1]at hb;simp at hb;exact .inr hb.symm
   have hap:∀ j d,j≠i→A.σ[j]? = some d→∀ b,d.F b→v.ownBlock≠some b:=by
     intro j d hji hj b hd hb
     exact Fj hs.EN (i:=i) (j:=j) (by rw[List.getElem?_map,hi];rfl) (by rw[List.getElem?_map,hj];rfl) (Ne.symm hji) rfl b hb hd
   refine⟨hk.os.trans hs.os,hk.tape.trans hs.tape,hk.output.trans hs.output,rfl, ?_, ?_, ?_, ?_⟩
   · intro d hd
     obtain⟨j,hj⟩:=List.getElem?_of_mem hd
     by_cases hij:i=j
     · subst hij;rw[List.getElem?_set_self hlt]at hj;cases hj;exact ho'
     · rw[List.getElem?_set_ne hij]at hj
       have hm:=List.mem_of_getElem? hj
       exact hs.Et d hm w w' (fun b hb=>hk.block b (by rw[hs.size];exact hs.bnd d hm b hb) (fun e1=>hap j d (Ne.symm hij) hj b hb e1.symm)) (hs.all d hm)
   · intro d hd b hb
     show b<w'.heap.size
     rcases List.mem_or_eq_of_mem_set hd with hd | rfl
     · have:=hs.bnd d hd b hb;omega
     · have:=ho'.lt b hb;exact this.2
   · intro d hd
     rcases List.mem_or_eq_of_mem_set hd with hd | rfl
     · exact hs.Et d hd
     · exact Es _ _ _ _ _ _
   · show((A.σ.set i _).map Ch.key).Pairwise Key.apart
     rw[List.map_set,List.pairwise_iff_getElem]
     intro p q hp hq hpq
     simp only[List.length_set,List.length_map]at hp hq
     have key:∀ j (hj:j<A.σ.length),j≠i→Key.apart (Ch.key (FB base e f.size (.slice a' (n+m) cap') (n+m) (xs++news))) (Ch.key A.σ[j]):=by
       intro j hj hji _ b hb hd
       have hjs:A.σ[j]? = some A.σ[j]:=by simp[hj]
       rcases hnew b hb with e1 | e1
       · exact hap j _ hji hjs b hd e1
       · have:=hs.bnd _ (List.mem_of_getElem? hjs) b hd
         rw[←hs.size]at this;omega
     simp only[List.getElem_set,List.getElem_map]
     by_cases h1:i=p
     · subst h1
       rw[if_pos rfl,if_neg (by omega)]
       exact key q hq (by omega)
     · rw[if_neg h1]
       by_cases h2:i=q
       · subst h2;rw[if_pos rfl];exact Key.EQ (key p hp (by omega))
       · rw[if_neg h2]
         exact FM hs.EN (i:=p) (j:=q) (by simp[hp]) (by simp[hq]) (by omega)
def JK(o:Oper):Option (Operand×Operand×TypeId×TypeId):=match o.op with
 | .call c=>match c.callee,c.args.toList,c.argTypes.toList with
  | .builtin .append,[x,y],[t,u]=>some (x,y,t,u)
  | _,_,_=>none
 | _=>none
theorem JJ{o:Oper}{x y:Operand}{t u:TypeId}(h:JK o=some (x,y,t,u)):o.op = .call { callee:= .builtin .append,args:= #[x,y],argTypes:= #[t,u] }:=by
 unfold JK at h
 split at h
 ·rename_i c hop
  split at h
  ·rename_i x' y' t' u' h1 h2 h3
   simp only[Option.some.injEq,Prod.mk.injEq]at h
   obtain⟨rfl,rfl,rfl,rfl⟩:=h
   obtain⟨c1,c2,c3⟩:=c
   obtain⟨c2⟩:=c2
   obtain⟨c3⟩:=c3
   simp only at h1 h2 h3
   subst h1 h2 h3
   exact hop
  cases h
 cases h
end
abbrev Qb(b:Nat):Prop:=b=b
abbrev A8(w:World):Ch:=old (fun _=>False) w
theorem Ld{w:World}{z:Nat}(h:z=w.heap.size):Sat ⟨w,z,[A8 w]⟩ w:=by subst h;exact LM w
abbrev Old(w:World)(b k:Nat)(v:Value):Prop:=∀ w',Ch.holds (old (fun _=>False) w) w'→w'.cell? ⟨b,k,none⟩=some v
abbrev o0:OC:=⟨.auto [],none⟩
abbrev oa(cs:List LC):OC:=⟨.auto cs,none⟩
abbrev oi(j:Nat):OC:=⟨.idx j,none⟩
def Mc:IntKind→Int→Prop
 | .i64,x => -9223372036854775808≤x∧x≤9223372036854775807
 | .i32,x => -2147483648≤x∧x≤2147483647
 | .i16,x => -32768≤x∧x≤32767
 | .i8,x => -128≤x∧x≤127
 | .u64,x=>0≤x∧x≤18446744073709551615
 | .u32,x=>0≤x∧x≤4294967295
 | .u16,x=>0≤x∧x≤65535
 | .u8,x=>0≤x∧x≤255
def gd{α:Type}[Inhabited α](xs:List α)(k:Nat):α:=xs.getD k default
theorem JR{α:Type}[Inhabited α]{xs:List α}{k:Nat}(h:k<xs.length):gd xs k=xs[k]:=by
 unfold gd;rw[List.getD_eq_getElem?_getD,List.getElem?_eq_getElem h];rfl
structure Sl(α:Type) where
 a:Option Addr
 cap:Nat
 xs:List α
 deriving Inhabited
def Sl.val{α:Type}(s:Sl α):Value:= .slice s.a s.xs.length s.cap
abbrev Any:Nat→Prop:=fun _=>True
abbrev New(n:Nat):Nat→Prop:=fun b=>n≤b
def Ext(F:Nat→Prop)(W W':World):Prop:=∀ (b k:Nat) (v:Value),F b→W.cell? ⟨b,k,none⟩=some v→W'.cell? ⟨b,k,none⟩=some v
theorem Ext.refl(F:Nat→Prop)(W:World):Ext F W W:=fun _ _ _ _ h=>h
theorem Ext.trans{F:Nat→Prop}{a b c:World}(h:Ext F a b)(k:Ext F b c):Ext F a c:=fun _ _ _ hf x=>k _ _ _ hf (h _ _ _ hf x)
theorem Sat.ext{A:AW}{W w:World}(h:Sat A w)(hi:A.σ[0]? = some (A8 W)):Ext Any W w:=fun b k v _ hv=>BQ hv w (h.at hi)
structure GR{α:Type}(cells:α→List Value)(sz:Nat)(F:Nat→Prop)(W:World)(s:Sl α):Prop where
 len:s.xs.length≤140737488351232
 le:s.xs.length≤s.cap
 cells:s.xs≠[]→∃ b off,s.a=some ⟨b,off,none⟩∧F b∧∀ i (h:i<s.xs.length),∀ k v,(cells s.xs[i])[k]? = some v→W.cell? ⟨b,off+CY sz i+k,none⟩=some v
theorem GR.all{α:Type}[Inhabited α]{cells:α→List Value}{sz:Nat}{F:Nat→Prop}{W:World}{s:Sl α}(h:GR cells sz F W s)(hi:0<s.xs.length) :
   ∃ b off,s.a=some ⟨b,off,none⟩∧F b∧∀ i,i<s.xs.length→∀ k v,(cells (gd s.xs i))[k]? = some v→W.cell? ⟨b,off+CY sz i+k,none⟩=some v:=by
 obtain⟨b,off,ha,hF,hc⟩:=h.cells (fun e=>by rw[e]at hi;simp at hi)
 exact⟨b,off,ha,hF,fun i hi k v hv=>hc i hi k v (by rw[←JR hi];exact hv)⟩
theorem Ii{α:Type}{cells:α→List Value}{sz:Nat}(hsz:∀ x,(cells x).length=sz):∀ (xs:List α) (i:Nat) (h:i<xs.length) (k:Nat) (v:Value),(cells xs[i])[k]? = some v→(xs.flatMap cells)[CY sz i+k]? = some v
 | x :: xs,0,_,k,v,hv=>by
  have hk:k<(cells x).length:=(List.getElem?_eq_some_iff.1 hv).1
  rw[DN,Nat.zero_mul,Nat.zero_add,List.flatMap_cons,List.getElem?_append_left hk];exact hv
 | x :: xs,i+1,h,k,v,hv=>by
  have ih:=Ii hsz xs i (by simpa using h) k v (by simpa using hv)
  rw[DN]at ih ⊢
  rw[List.flatMap_cons,List.getElem?_append_right (by rw[hsz,Nat.succ_mul];omega),hsz,show(i+1)*sz+k - sz=i*sz+k from by rw[Nat.succ_mul];omega]
  exact ih
theorem MH{α:Type}{cells:α→List Value}{sz base:Nat}{e:TypeId}{w:World}{a:Option Addr}{cap:Nat}{xs:List α}(hsz:∀ x,(cells x).length=sz)(h:w.ownsRow base e sz (.slice a xs.length cap) xs.length (xs.flatMap cells))(hl:xs.length≤140737488351232):GR cells sz (New base) w ⟨a,cap,xs⟩:=by
 rcases h.2 with⟨h1,h2⟩ | ⟨g,cap',cur,h1,hb,hg,hnc,hcm,hcs,ht⟩
 ·refine⟨hl,by rw[h2];exact Nat.zero_le _,fun hne=>absurd (List.eq_nil_of_length_eq_zero h2) hne⟩
 cases h1
 refine⟨hl,hnc,fun hne=>⟨g,0,rfl,hb,fun i hi k v hv => ?_⟩⟩
 have hf:=Ii hsz xs i hi k v hv
 rw[←ht,List.getElem?_take]at hf
 split at hf
 ·simp only[World.cell?,hg,Nat.zero_add];simpa using hf
 cases hf
def Dn{α:Type}(base:Nat)(e:TypeId)(size:Nat)(cells:α→List Value)(v:Value)(xs:List α):Ch:=FB base e size v xs.length (xs.flatMap cells)
theorem JZ{α:Type}(base:Nat)(e:TypeId)(size:Nat)(cells:α→List Value)(v:Value)(xs ys:List α):FB base e size v (xs.length+ys.length) (xs.flatMap cells++ys.flatMap cells)=Dn base e size cells v (xs++ys):=by
 simp[Dn]
section
variable {P:Program}{N:Nat}{env:Env}{ds:List Deferred}{A:AW}{ops:Array Oper}{l:List Oper}{s:List Kt}{Q:Exit→Act→World→Prop}{c:Code}
theorem MO{σC:List Ch}{late fuel:Nat}{listed:List Bool}(i:Nat)(hr:Region.ready .any ops listed.toArray=[i])(hf:Nat.ble 1 fuel=true)(h:WO P N env ds A ops σC late (fuel - 1) listed s Q i):Wg P N env ds A ops σC late fuel listed s Q :=
 w_all [i] hr rfl hf (List.forall_mem_cons.2 ⟨h,fun _ h=>absurd h List.not_mem_nil⟩)
theorem CU{σC:List Ch}{late fuel:Nat}{listed:List Bool}(i:Nat)(h:WO P N env ds A ops σC late (fuel - 1) listed s Q i)(hr:Region.ready .any ops listed.toArray=[i]:=by as_aux_lemma=>kernel_rfl)(hf:Nat.ble 1 fuel=true:=by rfl):Wg P N env ds A ops σC late fuel listed s Q:=MO i hr hf h
theorem Dx{σC:List Ch}{late fuel:Nat}{listed:List Bool}(keep:List Nat)(env':Env)(K:Wg P N env' ds A ops σC late fuel listed s Q)(h:DI keep env=env':=by as_aux_lemma=>kernel_rfl):Wg P N env ds A ops σC late fuel listed s Q:=fun a w hs=>K a w (hs.sub (fun t v ht=>DC (by rw[h];exact ht)))
end
theorem DD{α:Type}[Inhabited α]{base:Nat}{e:TypeId}{sz:Nat}{cells:α→List Value}{g n cap:Nat}{xs:List α}{j k:Nat}{v:Value}(hsz:∀ x,(cells x).length=sz)(hj:j<xs.length)(hv:(cells (gd xs j))[k]? = some v) :
   ∀ w',Ch.holds (Dn base e sz cells (.slice (some ⟨g,0,none⟩) n cap) xs) w'→w'.cell? ⟨g,0+CY sz j+k,none⟩=some v:=by
 intro w' hw
 have hw':w'.ownsRow base e sz (.slice (some ⟨g,0,none⟩) n cap) xs.length (xs.flatMap cells):=hw
 rcases hw'.2 with⟨h1, -⟩ | ⟨g',cap',cur,h1,hb,hg,hnc,hcm,hcs,ht⟩
 · cases h1
 · cases h1
   have hf:=Ii hsz xs j hj k v (by rw[←JR hj];exact hv)
   rw[←ht,List.getElem?_take]at hf
   split at hf
   · simp only[World.cell?,hg,Nat.zero_add];simpa using hf
   · cases hf
theorem II{α:Type}{cells:α→List Value}{sz:Nat}(hsz:∀ x,(cells x).length=sz):∀ (xs:List α) (j:Nat) (hj:j<xs.length) (k:Nat) (hk:k<sz) (v:Value) (y:α),cells y=(cells xs[j]).set k v→(xs.set j y).flatMap cells=(xs.flatMap cells).set (CY sz j+k) v
 | x :: xs,0,_,k,hk,v,y,hy=>by
  rw[DN,Nat.zero_mul,Nat.zero_add]
  simp only[List.set_cons_zero,List.flatMap_cons]
  rw[List.set_append_left _ _ (by rw[hsz];exact hk),hy];rfl
 | x :: xs,j+1,hj,k,hk,v,y,hy=>by
  have ih:=II hsz xs j (by simpa using hj) k hk v y (by simpa using hy)
  rw[DN]at ih ⊢
  simp only[List.set_cons_succ,List.flatMap_cons]
  rw[List.set_append_right _ _ (by rw[hsz,Nat.succ_mul];omega),hsz,show(j+1)*sz+k - sz=j*sz+k from by rw[Nat.succ_mul];omega,ih]
theorem Sat.MG{α:Type}[Inhabited α]{A:AW}{w:World}(h:Sat A w){i base:Nat}{e:TypeId}{sz:Nat}{cells:α→List Value}{g n cap:Nat}{xs:List α}(hi:A.σ[i]? = some (Dn base e sz cells (.slice (some ⟨g,0,none⟩) n cap) xs))
   (hsz:∀ x,(cells x).length=sz) {j k:Nat} (hj:j<xs.length) (hk:k<sz) {v:Value} {y:α} (hy:cells y=(cells (gd xs j)).set k v) :
   w.cell? ⟨g,0+CY sz j+k,none⟩≠none∧w.frozen? ⟨g,0+CY sz j+k,none⟩=false∧Sat { A with σ:=A.σ.set i (Dn base e sz cells (.slice (some ⟨g,0,none⟩) n cap) (xs.set j y)) } (w.setCell ⟨g,0+CY sz j+k,none⟩ v):=by
 have hown:w.ownsRow base e sz (.slice (some ⟨g,0,none⟩) n cap) xs.length (xs.flatMap cells):=h.at hi
 have hcell:=DD (base:=base) (e:=e) (g:=g) (n:=n) (cap:=cap) hsz hj (k:=k) (v:=(cells (gd xs j))[k]'(by rw[hsz];exact hk)) (by simp) w (h.at hi)
 rcases hown.2 with⟨h1, -⟩ | ⟨g',cap',cur,h1,hb,hg,hnc,hcm,hcs,ht⟩
 · cases h1
 · cases h1
   refine⟨by rw[hcell];simp,by simp[World.frozen?,hg], ?_⟩
   refine h.put (w':=w.setCell ⟨g,0+CY sz j+k,none⟩ v) hi rfl (c':=Dn base e sz cells (.slice (some ⟨g,0,none⟩) xs.length cap) (xs.set j y)) rfl (Es _ _ _ _ _ _) rfl rfl rfl (by simp[World.setCell]) (fun q hq=>EJ w _ v q (fun e1=>hq (by simp[Dn,FB,Ch.F,Value.ownBlock,e1]))) ?_
   show(w.setCell ⟨g,0+CY sz j+k,none⟩ v).ownsRow base e sz (.slice (some ⟨g,0,none⟩) xs.length cap) (xs.set j y).length ((xs.set j y).flatMap cells)
   have hfs:=II hsz xs j hj k hk v y (by rw[←JR hj];exact hy)
   have hlen:=hown.1
   refine⟨by rw[hfs,List.length_set,List.length_set];exact hlen,.inr ⟨g,cap,cur.setIfInBounds (0+CY sz j+k) v,by rw[List.length_set],hb,En w ⟨g,0+CY sz j+k,none⟩ v cur e _ rfl hg,by rw[List.length_set];exact hnc,hcm,by simp[hcs], ?_⟩⟩
   rw[List.length_set,hfs,←ht]
   simp only[Nat.zero_add,Array.toList_setIfInBounds]
   have hlt:CY sz j+k<xs.length*sz:=by
     rw[DN]
     have:=Nat.mul_le_mul_right sz hj
     rw[Nat.succ_mul]at this;omega
   rw[List.take_set]
section
variable {P:Program}{N:Nat}{env:Env}{ds:List Deferred}{A:AW}{ops:Array Oper}{l:List Oper}{s:List Kt}{Q:Exit→Act→World→Prop}{c:Code}
theorem JV{α:Type}{base:Nat}{e:TypeId}{sz:Nat}{cells:α→List Value}{a:Option Addr}{n cap i:Nat}{xs:List α}{w:World}(hs:Sat A w)(hi:A.σ[i]? = some (Dn base e sz cells (.slice a n cap) xs))(hp:0<xs.length):∃ g,a=some ⟨g,0,none⟩∧base≤g:=by
 have hown:w.ownsRow base e sz (.slice a n cap) xs.length (xs.flatMap cells):=hs.at hi
 rcases hown.2 with⟨h1,h2⟩ | ⟨g,cap',cur,h1,hb, -⟩
 ·omega
 cases h1;exact⟨g,rfl,hb⟩
theorem L9{α:Type}{base:Nat}{e:TypeId}{sz:Nat}{cells:α→List Value}{a:Option Addr}{n cap:Nat}{xs:List α}(i:Nat)(hp:0<xs.length)(K:∀ g,a=some ⟨g,0,none⟩→base≤g→Lg P N env ds A ops l s Q)(hi:A.σ[i]? = some (Dn base e sz cells (.slice a n cap) xs):=by rfl):Lg P N env ds A ops l s Q:=fun a w hs=>by
 obtain⟨g,hg,hb⟩:=JV hs.mem hi hp
 exact K g hg hb a w hs
def KR(P:Program)(N:Nat)(ops:Array Oper)(env:Env)(o:Oper):Option (Nat×Nat×Value):=match o.op,EO ops env o,Ea env o,Fv N o.dst with
 | .store t a x,some true,true,true=>match CV env a,scalar (CV env x),P.info? t with
  | .pointer (some ⟨b,k,none⟩),true,some f=>match Nat.beq f.size 1 with
   | true=>some (b,k,CV env x)
   | false=>none
  | _,_,_=>none
 | _,_,_,_=>none
theorem Ji{v:Value}(h:scalar v=true):v.cells = #[v]:=by cases v <;> first | rfl | cases h
theorem KZ{o:Oper}{b k:Nat}{v:Value}(h:KR P N ops env o=some (b,k,v)){a:Act}{w:World}(hst:St N env ds A a w)(hc:w.cell? ⟨b,k,none⟩≠none)(hf:w.frozen? ⟨b,k,none⟩=false) :
   Region.wanted o (yielded ops a.tmps)=true∧Fv N o.dst=true∧(execOp a.eval o).run P w = .ok .skip (w.setCell ⟨b,k,none⟩ v):=by
 unfold KR at h
 split at h
 · rename_i t x y hop hw hk hd
   split at h
   · rename_i b' k' f hx hsc hf'
     split at h
     · rename_i hsz
       simp only[Option.some.injEq,Prod.mk.injEq]at h
       obtain⟨rfl,rfl,rfl⟩:=h
       refine⟨CO hw hst,hd, ?_⟩
       rw[Dy hst hk]
       obtain⟨x0,hx0⟩:=Option.ne_none_iff_exists'.1 hc
       have hsz':=Nat.eq_of_beq_eq_true hsz
       have hstore:=run_store (P:=P) (m:= .plain) (k:=(Sem.pure ():Sem Unit)) hsc hx0 hf
       unfold execOp
       simp only[hop,hx]
       simp[Instr.storeAt,Instr.sureAddr,storeVar,Ji hsc,sizeOf,typeInfo,program,Sem.run,hf',hsz',storeCells,EE,store,hstore]
     · cases h
   · cases h
 · cases h
theorem DY{α:Type}[Inhabited α](i j k:Nat)(xs:List α)(y:α)(cells:α→List Value)(base:Nat)(e:TypeId)(sz g n cap:Nat)(v:Value)(d:Option Nat)
   (hj:j<xs.length) (hy:cells y=(cells (gd xs j)).set k v) (K:Lg P N (DT env d undef) ds { A with σ:=A.σ.set i (Dn base e sz cells (.slice (some ⟨g,0,none⟩) n cap) (xs.set j y)) } ops (l.drop 1) s Q)
   (h:(match l with | o :: _=>(KR P N ops env o).map (fun x=>(x,o.dst)) | []=>none)=some ((g,0+CY sz j+k,v),d):=by as_aux_lemma=>kernel_rfl) (hi:A.σ[i]? = some (Dn base e sz cells (.slice (some ⟨g,0,none⟩) n cap) xs):=by rfl) (hsz:∀ x,(cells x).length=sz:=by intro _;rfl) (hk:k<sz:=by decide):Lg P N env ds A ops l s Q:=by
 intro a w hst
 cases l with
 | nil=>cases h
 | cons o l =>
   simp only[Option.map_eq_some_iff]at h
   obtain⟨q,hq,h⟩:=h
   simp only[Prod.mk.injEq]at h
   obtain⟨rfl,rfl⟩:=h
   obtain⟨h1,h2,hs'⟩:=hst.mem.MG hi hsz hj hk hy
   obtain⟨hw,hd,hr⟩:=KZ hq hst h1 h2
   refine Ef hw (.inr ⟨hr,rfl⟩) ?_
   exact K _ _ (hst.put hs' _ hd _)
end
theorem Sat.conv{A:AW}{w:World}(h:Sat A w){i:Nat}{c c':Ch}(hi:A.σ[i]? = some c)(hk:c'.key=c.key)(hh:c.holds w→c'.holds w)(hst:c'.stable):Sat { A with σ:=A.σ.set i c' } w:=by
 have hlt:i<A.σ.length:=(List.getElem?_eq_some_iff.1 hi).1
 have hci:A.σ[i]=c:=(List.getElem?_eq_some_iff.1 hi).2
 have hin:∀ d∈A.σ.set i c',d∈A.σ∨d=c':=fun d hd=>List.mem_or_eq_of_mem_set hd
 have hcm:c∈A.σ:=List.mem_of_getElem? hi
 refine⟨h.os,h.tape,h.output,h.size,fun d hd => ?_,fun d hd b hb => ?_,fun d hd => ?_, ?_⟩
 ·rcases hin d hd with hd | rfl
  ·exact h.all d hd
  exact hh (h.all c hcm)
 ·rcases hin d hd with hd | rfl
  ·exact h.bnd d hd b hb
  have hF:d.F=c.F:=congrArg Prod.fst hk
  rw[hF]at hb
  exact h.bnd c hcm b hb
 ·rcases hin d hd with hd | rfl
  ·exact h.Et d hd
  exact hst
 show((A.σ.set i c').map Ch.key).Pairwise Key.apart
 have:(A.σ.set i c').map Ch.key=A.σ.map Ch.key:=by
  rw[List.map_set,hk,←hci,←List.getElem_map (f:=Ch.key) (h:=by simpa using hlt),List.set_getElem_self]
 rw[this];exact h.EN
theorem Sat.MI{α:Type}{A:AW}{w:World}(h:Sat A w){i b base:Nat}{e:TypeId}{sz:Nat}{cells:α→List Value}{xs:List α}{cs:Array Value}(hi:A.σ[i]? = some (.blk b (.cells cs e (0,0)) true))(hx:xs.flatMap cells=cs.toList)(hl:cs.size=xs.length*sz)(hb:base≤b)(hm:xs.length≤maxLen):Sat { A with σ:=A.σ.set i (Dn base e sz cells (.slice (some ⟨b,0,none⟩) xs.length xs.length) xs) } w:=by
 refine h.conv hi ?_ (fun hw => ?_) (Es _ _ _ _ _ _)
 ·show(_,true)=(_,true)
  congr 1
  funext k
  apply propext
  show some b=some k↔k=b
  exact⟨fun e=>(Option.some.inj e).symm,fun e=>by rw[e]⟩
 have hw':w.heap[b]? = some (.cells cs e (0,0)):=hw
 show w.ownsRow base e sz (.slice (some ⟨b,0,none⟩) xs.length xs.length) xs.length (xs.flatMap cells)
 refine⟨by rw[hx];simpa using hl,.inr ⟨b,xs.length,cs,rfl,hb,hw',Nat.le_refl _,hm,hl, ?_⟩⟩
 rw[hx]
 exact List.take_of_length_le (Nat.le_of_eq (by rw[←hl,Array.length_toList]))
theorem Sat.grow{A:AW}{w w':World}(h:Sat A w){i:Nat}{c c':Ch}(hi:A.σ[i]? = some c)(hrw:c.rw=true)(hrw':c'.rw=true)(hk:Af c.F w w')(hh:c'.holds w')(hst:c'.stable)
   (hF:∀ b,c'.F b→c.F b∨b=w.heap.size) (hb:∀ b,c'.F b→b<w'.heap.size):Sat { A with n:=w'.heap.size,σ:=A.σ.set i c' } w':=by
 obtain⟨hlt,hix⟩:=List.getElem?_eq_some_iff.1 hi
 have hsize:A.n≤w'.heap.size:=by have:=hk.size;rw[h.size]at this;exact this
 have hap:∀ j d,j≠i→A.σ[j]? = some d→∀ b,d.F b→¬ c.F b:=by
   intro j d hji hj b hd hb
   exact Fj h.EN (i:=i) (j:=j) (by rw[List.getElem?_map,hi];rfl) (by rw[List.getElem?_map,hj];rfl) (Ne.symm hji) hrw b hb hd
 refine⟨hk.os.trans h.os,hk.tape.trans h.tape,hk.output.trans h.output,rfl, ?_, ?_, ?_, ?_⟩
 · intro d hd
   obtain⟨j,hj⟩:=List.getElem?_of_mem hd
   by_cases hij:i=j
   · subst hij;rw[List.getElem?_set_self hlt]at hj;cases hj;exact hh
   · rw[List.getElem?_set_ne hij]at hj
     have hm:=List.mem_of_getElem? hj
     exact h.Et d hm w w' (fun b hbd=>hk.block b (by rw[h.size];exact h.bnd d hm b hbd) (hap j d (Ne.symm hij) hj b hbd)) (h.all d hm)
 · intro d hd b hbd
   show b<w'.heap.size
   rcases List.mem_or_eq_of_mem_set hd with hd | rfl
   · have:=h.bnd d hd b hbd;omega
   · exact hb b hbd
 · intro d hd
   rcases List.mem_or_eq_of_mem_set hd with hd | rfl
   · exact h.Et d hd
   · exact hst
 · show((A.σ.set i _).map Ch.key).Pairwise Key.apart
   rw[List.map_set,List.pairwise_iff_getElem]
   intro p q hp hq hpq
   simp only[List.length_set,List.length_map]at hp hq
   have key:∀ j (hj:j<A.σ.length),j≠i→Key.apart (Ch.key c') (Ch.key A.σ[j]):=by
     intro j hj hji _ b hbc hd
     have hjs:A.σ[j]? = some A.σ[j]:=by simp[hj]
     rcases hF b hbc with e1 | e1
     · exact hap j _ hji hjs b hd e1
     · have:=h.bnd _ (List.mem_of_getElem? hjs) b hd
       rw[←h.size]at this;omega
   simp only[List.getElem_set,List.getElem_map]
   by_cases h1:i=p
   · subst h1
     rw[if_pos rfl,if_neg (by omega)]
     exact key q hq (by omega)
   · rw[if_neg h1]
     by_cases h2:i=q
     · subst h2;rw[if_pos rfl];exact Key.EQ (key p hp (by omega))
     · rw[if_neg h2]
       exact FM h.EN (i:=p) (j:=q) (by simp[hp]) (by simp[hq]) (by omega)
structure KH{α:Type}(cells:α→List Value)(w:World)(hd:Sl α):Prop where
 len:hd.xs.length≤140737488351232
 le:hd.xs.length≤hd.cap
 cells:hd.xs≠[]→∃ g,hd.a=some ⟨g,0,none⟩∧g<w.heap.size∧∀ (j:Nat) (u:Value),(hd.xs.flatMap cells)[j]? = some u→w.cell? ⟨g,j,none⟩=some u
theorem MP{α:Type}{hd:Sl α}{g:Nat}(h:hd.a=some ⟨g,0,none⟩):hd.val.ownBlock=some g:=by
 obtain⟨a,cap,xs⟩:=hd;simp only at h;subst h;rfl
theorem KH.same{α:Type}{cells:α→List Value}{w w':World}{hd:Sl α}(h:KH cells w hd)(hb:∀ b,hd.val.ownBlock=some b→w'.heap[b]? = w.heap[b]?):KH cells w' hd :=
 ⟨h.len,h.le,fun hne=>by
  obtain⟨g,ha,hlt,hc⟩:=h.cells hne
  have hbg:=hb g (MP ha)
  refine⟨g,ha, ?_,fun j u hu => ?_⟩
  ·rcases Nat.lt_or_ge g w'.heap.size with h1 | h1
   ·exact h1
   rw[Array.getElem?_eq_none h1,Array.getElem?_eq_getElem hlt]at hbg;cases hbg
  rw[←hc j u hu]
  simp only[World.cell?,hbg]⟩
theorem Lr{α:Type}{cells:α→List Value}{sz base:Nat}{e:TypeId}{F:Nat→Prop}{w:World}{a:Option Addr}{cap:Nat}{xs:List α}(hsz:∀ x,(cells x).length=sz)(h:w.ownsRow base e sz (.slice a xs.length cap) xs.length (xs.flatMap cells))(hl:xs.length≤140737488351232)(hF:∀ b,(Value.slice a xs.length cap).ownBlock=some b→F b):GR cells sz F w ⟨a,cap,xs⟩:=by
 have:=MH hsz h hl
 refine⟨this.len,this.le,fun hne => ?_⟩
 obtain⟨b,off,ha,hb,hc⟩:=this.cells hne
 exact⟨b,off,ha,hF b (by simp only at ha;subst ha;rfl),hc⟩
theorem Ju{α:Type}{cells:α→List Value}{sz:Nat}(hsz:∀ x,(cells x).length=sz):∀ (ys:List α) (j:Nat) (u:Value),(ys.flatMap cells)[j]? = some u→∃ i k,j=i*sz+k∧∃ h:i<ys.length,(cells ys[i])[k]? = some u
 | [],j,u,h=>by simp at h
 | y :: ys,j,u,h=>by
  rw[List.flatMap_cons]at h
  by_cases hj:j<(cells y).length
  ·rw[List.getElem?_append_left hj]at h
   exact⟨0,j,by omega,by simp,h⟩
  rw[List.getElem?_append_right (by omega),hsz]at h
  obtain⟨i,k,e,hi,hu⟩:=Ju hsz ys _ u h
  rw[hsz]at hj
  exact⟨i+1,k,by rw[Nat.succ_mul];omega,by simpa using hi,by simpa using hu⟩
theorem LH{α:Type}{cells:α→List Value}{sz:Nat}{F:Nat→Prop}{W:World}{s:Sl α}(hsz:∀ x,(cells x).length=sz)(h:GR cells sz F W s){b off:Nat}(ha:s.a=some ⟨b,off,none⟩):∀ j u,(s.xs.flatMap cells)[j]? = some u→W.cell? ((⟨b,off,none⟩:Addr).add j)=some u:=by
 intro j u hu
 obtain⟨i,k,rfl,hi,hc⟩:=Ju hsz s.xs j u hu
 obtain⟨b',off',ha', -,hh⟩:=h.cells (fun e=>by rw[e]at hi;simp at hi)
 rw[ha]at ha'
 simp only[Option.some.injEq,Addr.mk.injEq,and_true]at ha'
 obtain⟨rfl,rfl⟩:=ha'
 have:=hh i hi k u hc
 have e1:(⟨b,off,none⟩:Addr).add (i*sz+k)=⟨b,off+CY sz i+k,none⟩:=by rw[EE rfl,DN,Nat.add_assoc]
 rw[e1];exact this
section
variable {P:Program}{N:Nat}{env:Env}{ds:List Deferred}{A:AW}{ops:Array Oper}{l:List Oper}{s:List Kt}{Q:Exit→Act→World→Prop}{c:Code}
theorem F8{w:World}{t ty e:TypeId}{f:TypeInfo}{a ya:Option Addr}{n cap cp:Nat}(ht:P.underlying t=some (.slice e))(hf:P.info? e=some f)(hn:n≤cap):(Builtin.append_ #[t,t] ty #[.slice a n cap,.slice ya 0 cp]).run P w = .ok (.slice a n cap) w:=by
 cases a <;> cases ya <;> simp[Builtin.append_,run_underlying ht,sizeOf,typeInfo,hf,Builtin.lenOf,Builtin.firstCells,loadCells,loadCellsFrom,hn,storeCells]
def KW(P:Program)(N:Nat)(ops:Array Oper)(env:Env)(o:Oper):Option (TypeId×Nat×Nat×Value×Option Addr×Nat×Nat):=match JK o,EO ops env o,Ea env o,Fv N o.dst with
 | some (x,y,t,u),some true,true,true=>match Nat.beq t u,P.underlying t,CV env y with
  | true,some (.slice e),.slice ad m cp=>match P.info? e with
   | some f=>match f.zero with
    | some z=>match Nat.beq z.cells.size f.size&&Nat.blt 0 f.size with
     | true=>some (e,f.size,f.bytes,CV env x,ad,m,cp)
     | false=>none
    | none=>none
   | none=>none
  | _,_,_=>none
 | _,_,_,_=>none
theorem KO{α:Type}{base:Nat}{o:Oper}{e:TypeId}{sz by':Nat}{v:Value}{ya:Option Addr}{m cp:Nat}(h:KW P N ops env o=some (e,sz,by',v,ya,m,cp)){i:Nat}{cells:α→List Value}{xs ys:List α}{a:Act}{w:World}(hst:St N env ds A a w)
   (hi:A.σ[i]? = some (Dn base e sz cells v xs)) (hsz:∀ x,(cells x).length=sz) (h1:∀ x,∀ u∈cells x,u.oneCell'=true) (hd:GR cells sz Any w ⟨ya,cp,ys⟩) (hm:ys.length=m) (h63:xs.length+m≤maxLen) (hb:(xs.length+m)*by'≤140737488355328) (hbase:base≤A.n) :
   Region.wanted o (yielded ops a.tmps)=true∧Fv N o.dst=true∧∃ a' cap' w',(execOp a.eval o).run P w = .ok (.value (.slice a' (xs++ys).length cap')) w'∧A.n≤w'.heap.size∧Sat { A with n:=w'.heap.size,σ:=A.σ.set i (Dn base e sz cells (.slice a' (xs++ys).length cap') (xs++ys)) } w':=by
 unfold KW at h
 split at h
 · rename_i x y t u hop0 hw hk hd0
   have hop:=JJ hop0
   split at h
   · rename_i e' ad' m' cp' htu ht hy
     split at h
     · rename_i f' hf
       split at h
       · rename_i z' hz
         split at h
         · rename_i hzz
           simp only[Option.some.injEq,Prod.mk.injEq]at h
           obtain⟨rfl,rfl,rfl,rfl,rfl,rfl,rfl⟩:=h
           have htu':=Nat.eq_of_beq_eq_true htu
           subst htu'
           rw[Bool.and_eq_true]at hzz
           refine⟨CO hw hst,hd0, ?_⟩
           rw[Dy hst hk]
           by_cases h0:ys=[]
           · subst h0
             have hm0:m'=0:=by simpa using hm.symm
             subst hm0
             have hown:w.ownsRow base e' f'.size (CV env x) xs.length (xs.flatMap cells):=hst.mem.at hi
             have hle:∃ a0 cap0,CV env x = .slice a0 xs.length cap0∧xs.length≤cap0:=by
               rcases hown.2 with⟨e1,e2⟩ | ⟨g,cap,cur,e1, -, -,hnc, -⟩
               · exact⟨none,0,by rw[e1,e2],by omega⟩
               · exact⟨_,cap,e1,hnc⟩
             obtain⟨a0,cap0,hx,hnc⟩:=hle
             refine⟨a0,cap0,w, ?_,by rw[hst.mem.size];exact Nat.le_refl _, ?_⟩
             · unfold execOp
               simp only[hop,resolve,invoke,builtin,Sem.run_bind,Sem.run_pure,Result.andThen_ok,List.map_toArray,List.map_cons,List.map_nil,hy,hx,F8 ht hf hnc,List.append_nil]
             · rw[List.append_nil,←hx,hst.mem.size]
               have hset:A.σ.set i (Dn base e' f'.size cells (CV env x) xs)=A.σ:=by
                 obtain⟨hlt,hix⟩:=List.getElem?_eq_some_iff.1 hi
                 rw[←hix,List.set_getElem_self]
               rw[hset];exact hst.mem
           · obtain⟨b,off,ha, -, -⟩:=hd.cells h0
             simp only at ha
             subst ha
             obtain⟨a',cap',w',hr,hsize,hs'⟩:=JQ (ρ:=CV env) (news:=ys.flatMap cells) hop ht hf hz (Nat.eq_of_beq_eq_true hzz.1) (by simpa using hzz.2) hi rfl hy (by
               rw[←hm]
               have:∀ zs:List α,(zs.flatMap cells).length=zs.length*f'.size:=by
                 intro zs
                 induction zs with
                 | nil=>simp
                 | cons z zs ih=>rw[List.flatMap_cons,List.length_append,hsz,ih,List.length_cons,Nat.succ_mul];omega
               exact this ys) (fun u hu=>by
               obtain⟨q, -,hq⟩:=List.mem_flatMap.1 hu
               exact h1 q u hq) hst.mem (LH hsz hd rfl) h63 hb hbase
             subst hm
             rw[JZ,←List.length_append]at hs'
             rw[←List.length_append]at hr
             exact⟨a',cap',w',hr,hsize,hs'⟩
         · cases h
       · cases h
     · cases h
   · cases h
 · cases h
theorem L6{α:Type}(base i k:Nat)(xs ys:List α)(ya:Option Addr)(cells:α→List Value)(e:TypeId)(sz by':Nat)(v:Value)(m cp:Nat)(c0:Ch)(d:Option Nat)(h63:xs.length+ys.length≤1000000000000)(hbase:base≤A.n)(hd:∀ w',c0.holds w'→GR cells sz Any w' ⟨ya,cp,ys⟩)
   (K:∀ a' cap' n',A.n≤n'→Lg P N (DT env d (.slice a' (xs++ys).length cap')) ds { A with n:=n',σ:=A.σ.set i (Dn base e sz cells (.slice a' (xs++ys).length cap') (xs++ys)) } ops (l.drop 1) s Q)
   (hm:ys.length=m:=by rfl) (h:(match l with | o :: _=>(KW P N ops env o).map (fun x=>(x,o.dst)) | []=>none)=some ((e,sz,by',v,ya,m,cp),d):=by as_aux_lemma=>kernel_rfl) (hi:A.σ[i]? = some (Dn base e sz cells v xs):=by rfl) (hk:A.σ[k]? = some c0:=by rfl) (hsz:∀ x,(cells x).length=sz:=by intro _;rfl) (h1:∀ x,(cells x).all Value.oneCell'=true:=by intro _;rfl) (hb:Nat.ble by' 140=true:=by as_aux_lemma=>kernel_rfl):Lg P N env ds A ops l s Q:=by
 intro a w hst
 have hb':=Nat.le_of_ble_eq_true hb
 have h64:xs.length+m≤1000000000000:=by omega
 cases l with
 | nil=>cases h
 | cons o l =>
   simp only[Option.map_eq_some_iff]at h
   obtain⟨y,hy,h⟩:=h
   simp only[Prod.mk.injEq]at h
   obtain⟨rfl,rfl⟩:=h
   obtain⟨hw,hdst,a',cap',w',hr,hsz',hs'⟩:=KO (xs:=xs) (ys:=ys) hy hst hi hsz (fun x u hu=>List.all_eq_true.1 (h1 x) u hu) (hd w (hst.mem.at hk)) hm (by unfold maxLen;omega) (Nat.le_trans (Nat.mul_le_mul h64 hb') (by decide)) hbase
   refine Ef hw (.inl hr) ?_
   exact K a' cap' _ hsz' _ _ (hst.put hs' _ hdst _)
end
theorem Iz{z:Array Value}(hz:0<z.size):∀ (n:Nat),(madeCells z (n*z.size)).toList=(List.replicate n z.toList).flatten
 | 0=>by simp[madeCells]
 | n+1=>by
  have ih:=Iz hz n
  rw[Nat.succ_mul]
  simp only[madeCells,Array.toList_map,Array.toList_range]at ih ⊢
  rw[List.range_add,List.map_append,ih,List.replicate_succ',List.flatten_append]
  congr 1
  rw[List.map_map]
  apply List.ext_getElem (by simp)
  intro i h1 h2
  have h1':i<z.size:=by simpa using h1
  have e1:(n*z.size+i) % z.size=i:=by rw[Nat.add_comm,Nat.add_mul_mod_self_right,Nat.mod_eq_of_lt h1']
  simp[e1,h1']
theorem IL{α:Type}{cells:α→List Value}{zt:α}:∀ (n:Nat),(List.replicate n (cells zt)).flatten=(List.replicate n zt).flatMap cells
 | 0=>rfl
 | n+1=>by rw[List.replicate_succ,List.replicate_succ,List.flatten_cons,List.flatMap_cons,IL n]
section
variable {P:Program}{N:Nat}{env:Env}{ds:List Deferred}{A:AW}{ops:Array Oper}{l:List Oper}{s:List Kt}{Q:Exit→Act→World→Prop}
def JG(P:Program)(N:Nat)(ops:Array Oper)(env:Env)(o:Oper):Option (TypeId×Nat×Nat×Value×Int×Int):=match o.op,EO ops env o,Ea env o,Fv N o.dst with
 | .makeSlice t x y,some true,true,true=>match P.underlying t,CV env x,CV env y with
  | some (.slice e),.int _ i,.int _ j=>match P.info? e with
   | some f=>match f.zero with
    | some z=>match Nat.beq z.cells.size f.size&&Nat.blt 0 f.size with
     | true=>some (e,f.size,f.bytes,z,i,j)
     | false=>none
    | none=>none
   | none=>none
  | _,_,_=>none
 | _,_,_,_=>none
theorem Kv{α:Type}{base:Nat}{o:Oper}{e:TypeId}{sz by':Nat}{z:Value}{i j:Int}(h:JG P N ops env o=some (e,sz,by',z,i,j)){n:Nat}{zt:α}{cells:α→List Value}(hi:i=(n:Int))(hj:j=(n:Int))(hz:z.cells.toList=cells zt)(hn:by' * n≤281474976710656)(hm:n≤maxLen)(hbase:base≤A.n){a:Act}{w:World}(hst:St N env ds A a w) :
   Region.wanted o (yielded ops a.tmps)=true∧Fv N o.dst=true∧∃ w',(execOp a.eval o).run P w = .ok (.value (.slice (some ⟨A.n,0,none⟩) n n)) w'∧A.n+1≤w'.heap.size∧Sat { A with n:=w'.heap.size,σ:=A.σ++[Dn base e sz cells (.slice (some ⟨A.n,0,none⟩) n n) (List.replicate n zt)] } w':=by
 unfold JG at h
 split at h
 · rename_i t x y hop hw hk hd
   split at h
   · rename_i e' k1 i' k2 j' ht hx hy
     split at h
     · rename_i f hf
       split at h
       · rename_i z' hz'
         split at h
         · rename_i hsz
           simp only[Option.some.injEq,Prod.mk.injEq]at h
           obtain⟨rfl,rfl,rfl,rfl,rfl,rfl⟩:=h
           rw[Bool.and_eq_true]at hsz
           have hs1:=Nat.eq_of_beq_eq_true hsz.1
           subst hi hj
           refine⟨CO hw hst,hd, ?_⟩
           rw[Dy hst hk]
           obtain⟨w',hr,ho,hg⟩:=run_make_full (P:=P) w base t e' f z' f.size ht hf hz' rfl k1 k2 n hn hm (by rw[hst.mem.size];exact hbase)
           rw[hst.mem.size]at hr ho
           have hkp:Af (fun _=>False) w w':=by
             have:=Af.of_grownBy hg
             exact⟨this.os,this.tape,this.output,this.size,fun k hk _=>this.block k hk (by simp)⟩
           have hlt:A.n<w'.heap.size:=by
             rcases ho.2 with⟨h1, -⟩ | ⟨g,cap,cur,h1, -,h2, -⟩
             · cases h1
             · cases h1;exact(Array.getElem?_eq_some_iff.1 h2).1
           rw[←hs1,Iz (by rw[hs1];simpa using hsz.2),hz,IL,hs1]at ho
           refine⟨w',by simp[execOp,hop,hx,hy,hr,Sem.run,Result.andThen],hlt, ?_⟩
           refine hst.mem.IE hkp (Dn base e' f.size cells _ (List.replicate n zt)) ?_ (Es _ _ _ _ _ _) ?_
           · show w'.ownsRow base e' f.size _ (List.replicate n zt).length _
             rw[List.length_replicate];exact ho
           · intro b hb
             have hb':some A.n=some b:=hb
             cases hb'
             exact⟨Nat.le_refl _,hlt⟩
         · cases h
       · cases h
     · cases h
   · cases h
 · cases h
theorem MJ{α:Type}(base n:Nat)(zt:α)(cells:α→List Value)(e:TypeId)(sz by':Nat)(z:Value)(i j:Int)(d:Option Nat)(hi:i=(n:Int))(hj:j=(n:Int))(hn:n≤1000000000000)(hbase:base≤A.n)
   (K:∀ n',A.n+1≤n'→Lg P N (DT env d (.slice (some ⟨A.n,0,none⟩) n n)) ds { A with n:=n',σ:=A.σ++[Dn base e sz cells (.slice (some ⟨A.n,0,none⟩) n n) (List.replicate n zt)] } ops (l.drop 1) s Q)
   (h:(match l with | o :: _=>(JG P N ops env o).map (fun x=>(x,o.dst)) | []=>none)=some ((e,sz,by',z,i,j),d):=by as_aux_lemma=>kernel_rfl) (hz:z.cells.toList=cells zt:=by rfl) (hb:Nat.ble by' 140=true:=by as_aux_lemma=>kernel_rfl):Lg P N env ds A ops l s Q:=by
 intro a w hst
 have hb':=Nat.le_of_ble_eq_true hb
 cases l with
 | nil=>cases h
 | cons o l =>
   simp only[Option.map_eq_some_iff]at h
   obtain⟨y,hy,h⟩:=h
   simp only[Prod.mk.injEq]at h
   obtain⟨rfl,rfl⟩:=h
   obtain⟨hw,hd,w',hr,hsz,hs'⟩:=Kv hy hi hj hz (Nat.le_trans (Nat.mul_le_mul hb' hn) (by decide)) (by unfold maxLen;omega) hbase hst
   refine Ef hw (.inl hr) ?_
   exact K _ hsz _ _ (hst.put hs' _ hd _)
end
theorem Sat.two{A:AW}{w:World}(h:Sat A w){i j:Nat}{c d:Ch}(hi:A.σ[i]? = some c)(hj:A.σ[j]? = some d)(hne:i≠j)(hr:c.rw=true):∀ b,c.F b→¬ d.F b :=
 fun b hcb hdb=>Fj h.EN (i:=i) (j:=j) (by rw[List.getElem?_map,hi];rfl) (by rw[List.getElem?_map,hj];rfl) hne hr b hcb hdb
open Go Go.Lib Go.Proofs.YtjdkigkknhefpaaDoor.Mem
theorem Sat.I8{A:AW}{w w':World}(h:Sat A w){i:Nat}{c c':Ch}(hi:A.σ[i]? = some c)(hrw:c.rw=true)(hrw':c'.rw=true)(hk:Af c.F w w')(hh:c'.holds w')(hst:c'.stable)
   (hF:∀ b,c'.F b→c.F b∨w.heap.size≤b) (hb:∀ b,c'.F b→b<w'.heap.size):Sat { A with n:=w'.heap.size,σ:=A.σ.set i c' } w':=by
 obtain⟨hlt,hix⟩:=List.getElem?_eq_some_iff.1 hi
 have hsize:A.n≤w'.heap.size:=by have:=hk.size;rw[h.size]at this;exact this
 have hap:∀ j d,j≠i→A.σ[j]? = some d→∀ b,d.F b→¬ c.F b:=by
   intro j d hji hj b hd hb
   exact Fj h.EN (i:=i) (j:=j) (by rw[List.getElem?_map,hi];rfl) (by rw[List.getElem?_map,hj];rfl) (Ne.symm hji) hrw b hb hd
 refine⟨hk.os.trans h.os,hk.tape.trans h.tape,hk.output.trans h.output,rfl, ?_, ?_, ?_, ?_⟩
 · intro d hd
   obtain⟨j,hj⟩:=List.getElem?_of_mem hd
   by_cases hij:i=j
   · subst hij;rw[List.getElem?_set_self hlt]at hj;cases hj;exact hh
   · rw[List.getElem?_set_ne hij]at hj
     have hm:=List.mem_of_getElem? hj
     exact h.Et d hm w w' (fun b hbd=>hk.block b (by rw[h.size];exact h.bnd d hm b hbd) (hap j d (Ne.symm hij) hj b hbd)) (h.all d hm)
 · intro d hd b hbd
   show b<w'.heap.size
   rcases List.mem_or_eq_of_mem_set hd with hd | rfl
   · have:=h.bnd d hd b hbd;omega
   · exact hb b hbd
 · intro d hd
   rcases List.mem_or_eq_of_mem_set hd with hd | rfl
   · exact h.Et d hd
   · exact hst
 · show((A.σ.set i _).map Ch.key).Pairwise Key.apart
   rw[List.map_set,List.pairwise_iff_getElem]
   intro p q hp hq hpq
   simp only[List.length_set,List.length_map]at hp hq
   have key:∀ j (hj:j<A.σ.length),j≠i→Key.apart (Ch.key c') (Ch.key A.σ[j]):=by
     intro j hj hji _ b hbc hd
     have hjs:A.σ[j]? = some A.σ[j]:=by simp[hj]
     rcases hF b hbc with e1 | e1
     · exact hap j _ hji hjs b hd e1
     · have:=h.bnd _ (List.mem_of_getElem? hjs) b hd
       rw[←h.size]at this;omega
   simp only[List.getElem_set,List.getElem_map]
   by_cases h1:i=p
   · subst h1
     rw[if_pos rfl,if_neg (by omega)]
     exact key q hq (by omega)
   · rw[if_neg h1]
     by_cases h2:i=q
     · subst h2;rw[if_pos rfl];exact Key.EQ (key p hp (by omega))
     · rw[if_neg h2]
       exact FM h.EN (i:=p) (j:=q) (by simp[hp]) (by simp[hq]) (by omega)
section
variable {P:Program}{N:Nat}{env:Env}{ds:List Deferred}{A:AW}{ops:Array Oper}{l:List Oper}{s:List Kt}{Q:Exit→Act→World→Prop}{c:Code}
theorem KE{α:Type}(i b base:Nat)(e:TypeId)(sz:Nat)(cells:α→List Value)(xs:List α)(cs:Array Value)(hb:base≤b)(K:Lg P N env ds { A with σ:=A.σ.set i (Dn base e sz cells (.slice (some ⟨b,0,none⟩) xs.length xs.length) xs) } ops l s Q)(hi:A.σ[i]? = some (.blk b (.cells cs e (0,0)) true):=by rfl)(hx:xs.flatMap cells=cs.toList:=by rfl)(hl:cs.size=xs.length*sz:=by rfl)(hm:Nat.ble xs.length 1000=true:=by rfl):Lg P N env ds A ops l s Q :=
 fun a w hst=>K a w ⟨hst.sz,hst.df,hst.kn,hst.mem.MI hi hx hl hb (Nat.le_trans (Nat.le_of_ble_eq_true hm) (by decide))⟩
end
theorem Cs.ext{σC:List Ch}{W w:World}(h:Cs σC w)(hi:σC[0]? = some (A8 W)):Ext Any W w:=fun b k v _ hv=>BQ hv w (h _ (List.mem_of_getElem? hi))
section
variable {P:Program}{N:Nat}{env:Env}{ds:List Deferred}{A:AW}{s:List Kt}{Q:Exit→Act→World→Prop}
theorem FQ{c:Code}(n:Nat)(h:G P N env ds A c (.inv (Code.rounds P c (QQ P s Q) n) :: s) Q):G P N env ds A (.loop c) s Q :=
 fun a w hs=>wp_loop_rounds (n+1) (h a w hs)
theorem AB{c:Code}{n:Nat}(h:G P N env ds A c (.inv (Code.rounds P c (QQ P s Q) n) :: s) Q):E P N env ds A .normal (.inv (Code.rounds P c (QQ P s Q) (n+1)) :: s) Q :=
 fun a w hs=>h a w hs
end
end Go.Proofs.YtjdkigkknhefpaaDoor.Eng
namespace Go.Proofs.YtjdkigkknhefpaaDoor.Sh
open Go.RowKit Go.Proofs.YtjdkigkknhefpaaDoor.Mem
set_option linter.unusedSimpArgs false
set_option linter.unusedVariables false
structure DU(w w':World):Prop where
 heap:w'.heap=w.heap
 os:w'.os=w.os
 tape:w'.tape=w.tape
 output:w'.output=w.output
theorem DU.refl(w:World):DU w w:=⟨rfl,rfl,rfl,rfl⟩
def np(p:Option Nat):Value:= .pointer (p.map fun b=>⟨b,0,none⟩)
theorem Eb:np none = .pointer none:=rfl
theorem Ec(b:Nat):np (some b) = .pointer (some ⟨b,0,none⟩):=rfl
def BC(w:World)(s n:Nat)(pe pl:Option Nat):World :=
 let w1:=match pe with | none=>w.setCell ⟨s,2,none⟩ (np pl) | some x=>w.setCell ⟨x,2,none⟩ (np pl)
 let w2:=match pl with | none=>w1.setCell ⟨s,3,none⟩ (np pe) | some y=>w1.setCell ⟨y,1,none⟩ (np pe)
 (w2.setCell ⟨n,1,none⟩ (.pointer none)).setCell ⟨n,2,none⟩ (.pointer none)
theorem Fa(w:World)(s n:Nat)(pe pl:Option Nat)(v2 v3:Value)
   (h2:w.cell? ⟨s,2,none⟩=some v2) (h3:w.cell? ⟨s,3,none⟩=some v3) (g2:w.frozen? ⟨s,2,none⟩=false) (g3:w.frozen? ⟨s,3,none⟩=false)
   (n1:w.cell? ⟨n,1,none⟩=some (np pe)) (n2:w.cell? ⟨n,2,none⟩=some (np pl)) (f1:w.frozen? ⟨n,1,none⟩=false) (f2:w.frozen? ⟨n,2,none⟩=false)
   (hne:s≠n) (hx:∀ x,pe=some x→x≠n∧(∃ v,w.cell? ⟨x,2,none⟩=some v)∧w.frozen? ⟨x,2,none⟩=false)
   (hy:∀ y,pl=some y→y≠n∧(∀ x,pe=some x→x≠y)∧(∃ v,w.cell? ⟨y,1,none⟩=some v)∧w.frozen? ⟨y,1,none⟩=false) :
   Calls Tryd.prog 81 #[.pointer (some ⟨s,0,none⟩),.pointer (some ⟨n,0,none⟩)] w fun e w'=>e = .returned (.tuple #[])∧DU (BC w s n pe pl) w':=by
 have hne':n≠s:=Ne.symm hne
 cases pe with
 | none =>
   cases pl with
   | none =>
     simp only[Eb]at n1 n2
     clear hx hy
     go_enter Tryd.func81,Tryd.ntmps81
     go_wp2
     go_end0
     exact⟨rfl,⟨rfl,rfl,rfl,rfl⟩⟩
   | some y =>
     obtain⟨yn, -,⟨vy,y1⟩,yf⟩:=hy y rfl
     have yn':=Ne.symm yn
     simp only[Eb,Ec]at n1 n2
     clear hx hy
     go_enter Tryd.func81,Tryd.ntmps81
     go_wp2
     go_region
     all_goals go_wp2
     all_goals go_end0
     all_goals exact⟨rfl,⟨rfl,rfl,rfl,rfl⟩⟩
 | some x =>
   obtain⟨xn,⟨vx,x1⟩,xf⟩:=hx x rfl
   have xn':=Ne.symm xn
   cases pl with
   | none =>
     simp only[Eb,Ec]at n1 n2
     clear hx hy
     go_enter Tryd.func81,Tryd.ntmps81
     go_wp2
     go_region
     all_goals go_wp2
     all_goals go_end0
     all_goals exact⟨rfl,⟨rfl,rfl,rfl,rfl⟩⟩
   | some y =>
     obtain⟨yn,xy,⟨vy,y1⟩,yf⟩:=hy y rfl
     have xy1:=xy x rfl
     have xy2:=Ne.symm xy1
     have yn':=Ne.symm yn
     simp only[Ec]at n1 n2
     clear hx hy xy
     go_enter Tryd.func81,Tryd.ntmps81
     go_wp2
     go_region
     all_goals go_wp2
     all_goals go_region
     all_goals go_wp2
     all_goals go_end0
     all_goals exact⟨rfl,⟨rfl,rfl,rfl,rfl⟩⟩
def appended(w:World)(s n:Nat)(pe:Option Nat):World :=
 let w1:=w.setCell ⟨n,1,none⟩ (np pe)
 let w2:=match pe with | none=>w1.setCell ⟨s,2,none⟩ (np (some n)) | some x=>w1.setCell ⟨x,2,none⟩ (np (some n))
 w2.setCell ⟨s,3,none⟩ (np (some n))
theorem Fz(w:World)(s n:Nat)(pe:Option Nat)(v1 v2:Value)
   (h2:w.cell? ⟨s,2,none⟩=some v2) (h3:w.cell? ⟨s,3,none⟩=some (np pe)) (g2:w.frozen? ⟨s,2,none⟩=false) (g3:w.frozen? ⟨s,3,none⟩=false)
   (n1:w.cell? ⟨n,1,none⟩=some v1) (f1:w.frozen? ⟨n,1,none⟩=false)
   (hne:s≠n) (hx:∀ x,pe=some x→x≠n∧x≠s∧(∃ v,w.cell? ⟨x,2,none⟩=some v)∧w.frozen? ⟨x,2,none⟩=false) :
   Calls Tryd.prog 82 #[.pointer (some ⟨s,0,none⟩),.pointer (some ⟨n,0,none⟩)] w fun e w'=>e = .returned (.tuple #[])∧DU (appended w s n pe) w':=by
 have hne':n≠s:=Ne.symm hne
 cases pe with
 | none =>
   simp only[Eb]at h3
   clear hx
   go_enter Tryd.func82,Tryd.ntmps82
   go_wp2
   go_end0
   exact⟨rfl,⟨rfl,rfl,rfl,rfl⟩⟩
 | some x =>
   obtain⟨xn,xs,⟨vx,x1⟩,xf⟩:=hx x rfl
   have xn':=Ne.symm xn
   have xs':=Ne.symm xs
   simp only[Ec]at h3
   clear hx
   go_enter Tryd.func82,Tryd.ntmps82
   go_wp2
   go_end0
   exact⟨rfl,⟨rfl,rfl,rfl,rfl⟩⟩
abbrev V:=Unit
def BU(k:Int)(_v:V)(e l:Value):Array Value:= #[.int .i64 k,e,l]
structure Node where
 b:Nat
 k:Int
 v:V
def BH(n:Node)(e l:Option Nat):Obj:= .cells (BU n.k n.v (np e) (np l)) 139 (0,0)
def first:List Node→Option Nat→Option Nat
 | [],q=>q
 | n :: _,_=>some n.b
theorem Bz(q:Option Nat):first [] q=q:=rfl
theorem Bo(n:Node)(ns:List Node)(q:Option Nat):first (n :: ns) q=some n.b:=rfl
def last:Option Nat→List Node→Option Nat
 | p,[]=>p
 | _,n :: ns=>last (some n.b) ns
def Chain(w:World):Option Nat→List Node→Option Nat→Prop
 | _,[],_=>True
 | p,n :: ns,q=>At w n.b (BH n p (first ns q))∧Chain w (some n.b) ns q
theorem BA(p:Option Nat)(xs:List Node)(x:Node):last p (xs++[x])=some x.b:=by
 induction xs generalizing p with
 | nil=>rfl
 | cons a xs ih=>exact ih _
theorem Eg(p:Option Nat)(xs ys:List Node):last p (xs++ys)=last (last p xs) ys:=by
 induction xs generalizing p with
 | nil=>rfl
 | cons a xs ih=>exact ih _
theorem DW(xs ys:List Node)(q:Option Nat):first (xs++ys) q=first xs (first ys q):=by cases xs <;> rfl
theorem BD{w:World}{p q:Option Nat}{xs ys:List Node}:Chain w p (xs++ys) q↔Chain w p xs (first ys q)∧Chain w (last p xs) ys q:=by
 induction xs generalizing p with
 | nil=>simp[Chain,last]
 | cons a xs ih=>simp only[List.cons_append,Chain,last,ih,DW,and_assoc]
theorem Cc{w w':World}:∀ {ns:List Node} {p q:Option Nat},(∀ n∈ns,w'.heap[n.b]? = w.heap[n.b]?)→Chain w p ns q→Chain w' p ns q
 | [],_,_,_,_=>trivial
 | n :: ns,_,_,h,hc=>⟨(h n (by simp)).trans hc.1,Cc (fun n hn=>h n (List.mem_cons_of_mem _ hn)) hc.2⟩
theorem Gh{ns:List Node}{b:Nat}(h:first ns none=some b):b∈ns.map (·.b):=by
 cases ns with
 | nil=>cases h
 | cons n ns=>simp only[first,Option.some.injEq]at h;simp[h]
theorem Eh:∀ {ns:List Node} {b:Nat},last none ns=some b→b∈ns.map (·.b):=by
 intro ns b h
 rcases List.eq_nil_or_concat ns with rfl | ⟨xs,x,rfl⟩
 ·cases h
 rw[List.concat_eq_append,BA]at h;simp only[Option.some.injEq]at h;simp[h]
structure Raw(w:World)(s m:Nat)(room:Int)(ns:List Node):Prop where
 head:At w s (.cells #[.int .i64 room,.map (some m),np (first ns none),np (last none ns)] 120 (0,0))
 chain:Chain w none ns none
 nodup:(s :: ns.map (·.b)).Nodup
theorem Raw.frame{w w':World}{s m:Nat}{room:Int}{ns:List Node}(h:Raw w s m room ns)(hs:w'.heap[s]? = w.heap[s]?)(hn:∀ n∈ns,w'.heap[n.b]? = w.heap[n.b]?):Raw w' s m room ns :=
 ⟨hs.trans h.head,Cc hn h.chain,h.nodup⟩
theorem CP{w:World}{s n:Nat}{pe pl:Option Nat}{k:Nat}(h1:k≠s)(h2:k≠n)(h3:pe≠some k)(h4:pl≠some k):(BC w s n pe pl).heap[k]? = w.heap[k]? := by
 unfold BC
 cases pe <;> cases pl <;> simp only[heap_setCell] <;> simp_all [Ne.symm h1,Ne.symm h2]
theorem Ew{w:World}{s n:Nat}{pe pl:Option Nat}{S:Nat→Prop}(h1:S s)(h2:S n)(h3:∀ x,pe=some x→S x)(h4:∀ x,pl=some x→S x):Af S w (BC w s n pe pl):=by
 unfold BC
 cases pe <;> cases pl <;> simp only[] <;>
  refine(((Af.setCell (Af.setCell (Af.refl _ _) ?_) ?_).setCell (.inl h2)).setCell (.inl h2)) <;> first | exact .inl h1 | exact .inl (h3 _ rfl) | exact .inl (h4 _ rfl)
theorem EK{w:World}{s n:Nat}{pe pl:Option Nat}:(BC w s n pe pl).heap.size=w.heap.size:=by
 unfold BC
 cases pe <;> cases pl <;> simp only[size_setCell]
theorem ML{w w':World}{b:Nat}{o:Obj}(h:w'.heap[b]? = w.heap[b]?)(hb:At w b o):At w' b o:=h.trans hb
theorem Ff{w:World}{s m:Nat}{room:Int}{xs ys:List Node}{n:Node}(h:Raw w s m room (xs++n :: ys)) :
   Raw (BC w s n.b (last none xs) (first ys none)) s m room (xs++ys)∧At (BC w s n.b (last none xs) (first ys none)) n.b (BH n none none):=by
 obtain⟨hh,hc,hd⟩:=h
 obtain⟨c1,c2⟩:=BD.1 hc
 obtain⟨cn,c3⟩:=c2
 have hsn:s≠n.b:=by simp at hd;exact hd.1.2.1
 have hd':(s :: (xs++ys).map (·.b)).Nodup:=by
   simp only[List.map_append,List.map_cons,List.nodup_cons,List.nodup_append,List.mem_append,List.mem_cons]at hd ⊢
   refine⟨fun x=>hd.1 (by rcases x with x | x <;> simp[x]),hd.2.1,hd.2.2.1.2,fun a ha b hb=>hd.2.2.2 a ha b (.inr hb)⟩
 have hmem:∀ x∈xs++ys,x.b≠s∧x.b≠n.b:=by
   intro x hx
   simp only[List.map_append,List.map_cons,List.nodup_cons,List.nodup_append,List.mem_append,List.mem_cons,List.mem_map]at hd
   rcases List.mem_append.1 hx with hx | hx
   · exact⟨fun e=>hd.1 (.inl ⟨x,hx,e⟩),fun e=>hd.2.2.2 x.b ⟨x,hx,rfl⟩ n.b (.inl rfl) e⟩
   · exact⟨fun e=>hd.1 (.inr (.inr ⟨x,hx,e⟩)),fun e=>hd.2.2.1.1 ⟨x,hx,e⟩⟩
 rcases List.eq_nil_or_concat xs with rfl | ⟨xs,x,rfl⟩
 · cases ys with
   | nil =>
     refine⟨⟨?_,trivial,by simp⟩, ?_⟩
     · have:=hh.eq
       simp only[At,BC,Bz,Bo,last,List.nil_append,heap_setCell,if_true,if_neg hsn,if_neg (Ne.symm hsn)]at this ⊢
       simp[this,setRow,np]
     · have:=cn.eq
       simp only[At,BC,Bz,Bo,last,heap_setCell,if_true,if_neg hsn,if_neg (Ne.symm hsn)]at this ⊢
       simp[this,setRow,BH,BU,np]
   | cons y ys =>
     have hy:=hmem y (by simp)
     obtain⟨cy,c4⟩:=c3
     refine⟨⟨?_,⟨?_, ?_⟩,hd'⟩, ?_⟩
     · have:=hh.eq
       simp only[At,BC,Bz,Bo,last,List.nil_append,heap_setCell,if_true,if_neg (Ne.symm hsn),if_neg hy.1]at this ⊢
       simp[this,setRow,np]
     · have:=cy.eq
       simp only[At,BC,Bz,Bo,last,heap_setCell,if_true,if_neg (Ne.symm hy.1),if_neg (Ne.symm hy.2)]at this ⊢
       simp[this,setRow,BH,BU,np]
     · refine Cc (fun z hz=>CP (hmem z (by simp[hz])).1 (hmem z (by simp[hz])).2 (by simp[last]) ?_) c4
       simp only[Bz,Bo,ne_eq,Option.some.injEq]
       simp only[List.nil_append,List.map_cons,List.nodup_cons,List.mem_map]at hd'
       exact fun e=>hd'.2.1 ⟨z,hz,e.symm⟩
     · have:=cn.eq
       simp only[At,BC,Bz,Bo,last,heap_setCell,if_true,if_neg hsn,if_neg hy.2]at this ⊢
       simp[this,setRow,BH,BU,np]
 · simp only[List.concat_eq_append]at *
   have hx:=hmem x (by simp)
   obtain⟨d1,dx, -⟩:=BD.1 c1
   rw[BA]at cn
   cases ys with
   | nil =>
     simp only[List.append_nil]at *
     refine⟨⟨?_,BD.2 ⟨?_, ?_,trivial⟩,hd'⟩, ?_⟩
     · have:=hh.eq
       simp only[At,BC,BA,Bz,Bo,heap_setCell,if_true,if_neg (Ne.symm hsn),if_neg hx.1]at this ⊢
       have e0:first (xs++[x]++[n]) none=first (xs++[x]) none:=by cases xs <;> rfl
       rw[e0]at this
       simp[this,setRow,np]
     · refine Cc (fun z hz=>CP (hmem z (by simp[hz])).1 (hmem z (by simp[hz])).2 ?_ (by simp[first])) d1
       rw[BA]
       simp only[List.map_append,List.map_cons,List.map_nil,List.nodup_cons,List.nodup_append,List.mem_map,List.mem_cons,List.not_mem_nil,or_false]at hd'
       simp only[ne_eq,Option.some.injEq]
       exact fun e=>hd'.2.2.2 z.b ⟨z,hz,rfl⟩ x.b rfl e.symm
     · have:=dx.eq
       simp only[At,BC,BA,Bz,Bo,heap_setCell,if_true,if_neg (Ne.symm hx.1),if_neg (Ne.symm hx.2)]at this ⊢
       simp[this,setRow,BH,BU,np]
     · have:=cn.eq
       simp only[At,BC,BA,Bz,Bo,heap_setCell,if_true,if_neg hsn,if_neg hx.2]at this ⊢
       simp[this,setRow,BH,BU,np]
   | cons y ys =>
     have hy:=hmem y (by simp)
     have hxy:x.b≠y.b:=by
       simp only[List.map_append,List.map_cons,List.map_nil,List.nodup_cons,List.nodup_append,List.mem_map,List.mem_append,List.mem_cons,List.not_mem_nil,or_false]at hd'
       exact hd'.2.2.2 x.b (.inr rfl) y.b (.inl rfl)
     obtain⟨cy,c4⟩:=c3
     refine⟨⟨?_,BD.2 ⟨BD.2 ⟨?_, ?_,trivial⟩, ?_, ?_⟩,hd'⟩, ?_⟩
     · have:=hh.eq
       simp only[At,BC,BA,Bz,Bo,heap_setCell,if_neg (Ne.symm hsn),if_neg hx.1,if_neg hy.1]at this ⊢
       have e0:first (xs++[x]++n :: y :: ys) none=first (xs++[x]++y :: ys) none:=by cases xs <;> rfl
       have e1:last none (xs++[x]++n :: y :: ys)=last none (xs++[x]++y :: ys):=by simp only[Eg,last]
       rw[this,e0,e1]
     · refine Cc (fun z hz=>CP (hmem z (by simp[hz])).1 (hmem z (by simp[hz])).2 ?_ ?_) d1
       · rw[BA]
         simp only[List.map_append,List.map_cons,List.map_nil,List.nodup_cons,List.nodup_append,List.mem_map,List.mem_append,List.mem_cons,List.not_mem_nil,or_false]at hd'
         simp only[ne_eq,Option.some.injEq]
         exact fun e=>hd'.2.1.2.2 z.b ⟨z,hz,rfl⟩ x.b rfl e.symm
       · simp only[List.map_append,List.map_cons,List.map_nil,List.nodup_cons,List.nodup_append,List.mem_map,List.mem_append,List.mem_cons,List.not_mem_nil,or_false]at hd'
         simp only[Bz,Bo,ne_eq,Option.some.injEq]
         exact fun e=>hd'.2.2.2 z.b (.inl ⟨z,hz,rfl⟩) y.b (.inl rfl) e.symm
     · have:=dx.eq
       simp only[At,BC,BA,Bz,Bo,heap_setCell,if_true,if_neg (Ne.symm hx.2),if_neg (Ne.symm hxy)]at this ⊢
       simp[this,setRow,BH,BU,np]
     · have:=cy.eq
       simp only[At,BC,BA,Bz,Bo,heap_setCell,if_true,if_neg (Ne.symm hy.2),if_neg hxy]at this ⊢
       simp[this,setRow,BH,BU,np]
     · rw[BA] 
       refine Cc (fun z hz=>CP (hmem z (by simp[hz])).1 (hmem z (by simp[hz])).2 ?_ ?_) c4
       · simp only[List.map_append,List.map_cons,List.map_nil,List.nodup_cons,List.nodup_append,List.mem_map,List.mem_append,List.mem_cons,List.not_mem_nil,or_false]at hd'
         simp only[BA,ne_eq,Option.some.injEq]
         exact fun e=>hd'.2.2.2 x.b (.inr rfl) z.b (.inr ⟨z,hz,rfl⟩) e
       · simp only[List.map_append,List.map_cons,List.map_nil,List.nodup_cons,List.nodup_append,List.mem_map,List.mem_append,List.mem_cons,List.not_mem_nil,or_false]at hd'
         simp only[Bz,Bo,ne_eq,Option.some.injEq]
         exact fun e=>hd'.2.2.1.1 ⟨z,hz,e.symm⟩
     · have:=cn.eq
       simp only[At,BC,BA,Bz,Bo,heap_setCell,if_true,if_neg hx.2,if_neg hy.2]at this ⊢
       simp[this,setRow,BH,BU,np]
theorem EL{w:World}{s n:Nat}{pe:Option Nat}{k:Nat}(h1:k≠s)(h2:k≠n)(h3:pe≠some k):(appended w s n pe).heap[k]? = w.heap[k]? := by
 unfold appended
 cases pe <;> simp only[heap_setCell] <;> simp_all [Ne.symm h1,Ne.symm h2]
theorem ED{w:World}{s n:Nat}{pe:Option Nat}{S:Nat→Prop}(h1:S s)(h2:S n)(h3:∀ x,pe=some x→S x):Af S w (appended w s n pe):=by
 unfold appended
 cases pe <;> simp only[] <;>
  refine Af.setCell (Af.setCell (Af.setCell (Af.refl _ _) (.inl h2)) ?_) (.inl h1) <;> first | exact .inl h1 | exact .inl (h3 _ rfl)
theorem EM{w:World}{s n:Nat}{pe:Option Nat}:(appended w s n pe).heap.size=w.heap.size:=by
 unfold appended
 cases pe <;> simp only[size_setCell]
theorem Fg{w:World}{s m:Nat}{room:Int}{xs:List Node}{n:Node}(h:Raw w s m room xs)(hn:At w n.b (BH n none none))(hd:(s :: (xs++[n]).map (·.b)).Nodup) :
   Raw (appended w s n.b (last none xs)) s m room (xs++[n]):=by
 obtain⟨hh,hc,hd0⟩:=h
 have hsn:s≠n.b:=by simp at hd;exact hd.1.2
 have hmem:∀ x∈xs,x.b≠s∧x.b≠n.b:=by
   intro x hx
   simp only[List.map_append,List.map_cons,List.map_nil,List.nodup_cons,List.nodup_append,List.mem_append,List.mem_cons,List.mem_map,List.not_mem_nil,or_false]at hd
   exact⟨fun e=>hd.1 (.inl ⟨x,hx,e⟩),fun e=>hd.2.2.2 x.b ⟨x,hx,rfl⟩ n.b rfl e⟩
 rcases List.eq_nil_or_concat xs with rfl | ⟨xs,x,rfl⟩
 · refine⟨?_,⟨?_,trivial⟩,hd⟩
   · have:=hh.eq
     simp only[At,appended,Bz,Bo,last,List.nil_append,heap_setCell,if_true,if_neg (Ne.symm hsn)]at this ⊢
     simp[this,setRow,np]
   · have:=hn.eq
     simp only[At,appended,Bz,Bo,last,List.nil_append,heap_setCell,if_true,if_neg hsn]at this ⊢
     simp[this,setRow,BH,BU,np]
 · simp only[List.concat_eq_append]at *
   have hx:=hmem x (by simp)
   obtain⟨d1,dx, -⟩:=BD.1 hc
   refine⟨?_,BD.2 ⟨BD.2 ⟨?_, ?_,trivial⟩, ?_,trivial⟩,hd⟩
   · have:=hh.eq
     have e0:first (xs++[x]++[n]) none=first (xs++[x]) none:=by cases xs <;> rfl
     rw[e0]
     simp only[At,appended,BA,heap_setCell,if_true,if_neg (Ne.symm hsn),if_neg hx.1]at this ⊢
     simp[this,setRow,np]
   · refine Cc (fun z hz=>EL (hmem z (by simp[hz])).1 (hmem z (by simp[hz])).2 ?_) d1
     rw[BA]
     simp only[List.map_append,List.map_cons,List.map_nil,List.nodup_cons,List.nodup_append,List.mem_map,List.mem_cons,List.not_mem_nil,or_false]at hd0
     simp only[ne_eq,Option.some.injEq]
     exact fun e=>hd0.2.2.2 z.b ⟨z,hz,rfl⟩ x.b rfl e.symm
   · have:=dx.eq
     simp only[At,appended,BA,Bz,Bo,heap_setCell,if_true,if_neg (Ne.symm hx.1),if_neg (Ne.symm hx.2)]at this ⊢
     simp[this,setRow,BH,BU,np]
   · have:=hn.eq
     simp only[At,appended,BA,Bz,Bo,heap_setCell,if_true,if_neg hsn,if_neg hx.2]at this ⊢
     simp[this,setRow,BH,BU,np]
structure Full(w:World)(s m:Nat)(room:Int)(ns:List Node)(es:List (Int×Value)):Prop where
 raw:Raw w s m room ns
 map:BX w m es
 perm:es.Perm (ns.map fun n=>(n.k,np (some n.b)))
 keys:(ns.map (·.k)).Nodup
 apart:m ∉ s :: ns.map (·.b)
section
variable {w:World}{s m:Nat}{room:Int}{ns:List Node}{es:List (Int×Value)}
theorem Full.frame{w':World}(h:Full w s m room ns es)(hk:∀ b,(b=s∨b=m∨b∈ns.map (·.b))→w'.heap[b]? = w.heap[b]?):Full w' s m room ns es :=
 ⟨h.raw.frame (hk s (.inl rfl)) (fun n hn=>hk n.b (.inr (.inr (List.mem_map.2 ⟨n,hn,rfl⟩)))),h.map.of_heap (hk m (.inr (.inl rfl))),h.perm,h.keys,h.apart⟩
theorem Full.entries(h:Full w s m room ns es):(es.map (·.1)).Nodup:=by
 have:=(h.perm.map (·.1)).nodup_iff.2 (by rw[List.map_map];exact h.keys)
 exact this
theorem Full.mem(h:Full w s m room ns es){n:Node}(hn:n∈ns):(n.k,np (some n.b))∈es:=h.perm.mem_iff.2 (List.mem_map.2 ⟨n,hn,rfl⟩)
theorem Full.D7(h:Full w s m room ns es){k:Int}(hn:k ∉ ns.map (·.k)):∀ v,(k,v) ∉ es:=by
 intro v hv
 obtain⟨n,hn',e⟩:=List.mem_map.1 (h.perm.mem_iff.1 hv)
 exact hn (List.mem_map.2 ⟨n,hn',(Prod.mk.inj e).1⟩)
theorem Chain.lt:∀ {ns:List Node} {p q:Option Nat},Chain w p ns q→∀ n∈ns,n.b<w.heap.size
 | [],_,_,_,_,hn=>by simp at hn
 | a :: ns,_,_,h,n,hn=>by
  rcases List.mem_cons.1 hn with e | e
  ·rw[e];exact h.1.lt
  exact Chain.lt h.2 n e
theorem Full.lt(h:Full w s m room ns es){b:Nat}(hb:b=s∨b=m∨b∈ns.map (·.b)):b<w.heap.size:=by
 rcases hb with e | e | e
 ·rw[e];exact h.raw.head.lt
 ·rw[e];exact h.map.lt
 obtain⟨n,hn,rfl⟩:=List.mem_map.1 e;exact h.raw.chain.lt n hn
theorem Full.alloc(h:Full w s m room ns es)(o:Obj):Full (w.alloc o) s m room ns es :=
 h.frame fun b hb=>by rw[heap_alloc,if_neg (by have:=h.lt hb;omega)]
theorem Full.keeps{w':World}{S:Nat→Prop}(h:Full w s m room ns es)(hk:Af S w w')(hS:∀ b,(b=s∨b=m∨b∈ns.map (·.b))→¬ S b):Full w' s m room ns es :=
 h.frame fun b hb=>hk.block b (h.lt hb) (hS b hb)
theorem Chain.node{ns:List Node}{p q:Option Nat}(h:Chain w p ns q){n:Node}(hn:n∈ns):∃ e l,At w n.b (BH n e l):=by
 obtain⟨xs,ys,rfl⟩:=List.append_of_mem hn
 exact⟨_,_,(BD.1 h).2.1⟩
end
theorem _root_.Go.Proofs.YtjdkigkknhefpaaDoor.Mem.BX.alloc{w:World}{b:Nat}{l:List (Int×Value)}(h:BX w b l)(o:Obj):BX (w.alloc o) b l :=
 h.of_heap (by rw[heap_alloc,if_neg (by have:=h.lt;omega)])
theorem DV(w:World):(zeroValue 118).run Tryd.prog w = .ok (.pointer none) w:=by kernel_rfl
theorem Dz{w:World}{b i:Nat}{c:Array Value}{t:TypeId}{fr:Nat×Nat}{v:Value}(h:At w b (.cells c t fr))(hc:c[i]? = some v):∀ A B,((w.alloc A).alloc B).cell? ⟨b,i,none⟩=some v :=
 fun A B=>((h.alloc A).alloc B).cell hc
theorem JE:Tryd.prog.cellsOf 139=3:=by kernel_rfl
theorem JB:byteOfCell Tryd.prog Tryd.prog.depth 139 0=some 0:=by kernel_rfl
theorem JP:byteOfCell Tryd.prog Tryd.prog.depth 139 1=some 8:=by kernel_rfl
theorem JD{w:World}{b:Nat}{c:Array Value}{fr:Nat×Nat}(h:At w b (.cells c 139 fr)):(partAt ⟨b,0,none⟩ 1 8).run Tryd.prog w = .ok ⟨b,1,none⟩ w:=by
 have hs:w.shape? b=some (139,c.size):=by simp[World.shape?,h.eq]
 have hv:(viewAt b).run Tryd.prog w = .ok none w:=by simp[viewAt,Sem.run,shape,hs]
 simp[partAt,byteOf,noView,Sem.run,shape,hv,hs,JE,JB,JP,program]
theorem Hq(w:World)(s m:Nat)(room:Int)(ns:List Node)(es:List (Int×Value))(n:Node)(h:Full w s m room ns es)(hn:n∈ns) :
   Calls Tryd.prog 80 #[.pointer (some ⟨s,0,none⟩),.int .i64 n.k] w fun e w'=>e = .returned (.tuple #[(Value.agg #[]),.bool true])∧Af (fun _=>False) w w':=by
 have hm:∀ A B,((w.alloc A).alloc B).cell? ⟨s,1,none⟩=some (.map (some m)):=Dz h.raw.head rfl
 obtain⟨e,l,hnode⟩:=h.raw.chain.node hn
 have hl:∀ A B,(Instr.lookup 117 (.map (some m)) (.int .i64 n.k) true).run Tryd.prog ((w.alloc A).alloc B) = .ok (.tuple #[.pointer (some ⟨n.b,0,none⟩),.bool true]) ((w.alloc A).alloc B) :=
   fun A B=>((h.map.alloc A).alloc B).DF Tryd.underlying117 Tryd.underlying3 n.k _ h.entries (h.mem hn) true
 have hp:∀ A B,(partAt ⟨n.b,0,none⟩ 1 8).run Tryd.prog ((w.alloc A).alloc B) = .ok ⟨n.b,1,none⟩ ((w.alloc A).alloc B):=fun A B=>JD ((hnode.alloc A).alloc B)
 clear h hnode
 go_enter Tryd.func80,Tryd.ntmps80
 go_wp2
 refine bodyPost_ret (v:= .tuple #[(Value.agg #[]),.bool true]) (by simp[results,Tryd.results80,go_sem]) rfl ⟨rfl, ?_⟩
 exact((Af.refl _ _).alloc _).alloc _
theorem Ie(w:World)(s m:Nat)(room:Int)(ns:List Node)(es:List (Int×Value))(k:Int)(h:Full w s m room ns es)(hn:k ∉ ns.map (·.k)) :
   Calls Tryd.prog 80 #[.pointer (some ⟨s,0,none⟩),.int .i64 k] w fun e w'=>e = .returned (.tuple #[(Value.agg #[]),.bool false])∧Af (fun _=>False) w w':=by
 have hm:∀ A B,((w.alloc A).alloc B).cell? ⟨s,1,none⟩=some (.map (some m)):=Dz h.raw.head rfl
 have hl:∀ A B,(Instr.lookup 117 (.map (some m)) (.int .i64 k) true).run Tryd.prog ((w.alloc A).alloc B) = .ok (.tuple #[.pointer none,.bool false]) ((w.alloc A).alloc B) :=
   fun A B=>((h.map.alloc A).alloc B).Dh Tryd.underlying117 Tryd.underlying3 (DV _) k (h.D7 hn) true
 clear h
 go_enter Tryd.func80,Tryd.ntmps80
 go_wp2
 refine bodyPost_ret (v:= .tuple #[(Value.agg #[]),.bool false]) (by simp[results,Tryd.results80,go_sem]) rfl ⟨rfl, ?_⟩
 exact((Af.refl _ _).alloc _).alloc _
theorem DU.at{w w':World}(h:DU w w'){b:Nat}{o:Obj}(hb:At w b o):At w' b o:=by unfold At;rw[h.heap];exact hb
theorem DU.raw{w w':World}(h:DU w w'){s m:Nat}{room:Int}{ns:List Node}(hr:Raw w s m room ns):Raw w' s m room ns :=
 hr.frame (by rw[h.heap]) (fun n _=>by rw[h.heap])
theorem DU.keeps{a w w':World}{S:Nat→Prop}(h:DU w w')(hk:Af S a w):Af S a w' :=
 ⟨h.os.trans hk.os,h.tape.trans hk.tape,h.output.trans hk.output,by rw[h.heap];exact hk.size,fun k hk1 hk2=>by rw[h.heap];exact hk.block k hk1 hk2⟩
theorem DK(w:World)(s m:Nat)(room:Int)(xs ys:List Node)(n:Node)(h:Raw w s m room (xs++n :: ys)) :
   Calls Tryd.prog 81 #[.pointer (some ⟨s,0,none⟩),.pointer (some ⟨n.b,0,none⟩)] w fun e w'=>e = .returned (.tuple #[])∧Raw w' s m room (xs++ys)∧At w' n.b (BH n none none) ∧
     Af (fun b=>b=s∨b∈(xs++n :: ys).map (·.b)) w w'∧w'.heap.size=w.heap.size:=by
 have hr:=Ff h
 have hd:=h.nodup
 obtain⟨c1,c2⟩:=BD.1 h.chain
 obtain⟨cn,c3⟩:=c2
 have hsn:s≠n.b:=by simp at hd;exact hd.1.2.1
 refine(Fa w s n.b (last none xs) (first ys none) _ _ (h.head.cell rfl) (h.head.cell rfl) (h.head.free _) (h.head.free _) (cn.cell rfl) (cn.cell rfl) (cn.free _) (cn.free _) hsn ?_ ?_).mono ?_
 · intro x hx
   rcases List.eq_nil_or_concat xs with rfl | ⟨xs,x',rfl⟩
   · cases hx
   · simp only[List.concat_eq_append]at *
     rw[BA]at hx
     obtain rfl:=Option.some.inj hx
     obtain⟨-,dx, -⟩:=BD.1 c1
     refine⟨?_,⟨_,dx.cell rfl⟩,dx.free _⟩
     simp only[List.map_append,List.map_cons,List.map_nil,List.nodup_cons,List.nodup_append,List.mem_map,List.mem_append,List.mem_cons,List.not_mem_nil,or_false]at hd
     exact hd.2.2.2 x'.b (.inr rfl) n.b (.inl rfl)
 · intro y hy
   cases ys with
   | nil=>cases hy
   | cons y' ys =>
     obtain rfl:=Option.some.inj hy
     obtain⟨dy, -⟩:=c3
     simp only[List.map_append,List.map_cons,List.map_nil,List.nodup_cons,List.nodup_append,List.mem_map,List.mem_append,List.mem_cons,List.not_mem_nil,or_false]at hd
     refine⟨fun e=>hd.2.2.1.1 (.inl e.symm),fun x hx => ?_,⟨_,dy.cell rfl⟩,dy.free _⟩
     obtain⟨z,hz,rfl⟩:=List.mem_map.1 (Eh hx)
     exact hd.2.2.2 z.b ⟨z,hz,rfl⟩ y'.b (.inr (.inl rfl))
 · rintro e w' ⟨rfl,he⟩
   refine⟨rfl,he.raw hr.1,he.at hr.2,he.keeps (Ew (.inl rfl) (.inr (by simp)) ?_ ?_),by rw[he.heap,EK]⟩
   · intro x hx;have:=Eh hx;exact .inr (by simp only[List.map_append,List.mem_append];exact .inl this)
   · intro x hx;have:=Gh hx;exact .inr (by simp only[List.map_append,List.map_cons,List.mem_append,List.mem_cons];exact .inr (.inr this))
theorem Dp(w:World)(s m:Nat)(room:Int)(xs:List Node)(n:Node)(h:Raw w s m room xs)(hn:At w n.b (BH n none none))(hd:(s :: (xs++[n]).map (·.b)).Nodup) :
   Calls Tryd.prog 82 #[.pointer (some ⟨s,0,none⟩),.pointer (some ⟨n.b,0,none⟩)] w fun e w'=>e = .returned (.tuple #[])∧Raw w' s m room (xs++[n]) ∧
     Af (fun b=>b=s∨b∈(xs++[n]).map (·.b)) w w'∧w'.heap.size=w.heap.size:=by
 have hr:=Fg h hn hd
 have hsn:s≠n.b:=by simp at hd;exact hd.1.2
 refine(Fz w s n.b (last none xs) _ _ (h.head.cell rfl) (h.head.cell rfl) (h.head.free _) (h.head.free _) (hn.cell rfl) (hn.free _) hsn ?_).mono ?_
 · intro x hx
   rcases List.eq_nil_or_concat xs with rfl | ⟨xs,x',rfl⟩
   · cases hx
   · simp only[List.concat_eq_append]at *
     rw[BA]at hx
     obtain rfl:=Option.some.inj hx
     obtain⟨-,dx, -⟩:=BD.1 h.chain
     simp only[List.map_append,List.map_cons,List.map_nil,List.nodup_cons,List.nodup_append,List.mem_map,List.mem_append,List.mem_cons,List.not_mem_nil,or_false]at hd
     exact⟨hd.2.2.2 x'.b (.inr rfl) n.b rfl,fun e=>hd.1 (.inl (.inr e.symm)),⟨_,dx.cell rfl⟩,dx.free _⟩
 · rintro e w' ⟨rfl,he⟩
   refine⟨rfl,he.raw hr,he.keeps (ED (.inl rfl) (.inr (by simp)) ?_),by rw[he.heap,EM]⟩
   intro x hx;have:=Eh hx;exact .inr (by simp only[List.map_append,List.mem_append];exact .inl this)
theorem Cm{w:World}{b i:Nat}{c:Array Value}{t:TypeId}{fr:Nat×Nat}{v:Value}(h:At w b (.cells c t fr))(hc:c[i]? = some v):∀ A,(w.alloc A).cell? ⟨b,i,none⟩=some v :=
 fun A=>(h.alloc A).cell hc
theorem Full.moved{w w':World}{s m:Nat}{room:Int}{xs ys:List Node}{n:Node}{es:List (Int×Value)}(h:Full w s m room (xs++n :: ys) es)
   (hr:Raw w' s m room (xs++ys++[n])) (hm:w'.heap[m]? = w.heap[m]?):Full w' s m room (xs++ys++[n]) es:=by
 have hp:(xs++n :: ys).Perm (xs++ys++[n]):=by
   rw[List.append_assoc];exact List.Perm.append_left xs (List.perm_append_singleton n ys).symm
 exact⟨hr,h.map.of_heap hm,h.perm.trans (hp.map _),(hp.map _).nodup_iff.1 h.keys,fun x=>h.apart (by
   rcases List.mem_cons.1 x with e | e
   · simp[e]
   · exact List.mem_cons_of_mem _ ((hp.map (·.b)).mem_iff.2 e))⟩
theorem Ig(w:World)(s m:Nat)(room:Int)(xs ys:List Node)(es:List (Int×Value))(n:Node)(h:Full w s m room (xs++n :: ys) es) :
   Calls Tryd.prog 72 #[.pointer (some ⟨s,0,none⟩),.int .i64 n.k] w fun e w'=>e = .returned (.tuple #[(Value.agg #[]),.bool true])∧Full w' s m room (xs++ys++[n]) es ∧
     Af (fun b=>b=s∨b∈(xs++n :: ys).map (·.b)) w w':=by
 have hlt:∀ b,(b=s∨b=m∨b∈(xs++n :: ys).map (·.b))→b<w.heap.size:=fun b hb=>h.lt hb
 have hnd:(s :: (xs++ys++[n]).map (·.b)).Nodup:=by
   have:=h.raw.nodup
   have hp:(s :: (xs++n :: ys).map (·.b)).Perm (s :: (xs++ys++[n]).map (·.b)):=by
     refine List.Perm.cons _ (List.Perm.map _ ?_)
     rw[List.append_assoc];exact List.Perm.append_left xs (List.perm_append_singleton n ys).symm
   exact hp.nodup_iff.1 this
 go_enter Tryd.func72,Tryd.ntmps72
 go_wp2_with fail
 refine(Hq _ s m room _ es n (h.alloc _) (by simp)).mono ?_
 rintro e w1 ⟨rfl,hk1⟩
 have h1:Full w1 s m room (xs++n :: ys) es:=(h.alloc _).keeps hk1 (fun _ _=>id)
 have hm:∀ A,(w1.alloc A).cell? ⟨s,1,none⟩=some (.map (some m)):=Cm h1.raw.head rfl
 have hl:∀ A,(Instr.lookup 117 (.map (some m)) (.int .i64 n.k) false).run Tryd.prog (w1.alloc A) = .ok (.pointer (some ⟨n.b,0,none⟩)) (w1.alloc A) :=
   fun A=>(h1.map.alloc A).DF Tryd.underlying117 Tryd.underlying3 n.k _ h1.entries (h1.mem (by simp)) false
 go_wp2_with fail
 refine(DK _ s m room xs ys n (h1.alloc _).raw).mono ?_
 rintro e w2 ⟨rfl,hr2,hn2,hk2,hz2⟩
 go_wp2_with fail
 refine(Dp _ s m room (xs++ys) n hr2 hn2 hnd).mono ?_
 rintro e w3 ⟨rfl,hr3,hk3,hz3⟩
 have hk:Af (fun b=>b=s∨b∈(xs++n :: ys).map (·.b)) w w3:=by
   refine(((((Af.refl _ w).alloc _).trans hk1 (fun _ _ x=>x.elim)).alloc _).trans hk2 (fun _ _ x=>x)).trans hk3 (fun i hi x => ?_)
   simp only[List.map_append,List.map_cons,List.map_nil,List.mem_append,List.mem_cons,List.not_mem_nil,or_false]at x ⊢
   rcases x with x | (x | x) | x <;> simp[x]
 have hf:Full w3 s m room (xs++ys++[n]) es:=h.moved hr3 (hk.block m (hlt m (.inr (.inl rfl))) (fun x=>h.apart (List.mem_cons.2 x)))
 have hres:True:=trivial
 go_wp2
 exact bodyPost_ret (v:= .tuple #[.agg #[],.bool true]) (by simp[results,Tryd.results72,go_sem]) rfl ⟨rfl,hf,hk⟩
theorem Ja(w:World)(s m:Nat)(room:Int)(ns:List Node)(es:List (Int×Value))(k:Int)(h:Full w s m room ns es)(hn:k ∉ ns.map (·.k)) :
   Calls Tryd.prog 72 #[.pointer (some ⟨s,0,none⟩),.int .i64 k] w fun e w'=>e = .returned (.tuple #[(Value.agg #[]),.bool false])∧Af (fun _=>False) w w':=by
 go_enter Tryd.func72,Tryd.ntmps72
 go_wp2_with fail
 refine(Ie _ s m room _ es k (h.alloc _) hn).mono ?_
 rintro e w1 ⟨rfl,hk1⟩
 go_wp2
 exact bodyPost_ret (v:= .tuple #[(Value.agg #[]),.bool false]) (by simp[results,Tryd.results72,go_sem]) rfl ⟨rfl,(((Af.refl _ w).alloc _).trans hk1 (fun _ _ x=>x.elim)).alloc _⟩
theorem Full.dropped{w w':World}{s m:Nat}{room:Int}{xs ys:List Node}{n:Node}{es:List (Int×Value)}(h:Full w s m room (xs++n :: ys) es)
   (hr:Raw w' s m room (xs++ys)) (hm:BX w' m (es.eraseP (fun x=>x.1==n.k))):Full w' s m room (xs++ys) (es.eraseP (fun x=>x.1==n.k)):=by
 have hp:(xs++n :: ys).Perm (n :: (xs++ys)):=List.perm_middle
 refine⟨hr,hm, ?_, ?_,fun x=>h.apart (by
   rcases List.mem_cons.1 x with e | e
   · simp[e]
   · exact List.mem_cons_of_mem _ ((hp.map (·.b)).mem_iff.2 (List.mem_cons_of_mem _ e)))⟩
 · have h1:es.Perm ((n.k,np (some n.b)) :: (xs++ys).map fun n=>(n.k,np (some n.b))):=h.perm.trans (hp.map _)
   have hm1:(n.k,np (some n.b))∈es:=h.mem (by simp)
   have h2:es.Perm ((n.k,np (some n.b)) :: es.eraseP (fun x=>x.1==n.k)):=by
     obtain⟨a,l1,l2,h3,h4,h5,h6⟩:=List.exists_of_eraseP (p:=fun x:Int×Value=>x.1==n.k) hm1 (by simp)
     have ha:a∈es:=by rw[h5];simp
     have hak:a.1=n.k:=by simpa using h4
     have:a=(n.k,np (some n.b)):=by
       obtain⟨z,hz,rfl⟩:=List.mem_map.1 (h.perm.mem_iff.1 ha)
       have hinj:=h.keys
       simp only at hak
       have hzn:z=n:=by
         rcases List.mem_append.1 hz with hz | hz
         · simp only[List.map_append,List.map_cons,List.nodup_append,List.mem_map,List.mem_cons]at hinj
           exact absurd hak (hinj.2.2 z.k ⟨z,hz,rfl⟩ n.k (.inl rfl))
         · rcases List.mem_cons.1 hz with e | hz
           · exact e
           · simp only[List.map_append,List.map_cons,List.nodup_append,List.nodup_cons,List.mem_map,List.mem_cons]at hinj
             exact absurd ⟨z,hz,hak⟩ hinj.2.1.1
       rw[hzn]
     rw[h6,h5,this]
     exact List.perm_middle
   exact(List.perm_cons _).1 (h2.symm.trans h1)
 · have:=(hp.map (·.k)).nodup_iff.1 h.keys
   simp only[List.map_cons,List.nodup_cons]at this
   exact this.2
theorem Hm(w:World)(s m:Nat)(room:Int)(xs ys:List Node)(es:List (Int×Value))(n:Node)(h:Full w s m room (xs++n :: ys) es) :
   Calls Tryd.prog 83 #[.pointer (some ⟨s,0,none⟩),.int .i64 n.k] w fun e w'=>e = .returned (.bool true)∧Full w' s m room (xs++ys) (es.eraseP (fun x=>x.1==n.k)) ∧
     Af (fun b=>b=s∨b=m∨b∈(xs++n :: ys).map (·.b)) w w'∧w'.heap.size=w.heap.size:=by
 have hm:w.cell? ⟨s,1,none⟩=some (.map (some m)):=h.raw.head.cell rfl
 have hl:(Instr.lookup 117 (.map (some m)) (.int .i64 n.k) true).run Tryd.prog w = .ok (.tuple #[.pointer (some ⟨n.b,0,none⟩),.bool true]) w :=
   h.map.DF Tryd.underlying117 Tryd.underlying3 n.k _ h.entries (h.mem (by simp)) true
 go_enter Tryd.func83,Tryd.ntmps83
 go_wp2_with fail
 refine(DK _ s m room xs ys n h.raw).mono ?_
 rintro e w2 ⟨rfl,hr2,hn2,hk2,hz2⟩
 have hma:∀ b,b∈s :: (xs++n :: ys).map (·.b)→b≠m:=fun b hb e=>h.apart (e ▸ hb)
 have hm2:w2.cell? ⟨s,1,none⟩=some (.map (some m)):=hr2.head.cell rfl
 obtain⟨w3,hrun,hm3,hk3,hz3⟩:=BX.H9 (h.map.of_heap (hk2.block m (h.lt (.inr (.inl rfl))) (fun x=>h.apart (List.mem_cons.2 x)))) Tryd.underlying117 Tryd.underlying3 n.k _ h.entries (h.mem (by simp))
 have hr3:Raw w3 s m room (xs++ys):=hr2.frame (hk3.block s hr2.head.lt (hma s (by simp))) (fun z hz=>hk3.block z.b (hr2.chain.lt z hz) (hma z.b (by
   refine List.mem_cons_of_mem _ (List.mem_map.2 ⟨z, ?_,rfl⟩)
   rcases List.mem_append.1 hz with hz | hz <;> simp[hz])))
 have hf:Full w3 s m room (xs++ys) (es.eraseP (fun x=>x.1==n.k)):=h.dropped hr3 hm3
 have hk:Af (fun b=>b=s∨b=m∨b∈(xs++n :: ys).map (·.b)) w w3 :=
   (hk2.mono (fun i _ x=>x.elim .inl (fun y=> .inr (.inr y)))).trans hk3 (fun i _ x=> .inr (.inl x))
 have hz:w3.heap.size=w.heap.size:=hz3.trans hz2
 clear hr3 hm3 hk3 hz3 hk2 hz2 hma
 go_wp2
 go_ret
 exact⟨rfl,hf,hk,hz⟩
theorem Full.laid{w1 w2:World}{s m:Nat}{room:Int}{ns:List Node}{es:List (Int×Value)}(h1:Full w1 s m room ns es)(nd:Node)(hb:nd.b=w1.heap.size)
   (hk2:Af (· = m) (w1.alloc (BH nd none none)) w2):Raw w2 s m room ns∧At w2 nd.b (BH nd none none)∧(s :: (ns++[nd]).map (·.b)).Nodup:=by
 have hma:∀ b,b∈s :: ns.map (·.b)→b≠m:=fun b hb e=>h1.apart (e ▸ hb)
 have ha:=(h1.alloc (BH nd none none)).raw
 have hml:=h1.map.lt
 refine⟨ha.frame (hk2.block s ha.head.lt (hma s (by simp))) (fun z hz=>hk2.block z.b (ha.chain.lt z hz) (hma z.b (List.mem_cons_of_mem _ (List.mem_map.2 ⟨z,hz,rfl⟩)))), ?_, ?_⟩
 · rw[hb];exact hk2.get (At.new w1 _) (by omega)
 · have hd:=h1.raw.nodup
   simp only[List.map_append,List.map_cons,List.map_nil,List.nodup_cons,List.nodup_append,List.mem_append,List.mem_cons,List.not_mem_nil,or_false]at hd ⊢
   refine⟨fun x => ?_,hd.2,⟨fun x=>x,List.nodup_nil⟩,fun a ha' b hb' => ?_⟩
   · rcases x with x | x
     · exact hd.1 x
     · have:=h1.raw.head.lt;omega
   · have:=h1.lt (.inr (.inr ha'));omega
theorem Full.added{w1 w3:World}{s m:Nat}{room:Int}{ns:List Node}{es:List (Int×Value)}(h1:Full w1 s m room ns es)(nd:Node)(hb:nd.b=w1.heap.size)(hn:nd.k ∉ ns.map (·.k))
   (hr:Raw w3 s m room (ns++[nd])) (hm:BX w3 m (es++[(nd.k,np (some nd.b))])):Full w3 s m room (ns++[nd]) (es++[(nd.k,np (some nd.b))]):=by
 refine⟨hr,hm, ?_, ?_, ?_⟩
 · rw[List.map_append];exact h1.perm.append_right _
 · rw[List.map_append,List.nodup_append]
   refine⟨h1.keys,by simp,fun a ha b hb' e => ?_⟩
   simp only[List.map_cons,List.map_nil,List.mem_cons,List.not_mem_nil,or_false]at hb'
   exact hn (by rw[←hb',←e];exact ha)
 · intro x
   have:=h1.map.lt
   simp only[List.map_append,List.map_cons,List.map_nil,List.mem_append,List.mem_cons,List.not_mem_nil,or_false]at x
   rcases x with x | x | x
   · exact h1.apart (by simp[x])
   · exact h1.apart (List.mem_cons_of_mem _ x)
   · omega
theorem Ir(w:World)(s m:Nat)(room:Int)(ns:List Node)(es:List (Int×Value))(k:Int)(v:V)(h:Full w s m room ns es)(hn:k ∉ ns.map (·.k))(hl:(ns.length:Int)≠room) :
   Calls Tryd.prog 73 #[.pointer (some ⟨s,0,none⟩),.int .i64 k,(Value.agg #[])] w fun e w'=>e = .returned (.tuple #[.int .i64 0,.bool false]) ∧
     (∃ b es',w.heap.size≤b∧b<w'.heap.size∧Full w' s m room (ns++[⟨b,k,v⟩]) es')∧Af (fun b=>b=s∨b=m∨b∈ns.map (·.b)) w w':=by
 have hlen:es.length=ns.length:=by have:=h.perm.length_eq;simpa using this
 have hm:∀ A,(w.alloc A).cell? ⟨s,1,none⟩=some (.map (some m)):=Cm h.raw.head rfl
 have hr:∀ A,(w.alloc A).cell? ⟨s,0,none⟩=some (.int .i64 room):=Cm h.raw.head rfl
 have hk:∀ A,(Instr.lookup 117 (.map (some m)) (.int .i64 k) true).run Tryd.prog (w.alloc A) = .ok (.tuple #[.pointer none,.bool false]) (w.alloc A) :=
   fun A=>(h.map.alloc A).Dh Tryd.underlying117 Tryd.underlying3 (DV _) k (h.D7 hn) true
 have hle:∀ A n ty,(Builtin.len_ #[117] ty #[.map (some m)]).run Tryd.prog ((w.alloc A).drewN n) = .ok (.int .i64 (ns.length:Int)) ((w.alloc A).drewN n):=by
   intro A n ty
   rw[←hlen]
   exact BX.Gw (w:=(w.alloc A).drewN n) (h.map.alloc A) Tryd.underlying117 ty
 have hneB:((ns.length:Int)==room)=false:=by simpa using hl
 go_enter Tryd.func73,Tryd.ntmps73
 go_wp2
 go_quiet (fail)
 obtain⟨w1,hw1⟩:∃ w1,World.drewN (w.alloc (.cells #[] 97)) nq=w1:=⟨_,rfl⟩
 have hk1:Af (fun _=>False) w w1:=by rw[←hw1];exact((Af.refl _ w).alloc _).drewN _
 have hz1:w1.heap.size=w.heap.size+1:=by rw[←hw1];exact size_alloc _ _
 have hv1:True:=trivial
 rw[hw1]
 clear hm hr hk hle hw1
 have h1:Full w1 s m room ns es:=h.keeps hk1 (fun _ _=>id)
 have hm:∀ A,(w1.alloc A).cell? ⟨s,1,none⟩=some (.map (some m)):=Cm h1.raw.head rfl
 go_wp2_with (at_mapUpdate;refine Dl rfl _ _ _ rfl Tryd.underlying117 Tryd.underlying3 rfl k rfl (np (some (w.heap.size+1))) rfl (h1.map.alloc _) (h1.D7 hn) ?_;intro w2 hm2 hk2 hz2)
 obtain⟨hr2,hn2,hd2⟩:=h1.laid ⟨w.heap.size+1,k,v⟩ hz1.symm hk2
 have hz2':w2.heap.size=w.heap.size+2:=by rw[hz2,size_alloc,hz1]
 refine(Dp _ s m room ns ⟨w.heap.size+1,k,v⟩ hr2 hn2 hd2).mono ?_
 rintro e w3 ⟨rfl,hr3,hk3,hz3⟩
 have hm3:BX w3 m (es++[(k,np (some (w.heap.size+1)))]):=hm2.of_heap (hk3.block m hm2.lt (fun x=>by
   have:=h1.map.lt
   simp only[List.map_append,List.map_cons,List.map_nil,List.mem_append,List.mem_cons,List.not_mem_nil,or_false]at x
   rcases x with x | x | x
   · exact h1.apart (by simp[x])
   · exact h1.apart (List.mem_cons_of_mem _ x)
   · have:=h.map.lt;omega))
 have hf:Full w3 s m room (ns++[⟨w.heap.size+1,k,v⟩]) (es++[(k,np (some (w.heap.size+1)))]):=h1.added ⟨w.heap.size+1,k,v⟩ hz1.symm hn hr3 hm3
 have hk:Af (fun b=>b=s∨b=m∨b∈ns.map (·.b)) w w3:=by
   refine(((hk1.mono (fun _ _ x=>x.elim)).alloc _).trans hk2 (fun _ _ x=> .inr (.inl x))).trans hk3 (fun i hi x => ?_)
   simp only[List.map_append,List.map_cons,List.map_nil,List.mem_append,List.mem_cons,List.not_mem_nil,or_false]at x ⊢
   rcases x with x | x | x
   · exact .inl x
   · exact .inr (.inr x)
   · omega
 have hz:w3.heap.size=w.heap.size+2:=by rw[hz3,hz2']
 clear hr2 hn2 hd2 hz2 hz2' hk2 hk3 hz3 hm2 hr3 hm3 hm h1 hz1 hk1
 go_wp2
 go_ret2
 exact⟨rfl,⟨_,_,by omega,by omega,hf⟩,hk⟩
theorem GZ(w:World)(s m:Nat)(room:Int)(n0:Node)(ns:List Node)(es:List (Int×Value))(k:Int)(v:V)(h:Full w s m room (n0 :: ns) es)(hn:k ∉ (n0 :: ns).map (·.k))(hl:((n0 :: ns).length:Int)=room) :
   Calls Tryd.prog 73 #[.pointer (some ⟨s,0,none⟩),.int .i64 k,(Value.agg #[])] w fun e w'=>e = .returned (.tuple #[.int .i64 n0.k,.bool true]) ∧
     (∃ b es',w.heap.size≤b∧b<w'.heap.size∧Full w' s m room (ns++[⟨b,k,v⟩]) es')∧Af (fun b=>b=s∨b=m∨b∈(n0 :: ns).map (·.b)) w w':=by
 have hlen:es.length=(n0 :: ns).length:=by have:=h.perm.length_eq;simpa using this
 have hm:∀ A,(w.alloc A).cell? ⟨s,1,none⟩=some (.map (some m)):=Cm h.raw.head rfl
 have hr:∀ A,(w.alloc A).cell? ⟨s,0,none⟩=some (.int .i64 room):=Cm h.raw.head rfl
 have hk:∀ A,(Instr.lookup 117 (.map (some m)) (.int .i64 k) true).run Tryd.prog (w.alloc A) = .ok (.tuple #[.pointer none,.bool false]) (w.alloc A) :=
   fun A=>(h.map.alloc A).Dh Tryd.underlying117 Tryd.underlying3 (DV _) k (h.D7 hn) true
 have hle:∀ A n ty,(Builtin.len_ #[117] ty #[.map (some m)]).run Tryd.prog ((w.alloc A).drewN n) = .ok (.int .i64 room) ((w.alloc A).drewN n):=by
   intro A n ty
   rw[←hl,←hlen]
   exact BX.Gw (w:=(w.alloc A).drewN n) (h.map.alloc A) Tryd.underlying117 ty
 have hneB:(room==room)=true:=by simp
 go_enter Tryd.func73,Tryd.ntmps73
 go_wp2
 go_quiet (fail)
 obtain⟨w1,hw1⟩:∃ w1,World.drewN (w.alloc (.cells #[] 97)) nq=w1:=⟨_,rfl⟩
 have hk1:Af (fun _=>False) w w1:=by rw[←hw1];exact((Af.refl _ w).alloc _).drewN _
 have hz1:w1.heap.size=w.heap.size+1:=by rw[←hw1];exact size_alloc _ _
 have hv1:True:=trivial
 rw[hw1]
 clear hm hr hk hle hw1
 have h1:Full w1 s m room (n0 :: ns) es:=h.keeps hk1 (fun _ _=>id)
 have hf1:w1.cell? ⟨s,2,none⟩=some (.pointer (some ⟨n0.b,0,none⟩)):=h1.raw.head.cell rfl
 have hf2:w1.cell? ⟨n0.b,0,none⟩=some (.int .i64 n0.k):=h1.raw.chain.1.cell rfl
 go_wp2_with fail
 refine(Hm _ s m room [] ns es n0 h1).mono ?_
 rintro e w1' ⟨rfl,hd1,hdk,hdz⟩
 have hkd:Af (fun b=>b=s∨b=m∨b∈(n0 :: ns).map (·.b)) w w1':=(hk1.mono (fun _ _ x=>x.elim)).trans hdk (fun _ _ x=>x)
 have hz1':w1'.heap.size=w.heap.size+1:=by rw[hdz,hz1]
 have hv2:True:=trivial
 simp only[List.nil_append]at hd1
 have hn':k ∉ ns.map (·.k):=fun x=>hn (List.mem_cons_of_mem _ x)
 generalize es.eraseP (fun x=>x.1==n0.k)=es1 at hd1
 clear hf1 hf2 hk1 hz1 hdk hdz
 have hm:∀ A,(w1'.alloc A).cell? ⟨s,1,none⟩=some (.map (some m)):=Cm hd1.raw.head rfl
 go_wp2_with (at_mapUpdate;refine Dl rfl _ _ _ rfl Tryd.underlying117 Tryd.underlying3 rfl k rfl (np (some (w.heap.size+1))) rfl (hd1.map.alloc _) (hd1.D7 hn') ?_;intro w2 hm2 hk2 hz2)
 obtain⟨hr2,hn2,hd2⟩:=hd1.laid ⟨w.heap.size+1,k,v⟩ hz1'.symm hk2
 have hz2':w2.heap.size=w.heap.size+2:=by rw[hz2,size_alloc,hz1']
 refine(Dp _ s m room ns ⟨w.heap.size+1,k,v⟩ hr2 hn2 hd2).mono ?_
 rintro e w3 ⟨rfl,hr3,hk3,hz3⟩
 have hm3:BX w3 m (es1++[(k,np (some (w.heap.size+1)))]):=hm2.of_heap (hk3.block m hm2.lt (fun x=>by
   have:=hd1.map.lt
   simp only[List.map_append,List.map_cons,List.map_nil,List.mem_append,List.mem_cons,List.not_mem_nil,or_false]at x
   rcases x with x | x | x
   · exact hd1.apart (by simp[x])
   · exact hd1.apart (List.mem_cons_of_mem _ x)
   · omega))
 have hf:Full w3 s m room (ns++[⟨w.heap.size+1,k,v⟩]) (es1++[(k,np (some (w.heap.size+1)))]):=hd1.added ⟨w.heap.size+1,k,v⟩ hz1'.symm hn' hr3 hm3
 have hk:Af (fun b=>b=s∨b=m∨b∈(n0 :: ns).map (·.b)) w w3:=by
   refine((hkd.alloc _).trans hk2 (fun _ _ x=> .inr (.inl x))).trans hk3 (fun i hi x => ?_)
   simp only[List.map_append,List.map_cons,List.map_nil,List.mem_append,List.mem_cons,List.not_mem_nil,or_false]at x ⊢
   rcases x with x | x | x
   · exact .inl x
   · exact .inr (.inr (.inr x))
   · omega
 have hz:w3.heap.size=w.heap.size+2:=by rw[hz3,hz2']
 clear hr2 hn2 hd2 hz2 hz2' hk2 hk3 hz3 hm2 hr3 hm3 hm h1 hkd hd1
 go_wp2
 go_ret2
 exact⟨rfl,⟨_,_,by omega,by omega,hf⟩,hk⟩
theorem KX(w:World)(r:Int)(h1:1≤r)(h2:r≤4096) :
   Calls Tryd.prog 35 #[.int .i64 r] w fun e w'=>e = .returned (.tuple #[.pointer (some ⟨w.heap.size+1,0,none⟩),.int .i64 0])∧Full w' (w.heap.size+1) w.heap.size r [] []∧Af (fun _=>False) w w'∧w'.heap.size=w.heap.size+2:=by
 have hmm := @run_makeMap Tryd.prog
 have b1:decide (r<1)=false:=by simp;omega
 have b2:decide (4096<r)=false:=by simp;omega
 go_enter Tryd.func35,Tryd.ntmps35
 go_wp2
 go_ret2
 refine⟨rfl,⟨⟨?_,trivial,by simp⟩,⟨#[],0,(At.new _ _).alloc _,rfl⟩,List.Perm.refl _,List.nodup_nil,by simp⟩,((Af.refl _ _).alloc _).alloc _,by simp⟩
 have:=At.new (w.alloc (.map #[] 0)) (.cells #[.int .i64 r,.map (some w.heap.size),.pointer none,.pointer none] 120 (0,0))
 rw[size_alloc]at this
 exact this
def KQ(s m:Nat)(ns:List Node)(b:Nat):Prop:=b=s∨b=m∨b∈ns.map (·.b)
def Held(w:World)(s:Nat)(F:Nat→Prop)(room:Int)(L:List (Int×V)):Prop :=
 ∃ m ns es,Full w s m room ns es∧(∀ b,KQ s m ns b→F b)∧L=ns.map (fun n=>(n.k,n.v))
def More(F:Nat→Prop)(w w':World)(b:Nat):Prop:=F b∨(w.heap.size≤b∧b<w'.heap.size)
section
variable {w w':World}{s:Nat}{F G:Nat→Prop}{room:Int}{L:List (Int×V)}
theorem Held.keeps{S:Nat→Prop}(h:Held w s F room L)(hk:Af S w w')(hS:∀ b,F b→¬ S b):Held w' s F room L:=by
 obtain⟨m,ns,es,hf,hF,hL⟩:=h
 exact⟨m,ns,es,hf.keeps hk (fun b hb=>hS b (hF b hb)),hF,hL⟩
theorem Held.mono(h:Held w s F room L)(hFG:∀ b,F b→G b):Held w s G room L:=by
 obtain⟨m,ns,es,hf,hF,hL⟩:=h
 exact⟨m,ns,es,hf,fun b hb=>hFG b (hF b hb),hL⟩
theorem Held.mem(h:Held w s F room L):F s:=by
 obtain⟨m,ns,es,hf,hF,hL⟩:=h;exact hF s (.inl rfl)
theorem Held.nodup(h:Held w s F room L):(L.map (·.1)).Nodup:=by
 obtain⟨m,ns,es,hf,hF,rfl⟩:=h;rw[List.map_map];exact hf.keys
end
theorem FO{ns:List Node}{xs ys:List (Int×V)}{k:Int}{v:V}(h:xs++(k,v) :: ys=ns.map (fun n=>(n.k,n.v))) :
   ∃ ps n bs,ns=ps++n :: bs∧xs=ps.map (fun n=>(n.k,n.v))∧n.k=k∧n.v=v∧ys=bs.map (fun n=>(n.k,n.v)):=by
 obtain⟨ps,r,rfl,h1,h2⟩:=List.map_eq_append_iff.1 h.symm
 obtain⟨n,bs,rfl,h3,h4⟩:=List.map_eq_cons_iff.1 h2
 exact⟨ps,n,bs,rfl,h1.symm,(Prod.mk.inj h3).1,(Prod.mk.inj h3).2,h4.symm⟩
theorem Hy(w:World)(s:Nat)(F:Nat→Prop)(room:Int)(xs ys:List (Int×V))(k:Int)(v:V)(h:Held w s F room (xs++(k,v) :: ys)) :
   Calls Tryd.prog 72 #[.pointer (some ⟨s,0,none⟩),.int .i64 k] w fun e w'=>e = .returned (.tuple #[(Value.agg #[]),.bool true])∧Held w' s F room (xs++ys++[(k,v)])∧Af F w w':=by
 obtain⟨m,ns,es,hf,hF,hL⟩:=h
 obtain⟨ps,n,bs,rfl,rfl,rfl,rfl,rfl⟩:=FO hL
 refine(Ig w s m room ps bs es n hf).mono ?_
 rintro e w' ⟨rfl,hf',hk⟩
 refine⟨rfl,⟨m,ps++bs++[n],es,hf',fun b hb=>hF b ?_,by simp⟩,hk.mono fun b _ hb=>hF b ?_⟩
 · rcases hb with e | e | e
   · exact .inl e
   · exact .inr (.inl e)
   · refine .inr (.inr ?_)
     simp only[List.map_append,List.map_cons,List.map_nil,List.mem_append,List.mem_cons,List.not_mem_nil,or_false]at e ⊢
     rcases e with(e | e) | e <;> simp[e]
 · rcases hb with e | e
   · exact .inl e
   · exact .inr (.inr e)
theorem EC{ns:List Node}{L:List (Int×V)}{k:Int}(hL:L=ns.map (fun n=>(n.k,n.v)))(h:k ∉ L.map (·.1)):k ∉ ns.map (·.k):=by
 rw[hL,List.map_map]at h;exact h
theorem Ic(w:World)(s:Nat)(F:Nat→Prop)(room:Int)(L:List (Int×V))(k:Int)(h:Held w s F room L)(hn:k ∉ L.map (·.1)) :
   Calls Tryd.prog 72 #[.pointer (some ⟨s,0,none⟩),.int .i64 k] w fun e w'=>e = .returned (.tuple #[(Value.agg #[]),.bool false])∧Af (fun _=>False) w w':=by
 obtain⟨m,ns,es,hf,hF,hL⟩:=h
 exact Ja w s m room ns es k hf (EC hL hn)
theorem GV(w:World)(s:Nat)(F:Nat→Prop)(room:Int)(L:List (Int×V))(k:Int)(v:V)(h:Held w s F room L)(hn:k ∉ L.map (·.1))(hl:(L.length:Int)≠room) :
   Calls Tryd.prog 73 #[.pointer (some ⟨s,0,none⟩),.int .i64 k,(Value.agg #[])] w fun e w'=>e = .returned (.tuple #[.int .i64 0,.bool false])∧Held w' s (More F w w') room (L++[(k,v)])∧Af F w w':=by
 obtain⟨m,ns,es,hf,hF,hL⟩:=h
 refine(Ir w s m room ns es k v hf (EC hL hn) (by rw[hL]at hl;simpa using hl)).mono ?_
 rintro e w' ⟨rfl,⟨b,es',h1,h2,hf'⟩,hk⟩
 refine⟨rfl,⟨m,_,es',hf',fun i hi => ?_,by simp[hL]⟩,hk.mono fun i _ hi=>hF i hi⟩
 rcases hi with e | e | e
 · exact .inl (hF i (.inl e))
 · exact .inl (hF i (.inr (.inl e)))
 · simp only[List.map_append,List.map_cons,List.map_nil,List.mem_append,List.mem_cons,List.not_mem_nil,or_false]at e
   rcases e with e | e
   · exact .inl (hF i (.inr (.inr e)))
   · exact .inr (by omega)
theorem FY(w:World)(s:Nat)(F:Nat→Prop)(room:Int)(x:Int×V)(L:List (Int×V))(k:Int)(v:V)(h:Held w s F room (x :: L))(hn:k ∉ (x :: L).map (·.1))(hl:((x :: L).length:Int)=room) :
   Calls Tryd.prog 73 #[.pointer (some ⟨s,0,none⟩),.int .i64 k,(Value.agg #[])] w fun e w'=>e = .returned (.tuple #[.int .i64 x.1,.bool true])∧Held w' s (More F w w') room (L++[(k,v)])∧Af F w w':=by
 obtain⟨m,ns,es,hf,hF,hL⟩:=h
 obtain⟨n0,ns,rfl,rfl,rfl⟩:=List.map_eq_cons_iff.1 hL.symm
 refine(GZ w s m room n0 ns es k v hf (EC hL hn) (by simpa using hl)).mono ?_
 rintro e w' ⟨rfl,⟨b,es',h1,h2,hf'⟩,hk⟩
 refine⟨rfl,⟨m,_,es',hf',fun i hi => ?_,by simp⟩,hk.mono fun i _ hi=>hF i hi⟩
 rcases hi with e | e | e
 · exact .inl (hF i (.inl e))
 · exact .inl (hF i (.inr (.inl e)))
 · simp only[List.map_append,List.map_cons,List.map_nil,List.mem_append,List.mem_cons,List.not_mem_nil,or_false]at e
   rcases e with e | e
   · exact .inl (hF i (.inr (.inr (by simp[e]))))
   · exact .inr (by omega)
theorem hnew(w:World)(r:Int)(h1:1≤r)(h2:r≤4096) :
   Calls Tryd.prog 35 #[.int .i64 r] w fun e w'=>e = .returned (.tuple #[.pointer (some ⟨w.heap.size+1,0,none⟩),.int .i64 0])∧Held w' (w.heap.size+1) (fun b=>b=w.heap.size∨b=w.heap.size+1) r [] ∧
     Af (fun _=>False) w w'∧w'.heap.size=w.heap.size+2:=by
 refine(KX w r h1 h2).mono ?_
 rintro e w' ⟨rfl,hf,hk,hz⟩
 refine⟨rfl,⟨_,[],[],hf,fun i hi => ?_,rfl⟩,hk,hz⟩
 rcases hi with e | e | e
 · exact .inr e
 · exact .inl e
 · simp at e
end Go.Proofs.YtjdkigkknhefpaaDoor.Sh
namespace Go.Proofs.YtjdkigkknhefpaaDoor.Ca
open Go.RowKit Go.Proofs.YtjdkigkknhefpaaDoor.Mem Go.Proofs.YtjdkigkknhefpaaDoor.Sh
set_option linter.unusedSimpArgs false
set_option linter.unusedVariables false
def vs(l:List Int):List (Int×V):=l.map fun k=>(k,())
theorem Jy(l:List Int):(vs l).map (·.1)=l:=by simp[vs,Function.comp_def]
theorem JU(l:List Int):(vs l).length=l.length:=by simp[vs]
def four(ss:Nat→Nat)(n:Nat):Array Value :=
 #[if 0<n then .pointer (some ⟨ss 0,0,none⟩)else .pointer none,if 1<n then .pointer (some ⟨ss 1,0,none⟩)else .pointer none,
  if 2<n then .pointer (some ⟨ss 2,0,none⟩)else .pointer none,if 3<n then .pointer (some ⟨ss 3,0,none⟩)else .pointer none]
structure Part(w:World)(c n:Nat)(ss:Nat→Nat)(G:Nat→Nat→Prop)(L:Nat→List Int):Prop where
 head:At w c (.cells (four ss n) 94 (0,0))
 held:∀ i,i<n→Held w (ss i) (G i) 2 (vs (L i))
 small:∀ i,i<n→(L i).length≤2
 apart:∀ i j b,i<n→j<n→i≠j→G i b→¬ G j b
 own:∀ i b,i<n→G i b→b≠c∧b<w.heap.size
def Ci(w:World)(c:Nat)(F:Nat→Prop)(L:Nat→List Int):Prop :=
 ∃ ss G,Part w c 4 ss G L∧F c∧(∀ i b,i<4→G i b→F b)∧(∀ b,F b→b<w.heap.size)
theorem Ci.keeps{w w':World}{c:Nat}{F S:Nat→Prop}{L:Nat→List Int}(h:Ci w c F L)(hk:Af S w w')(hS:∀ b,F b→¬ S b):Ci w' c F L:=by
 obtain⟨ss,G,hp,hc,hF,hB⟩:=h
 exact⟨ss,G,⟨hk.get hp.head (hS c hc),fun i hi=>(hp.held i hi).keeps hk (fun b hb=>hS b (hF i b hi hb)),hp.small,hp.apart,fun i b hi hb=>⟨(hp.own i b hi hb).1,Nat.lt_of_lt_of_le (hp.own i b hi hb).2 hk.size⟩⟩,hc,hF,fun b hb=>Nat.lt_of_lt_of_le (hB b hb) hk.size⟩
theorem Ci.bound{w:World}{c:Nat}{F:Nat→Prop}{L:Nat→List Int}(h:Ci w c F L):∀ b,F b→b<w.heap.size:=by
 obtain⟨ss,G,hp,hc,hF,hB⟩:=h;exact hB
theorem Ci.mono{w:World}{c:Nat}{F G:Nat→Prop}{L:Nat→List Int}(h:Ci w c F L)(hFG:∀ b,F b→G b)(hG:∀ b,G b→b<w.heap.size):Ci w c G L:=by
 obtain⟨ss,G',hp,hc,hF,hB⟩:=h
 exact⟨ss,G',hp,hFG c hc,fun i b hi hb=>hFG b (hF i b hi hb),hG⟩
def touch(l:List Int)(k:Int):List Int:=if k∈l then l.filter (· ≠ k)++[k]else if l.length=2 then l.tail++[k]else l++[k]
def cost(l:List Int)(k:Int):Int:=if k∈l then 1 else 7
def put(L:Nat→List Int)(i:Nat)(l:List Int):Nat→List Int:=fun j=>if j=i then l else L j
theorem IX(a:Int)(w:World)(h0:0≤a)(h1:a<16384):Calls Tryd.prog 71 #[.int .i64 a] w fun e w'=>e = .returned (.tuple #[.int .i64 (a / 4),.bool true])∧w=w':=by
 have b0:decide (0≤a)=true:=decide_eq_true h0
 have b1:decide (a<16384)=true:=decide_eq_true h1
 go_enter Tryd.func71,Tryd.ntmps71
 go_wp2
 go_ret2
 exact⟨rfl,rfl⟩
theorem Ky(ss:Nat→Nat)(n k:Nat)(h:k<4):∃ v,(four ss n)[k]? = some v:=by
 match k,h with
 | 0,_=>exact⟨_,rfl⟩
 | 1,_=>exact⟨_,rfl⟩
 | 2,_=>exact⟨_,rfl⟩
 | 3,_=>exact⟨_,rfl⟩
theorem KI(ss:Nat→Nat)(k:Nat)(h:k<4):(four ss k).setIfInBounds k (.pointer (some ⟨ss k,0,none⟩))=four ss (k+1):=by
 match k,h with
 | 0,_=>rfl
 | 1,_=>rfl
 | 2,_=>rfl
 | 3,_=>rfl
theorem Jg(ss:Nat→Nat)(k:Nat)(h:k<4):(four ss 4)[k]? = some (.pointer (some ⟨ss k,0,none⟩)):=by
 match k,h with
 | 0,_=>rfl
 | 1,_=>rfl
 | 2,_=>rfl
 | 3,_=>rfl
structure Making(w:World)(k:Nat)(wr:World):Prop where
 part:Part wr w.heap.size k (fun i=>w.heap.size+2+2*i) (fun i b=>b=w.heap.size+1+2*i∨b=w.heap.size+2+2*i) (fun _=>[])
 size:wr.heap.size=w.heap.size+1+2*k
 keeps:Af (fun _=>False) w wr
theorem Jo{w wr w1 w2:World}{k:Nat}(h:Making w k wr)(hk:k<4)
   (hh:Held w1 (wr.heap.size+1) (fun b=>b=wr.heap.size∨b=wr.heap.size+1) 2 []) (hk1:Af (fun _=>False) wr w1) (hz:w1.heap.size=wr.heap.size+2)
   (he:DU (w1.setCell ⟨w.heap.size,k,none⟩ (.pointer (some ⟨wr.heap.size+1,0,none⟩))) w2):Making w (k+1) w2:=by
 obtain⟨⟨hp,hl,hs,ha,ho⟩,hz0,hk0⟩:=h
 have hk2:Af (fun b=>b=w.heap.size) w1 w2:=he.keeps ((Af.refl _ _).setCell (.inl rfl))
 have e1:wr.heap.size+1=w.heap.size+2+2*k:=by omega
 refine⟨⟨?_, ?_,fun i hi=>by simp, ?_, ?_⟩, ?_, ?_⟩
 · have h1:=(hk1.get hp id).BZ k (.pointer (some ⟨wr.heap.size+1,0,none⟩))
   rw[e1]at h1 he
   rw[KI (fun i=>w.heap.size+2+2*i) k hk]at h1
   exact he.at h1
 · intro i hi
   by_cases e:i=k
   · subst e
     have x:=hh.keeps hk2 (fun b hb=>by omega)
     rw[e1]at x
     exact x.mono (fun b hb=>by omega)
   · exact((hl i (by omega)).keeps hk1 (fun _ _=>id)).keeps hk2 (fun b hb=>by have:=(ho i b (by omega) hb).1;omega)
 · intro i j b hi hj hij h1 h2;omega
 · intro i b hi hb
   have:w2.heap.size=w1.heap.size:=by rw[he.heap,size_setCell]
   omega
 · have:w2.heap.size=w1.heap.size:=by rw[he.heap,size_setCell]
   omega
 · refine((hk0.trans hk1 (fun _ _ x=>x)).trans hk2 (fun i hi x=>by omega))
theorem MZ(w:World):Calls Tryd.prog 25 #[] w fun e w'=>e = .returned (.pointer (some ⟨w.heap.size,0,none⟩)) ∧
   Ci w' w.heap.size (fun b=>w.heap.size≤b∧b<w'.heap.size) (fun _=>[])∧Af (fun _=>False) w w':=by
 go_enter Tryd.func25,Tryd.ntmps25
 go_wp2
 go_loopg [5] 4 (fun g i wr=>∃ k:Nat,g=4 - k∧k≤4∧i = .int .i64 k∧Making w k wr)
 case atStart =>
   refine⟨0,rfl,by omega,rfl,⟨?_,fun i hi=>by omega,fun i hi=>by omega,fun i j b hi=>by omega,fun i b hi=>by omega⟩,by simp,(Af.refl _ _).alloc _⟩
   exact At.new w _
 case round =>
   obtain⟨k,rfl,hk,rfl,hM⟩:=hrel
   by_cases hlt:k<4
   · go_wp2_with fail
     go_region_with (go_at_call 35;refine(hnew _ 2 (by omega) (by omega)).mono ?_;rintro e w1 ⟨rfl,hh1,hk1,hz1⟩;obtain⟨v,hv⟩:=Ky (fun i=>w.heap.size+2+2*i) k k hlt;have hc1:=(hk1.get hM.part.head id).cell hv;have hf1:=(hk1.get hM.part.head id).free k)
     all_goals go_wp2
     all_goals
       go_roundg (4 - (k+1))
       case measure=>omega
       case rel=>exact⟨k+1,rfl,by omega,by go_num,Jo hM hlt hh1 hk1.Jz hz1 (DU.refl _)⟩
   · obtain rfl:k=4:=by omega
     go_wp2
     go_ret
     have hz:=hM.size
     exact⟨rfl,⟨_,_,hM.part,⟨Nat.le_refl _,by omega⟩,fun i b hi hb=>by omega,fun b hb=>hb.2⟩,hM.keeps⟩
theorem IP(L:Nat→List Int)(i:Nat)(l:List Int):put L i l i=l:=by simp[put]
theorem Ko(L:Nat→List Int){i j:Nat}(l:List Int)(h:j≠i):put L i l j=L j:=by simp[put,h]
theorem Ci.turned{w w':World}{c:Nat}{F:Nat→Prop}{L:Nat→List Int}{ss:Nat→Nat}{G:Nat→Nat→Prop}{i:Nat}{l:List Int}
   (hp:Part w c 4 ss G L) (hc:F c) (hF:∀ i b,i<4→G i b→F b) (hB:∀ b,F b→b<w.heap.size) (hi:i<4) (hl:l.length≤2)
   (hk:Af (G i) w w') (hh:Held w' (ss i) (More (G i) w w') 2 (vs l)):Ci w' c (More F w w') (put L i l):=by
 refine⟨ss,fun j b=>if j=i then More (G i) w w' b else G j b,⟨hk.get hp.head (fun x=>(hp.own i c hi x).1 rfl), ?_, ?_, ?_, ?_⟩,.inl hc, ?_, ?_⟩
 · intro j hj
   by_cases e:j=i
   · subst e;simp only[if_true,IP];exact hh
   · simp only[if_neg e,Ko _ _ e];exact(hp.held j hj).keeps hk (fun b hb=>hp.apart j i b hj hi e hb)
 · intro j hj
   by_cases e:j=i
   · subst e;rw[IP];exact hl
   · rw[Ko _ _ e];exact hp.small j hj
 · intro j j' b hj hj' hne h1 h2
   by_cases e:j=i
   · subst e
     have e2:¬ j'=j:=fun x=>hne x.symm
     simp only[if_true,if_neg e2]at h1 h2
     rcases h1 with h1 | h1
     · exact hp.apart j j' b hj hj' hne h1 h2
     · have:=(hp.own j' b hj' h2).2;omega
   · simp only[if_neg e]at h1
     by_cases e':j'=i
     · subst e'
       simp only[if_true]at h2
       rcases h2 with h2 | h2
       · exact hp.apart j j' b hj hj' hne h1 h2
       · have:=(hp.own j b hj h1).2;omega
     · simp only[if_neg e']at h2
       exact hp.apart j j' b hj hj' hne h1 h2
 · intro j b hj hb
   by_cases e:j=i
   · subst e
     simp only[if_true]at hb
     rcases hb with hb | hb
     · have:=hp.own j b hj hb;exact⟨this.1,Nat.lt_of_lt_of_le this.2 hk.size⟩
     · have:=hB c hc;omega
   · simp only[if_neg e]at hb
     have:=hp.own j b hj hb;exact⟨this.1,Nat.lt_of_lt_of_le this.2 hk.size⟩
 · intro j b hj hb
   by_cases e:j=i
   · subst e
     simp only[if_true]at hb
     rcases hb with hb | hb
     · exact .inl (hF j b hj hb)
     · exact .inr hb
   · simp only[if_neg e]at hb;exact .inl (hF j b hj hb)
 · intro b hb
   rcases hb with hb | hb
   · exact Nat.lt_of_lt_of_le (hB b hb) hk.size
   · exact hb.2
theorem J5{l:List Int}{k:Int}(h:k∈l)(hn:l.Nodup):∃ xs ys,l=xs++k :: ys∧vs l=vs xs++(k,()) :: vs ys∧touch l k=xs++ys++[k]:=by
 obtain⟨xs,ys,rfl⟩:=List.append_of_mem h
 refine⟨xs,ys,rfl,by simp[vs], ?_⟩
 unfold touch
 rw[if_pos h]
 congr 1
 rw[List.nodup_append,List.nodup_cons]at hn
 rw[List.filter_append,List.filter_cons]
 have e1:xs.filter (· ≠ k)=xs:=List.filter_eq_self.2 (fun a ha=>by simpa using hn.2.2 a ha k (by simp))
 have e2:ys.filter (· ≠ k)=ys:=List.filter_eq_self.2 (fun a ha=>by simp;rintro rfl;exact hn.2.1.1 ha)
 rw[e1,e2];simp
theorem Part.nodup{w:World}{c n:Nat}{ss:Nat→Nat}{G:Nat→Nat→Prop}{L:Nat→List Int}(h:Part w c n ss G L){i:Nat}(hi:i<n):(L i).Nodup:=by
 have:=(h.held i hi).nodup;rwa [Jy]at this
theorem Gn{l:List Int}{k:Int}(h:l.length≤2)(hn:l.Nodup):(touch l k).length≤2:=by
 by_cases hk:k∈l
 ·obtain⟨xs,ys,rfl, -,e⟩:=J5 hk hn
  rw[e];simp at h ⊢;omega
 unfold touch;rw[if_neg hk]
 split
 ·simp;omega
 simp;omega
theorem Kr(w:World)(c:Nat)(F:Nat→Prop)(L:Nat→List Int)(a:Int)(h:Ci w c F L)(h0:0≤a)(h1:a<16384)(hin:a / 4∈L (a / 4 % 4).toNat) :
   Calls Tryd.prog 57 #[.pointer (some ⟨c,0,none⟩),.int .i64 a] w fun e w'=>e = .returned (.tuple #[.int .i64 1,.int .i64 0]) ∧
     Ci w' c (More F w w') (put L (a / 4 % 4).toNat (touch (L (a / 4 % 4).toNat) (a / 4)))∧Af F w w':=by
 obtain⟨ss,G,hp,hc,hF,hB⟩:=h
 have hq:0≤a / 4:=by omega
 have hi:(a / 4 % 4).toNat<4:=by omega
 have hcell:w.cell? ⟨c,(a / 4 % 4).toNat,none⟩=some (.pointer (some ⟨ss (a / 4 % 4).toNat,0,none⟩)):=hp.head.cell (Jg ss _ hi)
 obtain⟨xs,ys,hl,hv,ht⟩:=J5 hin (hp.nodup hi)
 have hh:=hp.held _ hi
 rw[hv]at hh
 have HT:=Lib.hid ht
 have HL:=Lib.hid hl
 clear ht hl hv
 go_enter Tryd.func57,Tryd.ntmps57
 go_wp2_with fail
 refine(IX a w h0 h1).mono ?_
 rintro e _ ⟨rfl,rfl⟩
 go_wp2_with fail
 refine(Hy w _ _ _ _ _ _ _ hh).mono ?_
 rintro e w1 ⟨rfl,hh1,hk1⟩
 clear hh hcell
 go_wp2
 go_ret2
 refine⟨rfl, ?_,(hk1.alloc _).mono fun b _ hb=>hF _ b hi hb⟩
 refine Ci.turned hp hc hF hB hi (Gn (hp.small _ hi) (hp.nodup hi)) (hk1.alloc _) ?_
 rw[HT.out]
 have:=(hh1.keeps ((Af.refl (fun _=>False) _).alloc (.cells #[] 97)) (fun _ _=>id)).mono (G:=More (G (a / 4 % 4).toNat) w (w1.alloc (.cells #[] 97))) (fun b hb=> .inl hb)
 simpa[vs]using this
theorem JO(w:World)(c:Nat)(F:Nat→Prop)(L:Nat→List Int)(a:Int)(h:Ci w c F L)(h0:0≤a)(h1:a<16384)(hin:a / 4 ∉ L (a / 4 % 4).toNat) :
   Calls Tryd.prog 57 #[.pointer (some ⟨c,0,none⟩),.int .i64 a] w fun e w'=>e = .returned (.tuple #[.int .i64 7,.int .i64 0]) ∧
     Ci w' c (More F w w') (put L (a / 4 % 4).toNat (touch (L (a / 4 % 4).toNat) (a / 4)))∧Af F w w':=by
 obtain⟨ss,G,hp,hc,hF,hB⟩:=h
 have hq:0≤a / 4:=by omega
 have hi:(a / 4 % 4).toNat<4:=by omega
 have hcell:w.cell? ⟨c,(a / 4 % 4).toNat,none⟩=some (.pointer (some ⟨ss (a / 4 % 4).toNat,0,none⟩)):=hp.head.cell (Jg ss _ hi)
 have hh:=hp.held _ hi
 have hn:a / 4 ∉ (vs (L (a / 4 % 4).toNat)).map (·.1):=by rw[Jy];exact hin
 have key:∀ w1,Af (fun _=>False) w w1→Held w1 (ss (a / 4 % 4).toNat) (G (a / 4 % 4).toNat) 2 (vs (L (a / 4 % 4).toNat)) →
     Calls Tryd.prog 73 #[.pointer (some ⟨ss (a / 4 % 4).toNat,0,none⟩),.int .i64 (a / 4),(Value.agg #[])] w1 fun e w'=>(∃ x y,e = .returned (.tuple #[.int .i64 x,.bool y])) ∧
       Ci w' c (More F w w') (put L (a / 4 % 4).toNat (touch (L (a / 4 % 4).toNat) (a / 4)))∧Af F w w':=by
   intro w1 hk1 hh1
   by_cases hf:(L (a / 4 % 4).toNat).length=2
   · obtain⟨x,l,hl⟩:∃ x l,L (a / 4 % 4).toNat=x :: l:=by
       cases e:L (a / 4 % 4).toNat with
       | nil=>rw[e]at hf;simp at hf
       | cons x l=>exact⟨x,l,rfl⟩
     have e1:vs (L (a / 4 % 4).toNat)=(x,()) :: vs l:=by rw[hl];rfl
     rw[e1]at hh1 hn
     refine(FY w1 _ _ _ _ _ _ () hh1 hn (by rw[←e1,JU,hf];rfl)).mono ?_
     rintro e w' ⟨rfl,hh2,hk2⟩
     have hkk:=(hk1.mono (T:=G (a / 4 % 4).toNat) (fun _ _ x=>x.elim)).trans hk2 (fun _ _ x=>x)
     refine⟨⟨_,_,rfl⟩,Ci.turned hp hc hF hB hi (Gn (hp.small _ hi) (hp.nodup hi)) hkk ?_,hkk.mono fun b _ hb=>hF _ b hi hb⟩
     unfold touch
     rw[if_neg hin,if_pos hf,hl]
     have hsz:=hk1.size
     have:=hh2.mono (G:=More (G (a / 4 % 4).toNat) w w') (fun b hb=>hb.elim .inl (fun x=> .inr (by omega)))
     simpa[vs]using this
   · refine(GV w1 _ _ _ _ _ () hh1 hn (by rw[JU];omega)).mono ?_
     rintro e w' ⟨rfl,hh2,hk2⟩
     have hkk:=(hk1.mono (T:=G (a / 4 % 4).toNat) (fun _ _ x=>x.elim)).trans hk2 (fun _ _ x=>x)
     refine⟨⟨_,_,rfl⟩,Ci.turned hp hc hF hB hi (Gn (hp.small _ hi) (hp.nodup hi)) hkk ?_,hkk.mono fun b _ hb=>hF _ b hi hb⟩
     unfold touch
     rw[if_neg hin,if_neg hf]
     have hsz:=hk1.size
     have:=hh2.mono (G:=More (G (a / 4 % 4).toNat) w w') (fun b hb=>hb.elim .inl (fun x=> .inr (by omega)))
     simpa[vs]using this
 have KEY:=Lib.hid key
 clear key
 go_enter Tryd.func57,Tryd.ntmps57
 go_wp2_with fail
 refine(IX a w h0 h1).mono ?_
 rintro e _ ⟨rfl,rfl⟩
 go_wp2_with fail
 refine(Ic w _ _ _ _ _ hh hn).mono ?_
 rintro e w1 ⟨rfl,hk1⟩
 have hk1a:Af (fun _=>False) w (w1.alloc (.cells #[] 97)):=hk1.alloc _
 have hh1:=hh.keeps hk1a (fun _ _=>id)
 clear hcell hn
 go_wp2_with fail
 refine(KEY.out _ hk1a hh1).mono ?_
 rintro e w2 ⟨⟨x,y,rfl⟩,hC,hK⟩
 clear hh hh1 hk1 hk1a KEY
 go_wp2
 go_ret2
 exact⟨rfl,hC,hK⟩
theorem JW(w:World)(c:Nat)(F:Nat→Prop)(L:Nat→List Int)(a:Int)(h:Ci w c F L)(h0:0≤a)(h1:a<16384) :
   Calls Tryd.prog 57 #[.pointer (some ⟨c,0,none⟩),.int .i64 a] w fun e w'=>e = .returned (.tuple #[.int .i64 (cost (L (a / 4 % 4).toNat) (a / 4)),.int .i64 0]) ∧
     Ci w' c (More F w w') (put L (a / 4 % 4).toNat (touch (L (a / 4 % 4).toNat) (a / 4)))∧Af F w w':=by
 unfold cost
 by_cases hin:a / 4∈L (a / 4 % 4).toNat
 · rw[if_pos hin];exact Kr w c F L a h h0 h1 hin
 · rw[if_neg hin];exact JO w c F L a h h0 h1 hin
end Go.Proofs.YtjdkigkknhefpaaDoor.Ca
namespace Go.Proofs.YtjdkigkknhefpaaDoor.Eng
open Go
abbrev KJ : Type := Nat × Value
theorem Aa : True := trivial
abbrev Nc (n : Nat) : Value := .int .i64 (n : Int)
abbrev Nh {α : Type} (k b o : Nat) (s : Sl α) : OC := ⟨.auto [.at k], some (.slice (some ⟨b, o, none⟩) s.xs.length s.cap)⟩
abbrev Nl {α : Type} (b o : Nat) (s : Sl α) : Prop := Value.slice s.a s.xs.length s.cap = Value.slice (some ⟨b, o, none⟩) s.xs.length s.cap
theorem Nj {a b : Option Addr} (h : a = b) {n c : Nat} : Value.slice a n c = Value.slice b n c := congrArg (fun a => Value.slice a n c) h
abbrev AU : Prop := (none : Option Nat) = none
abbrev Nk (k : Nat) : Prop := (k : Int) = (k : Int)
abbrev CJ (a b : Nat) : List Bool := List.replicate a true ++ List.replicate b false
end Go.Proofs.YtjdkigkknhefpaaDoor.Eng
namespace Go.Proofs.YtjdkigkknhefpaaDoor.Ca
open Go Go.Proofs.YtjdkigkknhefpaaDoor.Mem Go.Proofs.YtjdkigkknhefpaaDoor.Sh Go.Proofs.YtjdkigkknhefpaaDoor.Eng
set_option linter.unusedSimpArgs false
set_option linter.unusedVariables false
theorem Ci.same{w w':World}{c:Nat}{F:Nat→Prop}{L:Nat→List Int}(h:Ci w c F L)(hb:∀ b,F b→w'.heap[b]? = w.heap[b]?):Ci w' c F L:=by
 obtain⟨ss,G,hp,hc,hF,hB⟩:=h
 have hlt:∀ b,F b→b<w'.heap.size:=fun b hFb=>by
  have h1:=hB b hFb
  have h2:=hb b hFb
  rcases Nat.lt_or_ge b w'.heap.size with h3 | h3
  ·exact h3
  rw[Array.getElem?_eq_none h3,Array.getElem?_eq_getElem h1]at h2;cases h2
 refine⟨ss,G,⟨(hb c hc).trans hp.head,fun i hi => ?_,hp.small,hp.apart,fun i b hi hG=>⟨(hp.own i b hi hG).1,hlt b (hF i b hi hG)⟩⟩,hc,hF,hlt⟩
 obtain⟨m,ns,es,hf,hG,hL⟩:=hp.held i hi
 exact⟨m,ns,es,hf.frame (fun b hb'=>hb b (hF i b hi (hG b hb'))),hG,hL⟩
def Am(c:Nat)(F:Nat→Prop)(L:Nat→List Int):Ch:= .inv F (fun w=>Ci w c F L) true
theorem Gq(c:Nat)(F:Nat→Prop)(L:Nat→List Int):(Am c F L).stable:=fun w w' h hw=>Ci.same hw h
section
variable {A:AW}{w:World}{i c:Nat}{F:Nat→Prop}{L:Nat→List Int}
theorem KP(h:Sat A w):Calls Tryd.prog 25 #[] w fun e w'=>∃ c F',e = .returned (.pointer (some ⟨c,0,none⟩))∧A.n≤w'.heap.size∧Sat { A with n:=w'.heap.size,σ:=A.σ++[Am c F' (fun _=>[])] } w':=by
 refine(MZ w).mono ?_
 rintro e w' ⟨rfl,ht,hk⟩
 refine⟨_,fun b=>w.heap.size≤b∧b<w'.heap.size,rfl,E5 h hk,h.IE hk _ ht (Gq _ _ _) (fun b hb => ?_)⟩
 have hb':w.heap.size≤b∧b<w'.heap.size:=hb
 rw[h.size]at hb';exact hb'
theorem Gf(h:Sat A w)(hi:A.σ[i]? = some (Am c F L))(a:Int)(h0:0≤a)(h1:a<16384):Calls Tryd.prog 57 #[.pointer (some ⟨c,0,none⟩),.int .i64 a] w fun e w'=>∃ F',e = .returned (.tuple #[.int .i64 (cost (L (a / 4 % 4).toNat) (a / 4)),.int .i64 0])∧A.n≤w'.heap.size∧Sat { A with n:=w'.heap.size,σ:=A.σ.set i (Am c F' (put L (a / 4 % 4).toNat (touch (L (a / 4 % 4).toNat) (a / 4)))) } w':=by
 refine(JW w c F L a (h.at hi) h0 h1).mono ?_
 rintro e w' ⟨rfl,ht,hk⟩
 exact⟨More F w w',rfl,E5 h hk,h.I8 hi rfl rfl hk ht (Gq _ _ _) (fun b hb=>hb.elim .inl (fun x=> .inr x.1)) (fun b hb=>ht.bound b hb)⟩
end
end Go.Proofs.YtjdkigkknhefpaaDoor.Ca
namespace Go.Proofs.YtjdkigkknhefpaaDoor.Sl
open Go.RowKit Go.Proofs.YtjdkigkknhefpaaDoor.Mem
set_option linter.unusedSimpArgs false
set_option linter.unusedVariables false
structure DU(w w':World):Prop where
 heap:w'.heap=w.heap
 os:w'.os=w.os
 tape:w'.tape=w.tape
 output:w'.output=w.output
theorem DU.refl(w:World):DU w w:=⟨rfl,rfl,rfl,rfl⟩
def np(p:Option Nat):Value:= .pointer (p.map fun b=>⟨b,0,none⟩)
theorem Eb:np none = .pointer none:=rfl
theorem Ec(b:Nat):np (some b) = .pointer (some ⟨b,0,none⟩):=rfl
def BC(w:World)(s n:Nat)(pe pl:Option Nat):World :=
 let w1:=match pe with | none=>w.setCell ⟨s,2,none⟩ (np pl) | some x=>w.setCell ⟨x,5,none⟩ (np pl)
 let w2:=match pl with | none=>w1.setCell ⟨s,3,none⟩ (np pe) | some y=>w1.setCell ⟨y,4,none⟩ (np pe)
 (w2.setCell ⟨n,4,none⟩ (.pointer none)).setCell ⟨n,5,none⟩ (.pointer none)
theorem Fa(w:World)(s n:Nat)(pe pl:Option Nat)(v2 v3:Value)
   (h2:w.cell? ⟨s,2,none⟩=some v2) (h3:w.cell? ⟨s,3,none⟩=some v3) (g2:w.frozen? ⟨s,2,none⟩=false) (g3:w.frozen? ⟨s,3,none⟩=false)
   (n1:w.cell? ⟨n,4,none⟩=some (np pe)) (n2:w.cell? ⟨n,5,none⟩=some (np pl)) (f1:w.frozen? ⟨n,4,none⟩=false) (f2:w.frozen? ⟨n,5,none⟩=false)
   (hne:s≠n) (hx:∀ x,pe=some x→x≠n∧(∃ v,w.cell? ⟨x,5,none⟩=some v)∧w.frozen? ⟨x,5,none⟩=false)
   (hy:∀ y,pl=some y→y≠n∧(∀ x,pe=some x→x≠y)∧(∃ v,w.cell? ⟨y,4,none⟩=some v)∧w.frozen? ⟨y,4,none⟩=false) :
   Calls Tryd.prog 86 #[.pointer (some ⟨s,0,none⟩),.pointer (some ⟨n,0,none⟩)] w fun e w'=>e = .returned (.tuple #[])∧DU (BC w s n pe pl) w':=by
 have hne':n≠s:=Ne.symm hne
 cases pe with
 | none =>
   cases pl with
   | none =>
     simp only[Eb]at n1 n2
     clear hx hy
     go_enter Tryd.func86,Tryd.ntmps86
     go_wp2
     go_end0
     exact⟨rfl,⟨rfl,rfl,rfl,rfl⟩⟩
   | some y =>
     obtain⟨yn, -,⟨vy,y1⟩,yf⟩:=hy y rfl
     have yn':=Ne.symm yn
     simp only[Eb,Ec]at n1 n2
     clear hx hy
     go_enter Tryd.func86,Tryd.ntmps86
     go_wp2
     go_region
     all_goals go_wp2
     all_goals go_end0
     all_goals exact⟨rfl,⟨rfl,rfl,rfl,rfl⟩⟩
 | some x =>
   obtain⟨xn,⟨vx,x1⟩,xf⟩:=hx x rfl
   have xn':=Ne.symm xn
   cases pl with
   | none =>
     simp only[Eb,Ec]at n1 n2
     clear hx hy
     go_enter Tryd.func86,Tryd.ntmps86
     go_wp2
     go_region
     all_goals go_wp2
     all_goals go_end0
     all_goals exact⟨rfl,⟨rfl,rfl,rfl,rfl⟩⟩
   | some y =>
     obtain⟨yn,xy,⟨vy,y1⟩,yf⟩:=hy y rfl
     have xy1:=xy x rfl
     have xy2:=Ne.symm xy1
     have yn':=Ne.symm yn
     simp only[Ec]at n1 n2
     clear hx hy xy
     go_enter Tryd.func86,Tryd.ntmps86
     go_wp2
     go_region
     all_goals go_wp2
     all_goals go_region
     all_goals go_wp2
     all_goals go_end0
     all_goals exact⟨rfl,⟨rfl,rfl,rfl,rfl⟩⟩
def appended(w:World)(s n:Nat)(pe:Option Nat):World :=
 let w1:=w.setCell ⟨n,4,none⟩ (np pe)
 let w2:=match pe with | none=>w1.setCell ⟨s,2,none⟩ (np (some n)) | some x=>w1.setCell ⟨x,5,none⟩ (np (some n))
 w2.setCell ⟨s,3,none⟩ (np (some n))
theorem Fz(w:World)(s n:Nat)(pe:Option Nat)(v1 v2:Value)
   (h2:w.cell? ⟨s,2,none⟩=some v2) (h3:w.cell? ⟨s,3,none⟩=some (np pe)) (g2:w.frozen? ⟨s,2,none⟩=false) (g3:w.frozen? ⟨s,3,none⟩=false)
   (n1:w.cell? ⟨n,4,none⟩=some v1) (f1:w.frozen? ⟨n,4,none⟩=false)
   (hne:s≠n) (hx:∀ x,pe=some x→x≠n∧x≠s∧(∃ v,w.cell? ⟨x,5,none⟩=some v)∧w.frozen? ⟨x,5,none⟩=false) :
   Calls Tryd.prog 87 #[.pointer (some ⟨s,0,none⟩),.pointer (some ⟨n,0,none⟩)] w fun e w'=>e = .returned (.tuple #[])∧DU (appended w s n pe) w':=by
 have hne':n≠s:=Ne.symm hne
 cases pe with
 | none =>
   simp only[Eb]at h3
   clear hx
   go_enter Tryd.func87,Tryd.ntmps87
   go_wp2
   go_end0
   exact⟨rfl,⟨rfl,rfl,rfl,rfl⟩⟩
 | some x =>
   obtain⟨xn,xs,⟨vx,x1⟩,xf⟩:=hx x rfl
   have xn':=Ne.symm xn
   have xs':=Ne.symm xs
   simp only[Ec]at h3
   clear hx
   go_enter Tryd.func87,Tryd.ntmps87
   go_wp2
   go_end0
   exact⟨rfl,⟨rfl,rfl,rfl,rfl⟩⟩
abbrev V:=Int×Int×Int
def BU(k:Int)(_v:V)(e l:Value):Array Value:= #[.int .i64 k,.int .i64 _v.1,.int .i64 _v.2.1,.int .i64 _v.2.2,e,l]
structure Node where
 b:Nat
 k:Int
 v:V
def BH(n:Node)(e l:Option Nat):Obj:= .cells (BU n.k n.v (np e) (np l)) 142 (0,0)
def first:List Node→Option Nat→Option Nat
 | [],q=>q
 | n :: _,_=>some n.b
theorem Bz(q:Option Nat):first [] q=q:=rfl
theorem Bo(n:Node)(ns:List Node)(q:Option Nat):first (n :: ns) q=some n.b:=rfl
def last:Option Nat→List Node→Option Nat
 | p,[]=>p
 | _,n :: ns=>last (some n.b) ns
def Chain(w:World):Option Nat→List Node→Option Nat→Prop
 | _,[],_=>True
 | p,n :: ns,q=>At w n.b (BH n p (first ns q))∧Chain w (some n.b) ns q
theorem BA(p:Option Nat)(xs:List Node)(x:Node):last p (xs++[x])=some x.b:=by
 induction xs generalizing p with
 | nil=>rfl
 | cons a xs ih=>exact ih _
theorem Eg(p:Option Nat)(xs ys:List Node):last p (xs++ys)=last (last p xs) ys:=by
 induction xs generalizing p with
 | nil=>rfl
 | cons a xs ih=>exact ih _
theorem DW(xs ys:List Node)(q:Option Nat):first (xs++ys) q=first xs (first ys q):=by cases xs <;> rfl
theorem BD{w:World}{p q:Option Nat}{xs ys:List Node}:Chain w p (xs++ys) q↔Chain w p xs (first ys q)∧Chain w (last p xs) ys q:=by
 induction xs generalizing p with
 | nil=>simp[Chain,last]
 | cons a xs ih=>simp only[List.cons_append,Chain,last,ih,DW,and_assoc]
theorem Cc{w w':World}:∀ {ns:List Node} {p q:Option Nat},(∀ n∈ns,w'.heap[n.b]? = w.heap[n.b]?)→Chain w p ns q→Chain w' p ns q
 | [],_,_,_,_=>trivial
 | n :: ns,_,_,h,hc=>⟨(h n (by simp)).trans hc.1,Cc (fun n hn=>h n (List.mem_cons_of_mem _ hn)) hc.2⟩
theorem Gh{ns:List Node}{b:Nat}(h:first ns none=some b):b∈ns.map (·.b):=by
 cases ns with
 | nil=>cases h
 | cons n ns=>simp only[first,Option.some.injEq]at h;simp[h]
theorem Eh:∀ {ns:List Node} {b:Nat},last none ns=some b→b∈ns.map (·.b):=by
 intro ns b h
 rcases List.eq_nil_or_concat ns with rfl | ⟨xs,x,rfl⟩
 ·cases h
 rw[List.concat_eq_append,BA]at h;simp only[Option.some.injEq]at h;simp[h]
structure Raw(w:World)(s m:Nat)(room:Int)(ns:List Node):Prop where
 head:At w s (.cells #[.int .i64 room,.map (some m),np (first ns none),np (last none ns)] 124 (0,0))
 chain:Chain w none ns none
 nodup:(s :: ns.map (·.b)).Nodup
theorem Raw.frame{w w':World}{s m:Nat}{room:Int}{ns:List Node}(h:Raw w s m room ns)(hs:w'.heap[s]? = w.heap[s]?)(hn:∀ n∈ns,w'.heap[n.b]? = w.heap[n.b]?):Raw w' s m room ns :=
 ⟨hs.trans h.head,Cc hn h.chain,h.nodup⟩
theorem CP{w:World}{s n:Nat}{pe pl:Option Nat}{k:Nat}(h1:k≠s)(h2:k≠n)(h3:pe≠some k)(h4:pl≠some k):(BC w s n pe pl).heap[k]? = w.heap[k]? := by
 unfold BC
 cases pe <;> cases pl <;> simp only[heap_setCell] <;> simp_all [Ne.symm h1,Ne.symm h2]
theorem Ew{w:World}{s n:Nat}{pe pl:Option Nat}{S:Nat→Prop}(h1:S s)(h2:S n)(h3:∀ x,pe=some x→S x)(h4:∀ x,pl=some x→S x):Af S w (BC w s n pe pl):=by
 unfold BC
 cases pe <;> cases pl <;> simp only[] <;>
  refine(((Af.setCell (Af.setCell (Af.refl _ _) ?_) ?_).setCell (.inl h2)).setCell (.inl h2)) <;> first | exact .inl h1 | exact .inl (h3 _ rfl) | exact .inl (h4 _ rfl)
theorem EK{w:World}{s n:Nat}{pe pl:Option Nat}:(BC w s n pe pl).heap.size=w.heap.size:=by
 unfold BC
 cases pe <;> cases pl <;> simp only[size_setCell]
theorem ML{w w':World}{b:Nat}{o:Obj}(h:w'.heap[b]? = w.heap[b]?)(hb:At w b o):At w' b o:=h.trans hb
theorem Ff{w:World}{s m:Nat}{room:Int}{xs ys:List Node}{n:Node}(h:Raw w s m room (xs++n :: ys)) :
   Raw (BC w s n.b (last none xs) (first ys none)) s m room (xs++ys)∧At (BC w s n.b (last none xs) (first ys none)) n.b (BH n none none):=by
 obtain⟨hh,hc,hd⟩:=h
 obtain⟨c1,c2⟩:=BD.1 hc
 obtain⟨cn,c3⟩:=c2
 have hsn:s≠n.b:=by simp at hd;exact hd.1.2.1
 have hd':(s :: (xs++ys).map (·.b)).Nodup:=by
   simp only[List.map_append,List.map_cons,List.nodup_cons,List.nodup_append,List.mem_append,List.mem_cons]at hd ⊢
   refine⟨fun x=>hd.1 (by rcases x with x | x <;> simp[x]),hd.2.1,hd.2.2.1.2,fun a ha b hb=>hd.2.2.2 a ha b (.inr hb)⟩
 have hmem:∀ x∈xs++ys,x.b≠s∧x.b≠n.b:=by
   intro x hx
   simp only[List.map_append,List.map_cons,List.nodup_cons,List.nodup_append,List.mem_append,List.mem_cons,List.mem_map]at hd
   rcases List.mem_append.1 hx with hx | hx
   · exact⟨fun e=>hd.1 (.inl ⟨x,hx,e⟩),fun e=>hd.2.2.2 x.b ⟨x,hx,rfl⟩ n.b (.inl rfl) e⟩
   · exact⟨fun e=>hd.1 (.inr (.inr ⟨x,hx,e⟩)),fun e=>hd.2.2.1.1 ⟨x,hx,e⟩⟩
 rcases List.eq_nil_or_concat xs with rfl | ⟨xs,x,rfl⟩
 · cases ys with
   | nil =>
     refine⟨⟨?_,trivial,by simp⟩, ?_⟩
     · have:=hh.eq
       simp only[At,BC,Bz,Bo,last,List.nil_append,heap_setCell,if_true,if_neg hsn,if_neg (Ne.symm hsn)]at this ⊢
       simp[this,setRow,np]
     · have:=cn.eq
       simp only[At,BC,Bz,Bo,last,heap_setCell,if_true,if_neg hsn,if_neg (Ne.symm hsn)]at this ⊢
       simp[this,setRow,BH,BU,np]
   | cons y ys =>
     have hy:=hmem y (by simp)
     obtain⟨cy,c4⟩:=c3
     refine⟨⟨?_,⟨?_, ?_⟩,hd'⟩, ?_⟩
     · have:=hh.eq
       simp only[At,BC,Bz,Bo,last,List.nil_append,heap_setCell,if_true,if_neg (Ne.symm hsn),if_neg hy.1]at this ⊢
       simp[this,setRow,np]
     · have:=cy.eq
       simp only[At,BC,Bz,Bo,last,heap_setCell,if_true,if_neg (Ne.symm hy.1),if_neg (Ne.symm hy.2)]at this ⊢
       simp[this,setRow,BH,BU,np]
     · refine Cc (fun z hz=>CP (hmem z (by simp[hz])).1 (hmem z (by simp[hz])).2 (by simp[last]) ?_) c4
       simp only[Bz,Bo,ne_eq,Option.some.injEq]
       simp only[List.nil_append,List.map_cons,List.nodup_cons,List.mem_map]at hd'
       exact fun e=>hd'.2.1 ⟨z,hz,e.symm⟩
     · have:=cn.eq
       simp only[At,BC,Bz,Bo,last,heap_setCell,if_true,if_neg hsn,if_neg hy.2]at this ⊢
       simp[this,setRow,BH,BU,np]
 · simp only[List.concat_eq_append]at *
   have hx:=hmem x (by simp)
   obtain⟨d1,dx, -⟩:=BD.1 c1
   rw[BA]at cn
   cases ys with
   | nil =>
     simp only[List.append_nil]at *
     refine⟨⟨?_,BD.2 ⟨?_, ?_,trivial⟩,hd'⟩, ?_⟩
     · have:=hh.eq
       simp only[At,BC,BA,Bz,Bo,heap_setCell,if_true,if_neg (Ne.symm hsn),if_neg hx.1]at this ⊢
       have e0:first (xs++[x]++[n]) none=first (xs++[x]) none:=by cases xs <;> rfl
       rw[e0]at this
       simp[this,setRow,np]
     · refine Cc (fun z hz=>CP (hmem z (by simp[hz])).1 (hmem z (by simp[hz])).2 ?_ (by simp[first])) d1
       rw[BA]
       simp only[List.map_append,List.map_cons,List.map_nil,List.nodup_cons,List.nodup_append,List.mem_map,List.mem_cons,List.not_mem_nil,or_false]at hd'
       simp only[ne_eq,Option.some.injEq]
       exact fun e=>hd'.2.2.2 z.b ⟨z,hz,rfl⟩ x.b rfl e.symm
     · have:=dx.eq
       simp only[At,BC,BA,Bz,Bo,heap_setCell,if_true,if_neg (Ne.symm hx.1),if_neg (Ne.symm hx.2)]at this ⊢
       simp[this,setRow,BH,BU,np]
     · have:=cn.eq
       simp only[At,BC,BA,Bz,Bo,heap_setCell,if_true,if_neg hsn,if_neg hx.2]at this ⊢
       simp[this,setRow,BH,BU,np]
   | cons y ys =>
     have hy:=hmem y (by simp)
     have hxy:x.b≠y.b:=by
       simp only[List.map_append,List.map_cons,List.map_nil,List.nodup_cons,List.nodup_append,List.mem_map,List.mem_append,List.mem_cons,List.not_mem_nil,or_false]at hd'
       exact hd'.2.2.2 x.b (.inr rfl) y.b (.inl rfl)
     obtain⟨cy,c4⟩:=c3
     refine⟨⟨?_,BD.2 ⟨BD.2 ⟨?_, ?_,trivial⟩, ?_, ?_⟩,hd'⟩, ?_⟩
     · have:=hh.eq
       simp only[At,BC,BA,Bz,Bo,heap_setCell,if_neg (Ne.symm hsn),if_neg hx.1,if_neg hy.1]at this ⊢
       have e0:first (xs++[x]++n :: y :: ys) none=first (xs++[x]++y :: ys) none:=by cases xs <;> rfl
       have e1:last none (xs++[x]++n :: y :: ys)=last none (xs++[x]++y :: ys):=by simp only[Eg,last]
       rw[this,e0,e1]
     · refine Cc (fun z hz=>CP (hmem z (by simp[hz])).1 (hmem z (by simp[hz])).2 ?_ ?_) d1
       · rw[BA]
         simp only[List.map_append,List.map_cons,List.map_nil,List.nodup_cons,List.nodup_append,List.mem_map,List.mem_append,List.mem_cons,List.not_mem_nil,or_false]at hd'
         simp only[ne_eq,Option.some.injEq]
         exact fun e=>hd'.2.1.2.2 z.b ⟨z,hz,rfl⟩ x.b rfl e.symm
       · simp only[List.map_append,List.map_cons,List.map_nil,List.nodup_cons,List.nodup_append,List.mem_map,List.mem_append,List.mem_cons,List.not_mem_nil,or_false]at hd'
         simp only[Bz,Bo,ne_eq,Option.some.injEq]
         exact fun e=>hd'.2.2.2 z.b (.inl ⟨z,hz,rfl⟩) y.b (.inl rfl) e.symm
     · have:=dx.eq
       simp only[At,BC,BA,Bz,Bo,heap_setCell,if_true,if_neg (Ne.symm hx.2),if_neg (Ne.symm hxy)]at this ⊢
       simp[this,setRow,BH,BU,np]
     · have:=cy.eq
       simp only[At,BC,BA,Bz,Bo,heap_setCell,if_true,if_neg (Ne.symm hy.2),if_neg hxy]at this ⊢
       simp[this,setRow,BH,BU,np]
     · rw[BA] 
       refine Cc (fun z hz=>CP (hmem z (by simp[hz])).1 (hmem z (by simp[hz])).2 ?_ ?_) c4
       · simp only[List.map_append,List.map_cons,List.map_nil,List.nodup_cons,List.nodup_append,List.mem_map,List.mem_append,List.mem_cons,List.not_mem_nil,or_false]at hd'
         simp only[BA,ne_eq,Option.some.injEq]
         exact fun e=>hd'.2.2.2 x.b (.inr rfl) z.b (.inr ⟨z,hz,rfl⟩) e
       · simp only[List.map_append,List.map_cons,List.map_nil,List.nodup_cons,List.nodup_append,List.mem_map,List.mem_append,List.mem_cons,List.not_mem_nil,or_false]at hd'
         simp only[Bz,Bo,ne_eq,Option.some.injEq]
         exact fun e=>hd'.2.2.1.1 ⟨z,hz,e.symm⟩
     · have:=cn.eq
       simp only[At,BC,BA,Bz,Bo,heap_setCell,if_true,if_neg hx.2,if_neg hy.2]at this ⊢
       simp[this,setRow,BH,BU,np]
theorem EL{w:World}{s n:Nat}{pe:Option Nat}{k:Nat}(h1:k≠s)(h2:k≠n)(h3:pe≠some k):(appended w s n pe).heap[k]? = w.heap[k]? := by
 unfold appended
 cases pe <;> simp only[heap_setCell] <;> simp_all [Ne.symm h1,Ne.symm h2]
theorem ED{w:World}{s n:Nat}{pe:Option Nat}{S:Nat→Prop}(h1:S s)(h2:S n)(h3:∀ x,pe=some x→S x):Af S w (appended w s n pe):=by
 unfold appended
 cases pe <;> simp only[] <;>
  refine Af.setCell (Af.setCell (Af.setCell (Af.refl _ _) (.inl h2)) ?_) (.inl h1) <;> first | exact .inl h1 | exact .inl (h3 _ rfl)
theorem EM{w:World}{s n:Nat}{pe:Option Nat}:(appended w s n pe).heap.size=w.heap.size:=by
 unfold appended
 cases pe <;> simp only[size_setCell]
theorem Fg{w:World}{s m:Nat}{room:Int}{xs:List Node}{n:Node}(h:Raw w s m room xs)(hn:At w n.b (BH n none none))(hd:(s :: (xs++[n]).map (·.b)).Nodup) :
   Raw (appended w s n.b (last none xs)) s m room (xs++[n]):=by
 obtain⟨hh,hc,hd0⟩:=h
 have hsn:s≠n.b:=by simp at hd;exact hd.1.2
 have hmem:∀ x∈xs,x.b≠s∧x.b≠n.b:=by
   intro x hx
   simp only[List.map_append,List.map_cons,List.map_nil,List.nodup_cons,List.nodup_append,List.mem_append,List.mem_cons,List.mem_map,List.not_mem_nil,or_false]at hd
   exact⟨fun e=>hd.1 (.inl ⟨x,hx,e⟩),fun e=>hd.2.2.2 x.b ⟨x,hx,rfl⟩ n.b rfl e⟩
 rcases List.eq_nil_or_concat xs with rfl | ⟨xs,x,rfl⟩
 · refine⟨?_,⟨?_,trivial⟩,hd⟩
   · have:=hh.eq
     simp only[At,appended,Bz,Bo,last,List.nil_append,heap_setCell,if_true,if_neg (Ne.symm hsn)]at this ⊢
     simp[this,setRow,np]
   · have:=hn.eq
     simp only[At,appended,Bz,Bo,last,List.nil_append,heap_setCell,if_true,if_neg hsn]at this ⊢
     simp[this,setRow,BH,BU,np]
 · simp only[List.concat_eq_append]at *
   have hx:=hmem x (by simp)
   obtain⟨d1,dx, -⟩:=BD.1 hc
   refine⟨?_,BD.2 ⟨BD.2 ⟨?_, ?_,trivial⟩, ?_,trivial⟩,hd⟩
   · have:=hh.eq
     have e0:first (xs++[x]++[n]) none=first (xs++[x]) none:=by cases xs <;> rfl
     rw[e0]
     simp only[At,appended,BA,heap_setCell,if_true,if_neg (Ne.symm hsn),if_neg hx.1]at this ⊢
     simp[this,setRow,np]
   · refine Cc (fun z hz=>EL (hmem z (by simp[hz])).1 (hmem z (by simp[hz])).2 ?_) d1
     rw[BA]
     simp only[List.map_append,List.map_cons,List.map_nil,List.nodup_cons,List.nodup_append,List.mem_map,List.mem_cons,List.not_mem_nil,or_false]at hd0
     simp only[ne_eq,Option.some.injEq]
     exact fun e=>hd0.2.2.2 z.b ⟨z,hz,rfl⟩ x.b rfl e.symm
   · have:=dx.eq
     simp only[At,appended,BA,Bz,Bo,heap_setCell,if_true,if_neg (Ne.symm hx.1),if_neg (Ne.symm hx.2)]at this ⊢
     simp[this,setRow,BH,BU,np]
   · have:=hn.eq
     simp only[At,appended,BA,Bz,Bo,heap_setCell,if_true,if_neg hsn,if_neg hx.2]at this ⊢
     simp[this,setRow,BH,BU,np]
structure Full(w:World)(s m:Nat)(room:Int)(ns:List Node)(es:List (Int×Value)):Prop where
 raw:Raw w s m room ns
 map:BX w m es
 perm:es.Perm (ns.map fun n=>(n.k,np (some n.b)))
 keys:(ns.map (·.k)).Nodup
 apart:m ∉ s :: ns.map (·.b)
section
variable {w:World}{s m:Nat}{room:Int}{ns:List Node}{es:List (Int×Value)}
theorem Full.frame{w':World}(h:Full w s m room ns es)(hk:∀ b,(b=s∨b=m∨b∈ns.map (·.b))→w'.heap[b]? = w.heap[b]?):Full w' s m room ns es :=
 ⟨h.raw.frame (hk s (.inl rfl)) (fun n hn=>hk n.b (.inr (.inr (List.mem_map.2 ⟨n,hn,rfl⟩)))),h.map.of_heap (hk m (.inr (.inl rfl))),h.perm,h.keys,h.apart⟩
theorem Full.entries(h:Full w s m room ns es):(es.map (·.1)).Nodup:=by
 have:=(h.perm.map (·.1)).nodup_iff.2 (by rw[List.map_map];exact h.keys)
 exact this
theorem Full.mem(h:Full w s m room ns es){n:Node}(hn:n∈ns):(n.k,np (some n.b))∈es:=h.perm.mem_iff.2 (List.mem_map.2 ⟨n,hn,rfl⟩)
theorem Full.D7(h:Full w s m room ns es){k:Int}(hn:k ∉ ns.map (·.k)):∀ v,(k,v) ∉ es:=by
 intro v hv
 obtain⟨n,hn',e⟩:=List.mem_map.1 (h.perm.mem_iff.1 hv)
 exact hn (List.mem_map.2 ⟨n,hn',(Prod.mk.inj e).1⟩)
theorem Chain.lt:∀ {ns:List Node} {p q:Option Nat},Chain w p ns q→∀ n∈ns,n.b<w.heap.size
 | [],_,_,_,_,hn=>by simp at hn
 | a :: ns,_,_,h,n,hn=>by
  rcases List.mem_cons.1 hn with e | e
  ·rw[e];exact h.1.lt
  exact Chain.lt h.2 n e
theorem Full.lt(h:Full w s m room ns es){b:Nat}(hb:b=s∨b=m∨b∈ns.map (·.b)):b<w.heap.size:=by
 rcases hb with e | e | e
 ·rw[e];exact h.raw.head.lt
 ·rw[e];exact h.map.lt
 obtain⟨n,hn,rfl⟩:=List.mem_map.1 e;exact h.raw.chain.lt n hn
theorem Full.alloc(h:Full w s m room ns es)(o:Obj):Full (w.alloc o) s m room ns es :=
 h.frame fun b hb=>by rw[heap_alloc,if_neg (by have:=h.lt hb;omega)]
theorem Full.keeps{w':World}{S:Nat→Prop}(h:Full w s m room ns es)(hk:Af S w w')(hS:∀ b,(b=s∨b=m∨b∈ns.map (·.b))→¬ S b):Full w' s m room ns es :=
 h.frame fun b hb=>hk.block b (h.lt hb) (hS b hb)
theorem Chain.node{ns:List Node}{p q:Option Nat}(h:Chain w p ns q){n:Node}(hn:n∈ns):∃ e l,At w n.b (BH n e l):=by
 obtain⟨xs,ys,rfl⟩:=List.append_of_mem hn
 exact⟨_,_,(BD.1 h).2.1⟩
end
theorem DV(w:World):(zeroValue 122).run Tryd.prog w = .ok (.pointer none) w:=by kernel_rfl
theorem Dz{w:World}{b i:Nat}{c:Array Value}{t:TypeId}{fr:Nat×Nat}{v:Value}(h:At w b (.cells c t fr))(hc:c[i]? = some v):∀ A B,((w.alloc A).alloc B).cell? ⟨b,i,none⟩=some v :=
 fun A B=>((h.alloc A).alloc B).cell hc
theorem Hq(w:World)(s m:Nat)(room:Int)(ns:List Node)(es:List (Int×Value))(n:Node)(h:Full w s m room ns es)(hn:n∈ns) :
   Calls Tryd.prog 85 #[.pointer (some ⟨s,0,none⟩),.int .i64 n.k] w fun e w'=>e = .returned (.tuple #[(Value.agg #[.int .i64 (n.v).1,.int .i64 (n.v).2.1,.int .i64 (n.v).2.2]),.bool true])∧Af (fun _=>False) w w':=by
 have hm:∀ A B,((w.alloc A).alloc B).cell? ⟨s,1,none⟩=some (.map (some m)):=Dz h.raw.head rfl
 obtain⟨e,l,hnode⟩:=h.raw.chain.node hn
 have hl:∀ A B,(Instr.lookup 121 (.map (some m)) (.int .i64 n.k) true).run Tryd.prog ((w.alloc A).alloc B) = .ok (.tuple #[.pointer (some ⟨n.b,0,none⟩),.bool true]) ((w.alloc A).alloc B) :=
   fun A B=>((h.map.alloc A).alloc B).DF Tryd.underlying121 Tryd.underlying3 n.k _ h.entries (h.mem hn) true
 have hp1:∀ A B,((w.alloc A).alloc B).cell? ⟨n.b,1,none⟩=some (.int .i64 n.v.1):=Dz hnode rfl
 have hp2:∀ A B,((w.alloc A).alloc B).cell? ⟨n.b,2,none⟩=some (.int .i64 n.v.2.1):=Dz hnode rfl
 have hp3:∀ A B,((w.alloc A).alloc B).cell? ⟨n.b,3,none⟩=some (.int .i64 n.v.2.2):=Dz hnode rfl
 clear h hnode
 go_enter Tryd.func85,Tryd.ntmps85
 go_wp2
 refine bodyPost_ret (v:= .tuple #[(Value.agg #[.int .i64 (n.v).1,.int .i64 (n.v).2.1,.int .i64 (n.v).2.2]),.bool true]) (by simp[results,Tryd.results85,go_sem]) rfl ⟨rfl, ?_⟩
 exact((Af.refl _ _).alloc _).alloc _
theorem Ie(w:World)(s m:Nat)(room:Int)(ns:List Node)(es:List (Int×Value))(k:Int)(h:Full w s m room ns es)(hn:k ∉ ns.map (·.k)) :
   Calls Tryd.prog 85 #[.pointer (some ⟨s,0,none⟩),.int .i64 k] w fun e w'=>e = .returned (.tuple #[(Value.agg #[.int .i64 0,.int .i64 0,.int .i64 0]),.bool false])∧Af (fun _=>False) w w':=by
 have hm:∀ A B,((w.alloc A).alloc B).cell? ⟨s,1,none⟩=some (.map (some m)):=Dz h.raw.head rfl
 have hl:∀ A B,(Instr.lookup 121 (.map (some m)) (.int .i64 k) true).run Tryd.prog ((w.alloc A).alloc B) = .ok (.tuple #[.pointer none,.bool false]) ((w.alloc A).alloc B) :=
   fun A B=>((h.map.alloc A).alloc B).Dh Tryd.underlying121 Tryd.underlying3 (DV _) k (h.D7 hn) true
 clear h
 go_enter Tryd.func85,Tryd.ntmps85
 go_wp2
 refine bodyPost_ret (v:= .tuple #[(Value.agg #[.int .i64 0,.int .i64 0,.int .i64 0]),.bool false]) (by simp[results,Tryd.results85,go_sem]) rfl ⟨rfl, ?_⟩
 exact((Af.refl _ _).alloc _).alloc _
theorem DU.at{w w':World}(h:DU w w'){b:Nat}{o:Obj}(hb:At w b o):At w' b o:=by unfold At;rw[h.heap];exact hb
theorem DU.raw{w w':World}(h:DU w w'){s m:Nat}{room:Int}{ns:List Node}(hr:Raw w s m room ns):Raw w' s m room ns :=
 hr.frame (by rw[h.heap]) (fun n _=>by rw[h.heap])
theorem DU.keeps{a w w':World}{S:Nat→Prop}(h:DU w w')(hk:Af S a w):Af S a w' :=
 ⟨h.os.trans hk.os,h.tape.trans hk.tape,h.output.trans hk.output,by rw[h.heap];exact hk.size,fun k hk1 hk2=>by rw[h.heap];exact hk.block k hk1 hk2⟩
theorem DK(w:World)(s m:Nat)(room:Int)(xs ys:List Node)(n:Node)(h:Raw w s m room (xs++n :: ys)) :
   Calls Tryd.prog 86 #[.pointer (some ⟨s,0,none⟩),.pointer (some ⟨n.b,0,none⟩)] w fun e w'=>e = .returned (.tuple #[])∧Raw w' s m room (xs++ys)∧At w' n.b (BH n none none) ∧
     Af (fun b=>b=s∨b∈(xs++n :: ys).map (·.b)) w w'∧w'.heap.size=w.heap.size:=by
 have hr:=Ff h
 have hd:=h.nodup
 obtain⟨c1,c2⟩:=BD.1 h.chain
 obtain⟨cn,c3⟩:=c2
 have hsn:s≠n.b:=by simp at hd;exact hd.1.2.1
 refine(Fa w s n.b (last none xs) (first ys none) _ _ (h.head.cell rfl) (h.head.cell rfl) (h.head.free _) (h.head.free _) (cn.cell rfl) (cn.cell rfl) (cn.free _) (cn.free _) hsn ?_ ?_).mono ?_
 · intro x hx
   rcases List.eq_nil_or_concat xs with rfl | ⟨xs,x',rfl⟩
   · cases hx
   · simp only[List.concat_eq_append]at *
     rw[BA]at hx
     obtain rfl:=Option.some.inj hx
     obtain⟨-,dx, -⟩:=BD.1 c1
     refine⟨?_,⟨_,dx.cell rfl⟩,dx.free _⟩
     simp only[List.map_append,List.map_cons,List.map_nil,List.nodup_cons,List.nodup_append,List.mem_map,List.mem_append,List.mem_cons,List.not_mem_nil,or_false]at hd
     exact hd.2.2.2 x'.b (.inr rfl) n.b (.inl rfl)
 · intro y hy
   cases ys with
   | nil=>cases hy
   | cons y' ys =>
     obtain rfl:=Option.some.inj hy
     obtain⟨dy, -⟩:=c3
     simp only[List.map_append,List.map_cons,List.map_nil,List.nodup_cons,List.nodup_append,List.mem_map,List.mem_append,List.mem_cons,List.not_mem_nil,or_false]at hd
     refine⟨fun e=>hd.2.2.1.1 (.inl e.symm),fun x hx => ?_,⟨_,dy.cell rfl⟩,dy.free _⟩
     obtain⟨z,hz,rfl⟩:=List.mem_map.1 (Eh hx)
     exact hd.2.2.2 z.b ⟨z,hz,rfl⟩ y'.b (.inr (.inl rfl))
 · rintro e w' ⟨rfl,he⟩
   refine⟨rfl,he.raw hr.1,he.at hr.2,he.keeps (Ew (.inl rfl) (.inr (by simp)) ?_ ?_),by rw[he.heap,EK]⟩
   · intro x hx;have:=Eh hx;exact .inr (by simp only[List.map_append,List.mem_append];exact .inl this)
   · intro x hx;have:=Gh hx;exact .inr (by simp only[List.map_append,List.map_cons,List.mem_append,List.mem_cons];exact .inr (.inr this))
theorem Dp(w:World)(s m:Nat)(room:Int)(xs:List Node)(n:Node)(h:Raw w s m room xs)(hn:At w n.b (BH n none none))(hd:(s :: (xs++[n]).map (·.b)).Nodup) :
   Calls Tryd.prog 87 #[.pointer (some ⟨s,0,none⟩),.pointer (some ⟨n.b,0,none⟩)] w fun e w'=>e = .returned (.tuple #[])∧Raw w' s m room (xs++[n]) ∧
     Af (fun b=>b=s∨b∈(xs++[n]).map (·.b)) w w'∧w'.heap.size=w.heap.size:=by
 have hr:=Fg h hn hd
 have hsn:s≠n.b:=by simp at hd;exact hd.1.2
 refine(Fz w s n.b (last none xs) _ _ (h.head.cell rfl) (h.head.cell rfl) (h.head.free _) (h.head.free _) (hn.cell rfl) (hn.free _) hsn ?_).mono ?_
 · intro x hx
   rcases List.eq_nil_or_concat xs with rfl | ⟨xs,x',rfl⟩
   · cases hx
   · simp only[List.concat_eq_append]at *
     rw[BA]at hx
     obtain rfl:=Option.some.inj hx
     obtain⟨-,dx, -⟩:=BD.1 h.chain
     simp only[List.map_append,List.map_cons,List.map_nil,List.nodup_cons,List.nodup_append,List.mem_map,List.mem_append,List.mem_cons,List.not_mem_nil,or_false]at hd
     exact⟨hd.2.2.2 x'.b (.inr rfl) n.b rfl,fun e=>hd.1 (.inl (.inr e.symm)),⟨_,dx.cell rfl⟩,dx.free _⟩
 · rintro e w' ⟨rfl,he⟩
   refine⟨rfl,he.raw hr,he.keeps (ED (.inl rfl) (.inr (by simp)) ?_),by rw[he.heap,EM]⟩
   intro x hx;have:=Eh hx;exact .inr (by simp only[List.map_append,List.mem_append];exact .inl this)
theorem Cm{w:World}{b i:Nat}{c:Array Value}{t:TypeId}{fr:Nat×Nat}{v:Value}(h:At w b (.cells c t fr))(hc:c[i]? = some v):∀ A,(w.alloc A).cell? ⟨b,i,none⟩=some v :=
 fun A=>(h.alloc A).cell hc
theorem Full.moved{w w':World}{s m:Nat}{room:Int}{xs ys:List Node}{n:Node}{es:List (Int×Value)}(h:Full w s m room (xs++n :: ys) es)
   (hr:Raw w' s m room (xs++ys++[n])) (hm:w'.heap[m]? = w.heap[m]?):Full w' s m room (xs++ys++[n]) es:=by
 have hp:(xs++n :: ys).Perm (xs++ys++[n]):=by
   rw[List.append_assoc];exact List.Perm.append_left xs (List.perm_append_singleton n ys).symm
 exact⟨hr,h.map.of_heap hm,h.perm.trans (hp.map _),(hp.map _).nodup_iff.1 h.keys,fun x=>h.apart (by
   rcases List.mem_cons.1 x with e | e
   · simp[e]
   · exact List.mem_cons_of_mem _ ((hp.map (·.b)).mem_iff.2 e))⟩
theorem Ig(w:World)(s m:Nat)(room:Int)(xs ys:List Node)(es:List (Int×Value))(n:Node)(h:Full w s m room (xs++n :: ys) es) :
   Calls Tryd.prog 77 #[.pointer (some ⟨s,0,none⟩),.int .i64 n.k] w fun e w'=>e = .returned (.tuple #[(Value.agg #[.int .i64 (n.v).1,.int .i64 (n.v).2.1,.int .i64 (n.v).2.2]),.bool true])∧Full w' s m room (xs++ys++[n]) es ∧
     Af (fun b=>b=s∨b∈(xs++n :: ys).map (·.b)) w w':=by
 have hlt:∀ b,(b=s∨b=m∨b∈(xs++n :: ys).map (·.b))→b<w.heap.size:=fun b hb=>h.lt hb
 have hnd:(s :: (xs++ys++[n]).map (·.b)).Nodup:=by
   have:=h.raw.nodup
   have hp:(s :: (xs++n :: ys).map (·.b)).Perm (s :: (xs++ys++[n]).map (·.b)):=by
     refine List.Perm.cons _ (List.Perm.map _ ?_)
     rw[List.append_assoc];exact List.Perm.append_left xs (List.perm_append_singleton n ys).symm
   exact hp.nodup_iff.1 this
 go_enter Tryd.func77,Tryd.ntmps77
 go_wp2_with fail
 refine(Hq _ s m room _ es n (h.alloc _) (by simp)).mono ?_
 rintro e w1 ⟨rfl,hk1⟩
 have h1:Full w1 s m room (xs++n :: ys) es:=(h.alloc _).keeps hk1 (fun _ _=>id)
 have hm:∀ A,(w1.alloc A).cell? ⟨s,1,none⟩=some (.map (some m)):=Cm h1.raw.head rfl
 have hl:∀ A,(Instr.lookup 121 (.map (some m)) (.int .i64 n.k) false).run Tryd.prog (w1.alloc A) = .ok (.pointer (some ⟨n.b,0,none⟩)) (w1.alloc A) :=
   fun A=>(h1.map.alloc A).DF Tryd.underlying121 Tryd.underlying3 n.k _ h1.entries (h1.mem (by simp)) false
 go_wp2_with fail
 refine(DK _ s m room xs ys n (h1.alloc _).raw).mono ?_
 rintro e w2 ⟨rfl,hr2,hn2,hk2,hz2⟩
 go_wp2_with fail
 refine(Dp _ s m room (xs++ys) n hr2 hn2 hnd).mono ?_
 rintro e w3 ⟨rfl,hr3,hk3,hz3⟩
 have hk:Af (fun b=>b=s∨b∈(xs++n :: ys).map (·.b)) w w3:=by
   refine(((((Af.refl _ w).alloc _).trans hk1 (fun _ _ x=>x.elim)).alloc _).trans hk2 (fun _ _ x=>x)).trans hk3 (fun i hi x => ?_)
   simp only[List.map_append,List.map_cons,List.map_nil,List.mem_append,List.mem_cons,List.not_mem_nil,or_false]at x ⊢
   rcases x with x | (x | x) | x <;> simp[x]
 have hf:Full w3 s m room (xs++ys++[n]) es:=h.moved hr3 (hk.block m (hlt m (.inr (.inl rfl))) (fun x=>h.apart (List.mem_cons.2 x)))
 have hz1:w.heap.size<w1.heap.size:=by have:=hk1.size;rw[size_alloc]at this;omega
 have hnew:∀ i,w.heap.size≤i→¬ (i=s∨i∈(xs++n :: ys).map (·.b)):=by
   rintro i hi (x | x)
   · have:=hlt _ (.inl x);omega
   · have:=hlt _ (.inr (.inr x));omega
 have hmem:∀ b,b∈(xs++ys++[n]).map (·.b)→b∈(xs++n :: ys).map (·.b):=by
   intro b x
   simp only[List.map_append,List.map_cons,List.map_nil,List.mem_append,List.mem_cons,List.not_mem_nil,or_false]at x ⊢
   rcases x with(x | x) | x <;> simp[x]
 have hnew3:∀ i,w.heap.size≤i→¬ (i=s∨i∈(xs++ys++[n]).map (·.b)):=fun i hi x=>hnew i hi (x.imp id (hmem _))
 have hres:=hk3.get (hk2.get ((hk1.get (At.new w (.cells #[.int .i64 0,.int .i64 0,.int .i64 0] 60)) id).alloc _) (hnew _ (Nat.le_refl _))) (hnew3 _ (Nat.le_refl _))
 have hvar:=hk3.get (hk2.get (At.new w1 _) (hnew _ (Nat.le_of_lt hz1))) (hnew3 _ (Nat.le_of_lt hz1))
 have g1:w3.cell? ⟨w.heap.size,0,none⟩=some (.int .i64 0):=hres.cell rfl
 have g2:w3.cell? ⟨w.heap.size,1,none⟩=some (.int .i64 0):=hres.cell rfl
 have g3:w3.cell? ⟨w.heap.size,2,none⟩=some (.int .i64 0):=hres.cell rfl
 have g4:w3.frozen? ⟨w.heap.size,0,none⟩=false:=hres.free 0
 have g5:w3.frozen? ⟨w.heap.size,1,none⟩=false:=hres.free 1
 have g6:w3.frozen? ⟨w.heap.size,2,none⟩=false:=hres.free 2
 have a1:w3.cell? ⟨w1.heap.size,0,none⟩=some (.int .i64 n.v.1):=hvar.cell rfl
 have a2:w3.cell? ⟨w1.heap.size,1,none⟩=some (.int .i64 n.v.2.1):=hvar.cell rfl
 have a3:w3.cell? ⟨w1.heap.size,2,none⟩=some (.int .i64 n.v.2.2):=hvar.cell rfl
 have HN:=Lib.hid (And.intro hres hmem)
 clear hres hnew hnew3 hmem hvar hz1
 go_wp2
 obtain⟨w4,hw4⟩:∃ w4,((w3.setCell ⟨w.heap.size,0,none⟩ (.int .i64 n.v.1)).setCell ⟨w.heap.size,1,none⟩ (.int .i64 n.v.2.1)).setCell ⟨w.heap.size,2,none⟩ (.int .i64 n.v.2.2)=w4:=⟨_,rfl⟩
 rw[hw4]
 have k4:Af (fun b=>b=w.heap.size) w3 w4:=by rw[←hw4];exact(((Af.refl (fun b=>b=w.heap.size) w3).setCell (.inl rfl)).setCell (.inl rfl)).setCell (.inl rfl)
 have r4:At w4 w.heap.size (.cells #[.int .i64 n.v.1,.int .i64 n.v.2.1,.int .i64 n.v.2.2] 60 (0,0)):=by
   rw[←hw4];exact((HN.out.1.BZ 0 (.int .i64 n.v.1)).BZ 1 (.int .i64 n.v.2.1)).BZ 2 (.int .i64 n.v.2.2)
 have hk5:Af (fun b=>b=s∨b∈(xs++n :: ys).map (·.b)) w w4:=by rw[←hw4];exact((hk.setCell (.inr (Nat.le_refl _))).setCell (.inr (Nat.le_refl _))).setCell (.inr (Nat.le_refl _))
 have hf4:=hf.keeps k4 (fun b hb x=>by
   have hx:b=w.heap.size:=x
   subst hx
   have:=hlt w.heap.size (by rcases hb with h | h | h;exact .inl h;exact .inr (.inl h);exact .inr (.inr (HN.out.2 _ h)))
   omega)
 have b1:w4.cell? ⟨w.heap.size,0,none⟩=some (.int .i64 n.v.1):=r4.cell rfl
 have b2:w4.cell? ⟨w.heap.size,1,none⟩=some (.int .i64 n.v.2.1):=r4.cell rfl
 have b3:w4.cell? ⟨w.heap.size,2,none⟩=some (.int .i64 n.v.2.2):=r4.cell rfl
 exact bodyPost_ret (v:= .tuple #[(Value.agg #[.int .i64 (n.v).1,.int .i64 (n.v).2.1,.int .i64 (n.v).2.2]),.bool true]) (by simp[results,Tryd.results77,go_sem,b1,b2,b3]) rfl ⟨rfl,hf4,hk5⟩
theorem Ja(w:World)(s m:Nat)(room:Int)(ns:List Node)(es:List (Int×Value))(k:Int)(h:Full w s m room ns es)(hn:k ∉ ns.map (·.k)) :
   Calls Tryd.prog 77 #[.pointer (some ⟨s,0,none⟩),.int .i64 k] w fun e w'=>e = .returned (.tuple #[(Value.agg #[.int .i64 0,.int .i64 0,.int .i64 0]),.bool false])∧Af (fun _=>False) w w':=by
 go_enter Tryd.func77,Tryd.ntmps77
 go_wp2_with fail
 refine(Ie _ s m room _ es k (h.alloc _) hn).mono ?_
 rintro e w1 ⟨rfl,hk1⟩
 have hres:=(hk1.get (At.new w (.cells #[.int .i64 0,.int .i64 0,.int .i64 0] 60)) id)
 have g1:∀ X,(w1.alloc X).cell? ⟨w.heap.size,0,none⟩=some (.int .i64 0):=fun X=>(hres.alloc X).cell rfl
 have g2:∀ X,(w1.alloc X).cell? ⟨w.heap.size,1,none⟩=some (.int .i64 0):=fun X=>(hres.alloc X).cell rfl
 have g3:∀ X,(w1.alloc X).cell? ⟨w.heap.size,2,none⟩=some (.int .i64 0):=fun X=>(hres.alloc X).cell rfl
 have g4:∀ X,(w1.alloc X).frozen? ⟨w.heap.size,0,none⟩=false:=fun X=>(hres.alloc X).free 0
 have g5:∀ X,(w1.alloc X).frozen? ⟨w.heap.size,1,none⟩=false:=fun X=>(hres.alloc X).free 1
 have g6:∀ X,(w1.alloc X).frozen? ⟨w.heap.size,2,none⟩=false:=fun X=>(hres.alloc X).free 2
 have HN:=Lib.hid hres
 clear hres
 go_wp2
 obtain⟨w4,hw4⟩:∃ w4,(((w1.alloc (.cells #[.int .i64 0,.int .i64 0,.int .i64 0] 60)).setCell ⟨w.heap.size,0,none⟩ (.int .i64 0)).setCell ⟨w.heap.size,1,none⟩ (.int .i64 0)).setCell ⟨w.heap.size,2,none⟩ (.int .i64 0)=w4:=⟨_,rfl⟩
 rw[hw4]
 have r4:At w4 w.heap.size (.cells #[.int .i64 0,.int .i64 0,.int .i64 0] 60 (0,0)):=by
   rw[←hw4];exact(((HN.out.alloc _).BZ 0 (.int .i64 0)).BZ 1 (.int .i64 0)).BZ 2 (.int .i64 0)
 have hk5:Af (fun _=>False) w w4:=by rw[←hw4];exact((((((Af.refl _ w).alloc _).trans hk1 (fun _ _ x=>x.elim)).alloc _).setCell (.inr (Nat.le_refl _))).setCell (.inr (Nat.le_refl _))).setCell (.inr (Nat.le_refl _))
 have b1:w4.cell? ⟨w.heap.size,0,none⟩=some (.int .i64 0):=r4.cell rfl
 have b2:w4.cell? ⟨w.heap.size,1,none⟩=some (.int .i64 0):=r4.cell rfl
 have b3:w4.cell? ⟨w.heap.size,2,none⟩=some (.int .i64 0):=r4.cell rfl
 exact bodyPost_ret (v:= .tuple #[(Value.agg #[.int .i64 0,.int .i64 0,.int .i64 0]),.bool false]) (by simp[results,Tryd.results77,go_sem,b1,b2,b3]) rfl ⟨rfl,hk5⟩
theorem Full.dropped{w w':World}{s m:Nat}{room:Int}{xs ys:List Node}{n:Node}{es:List (Int×Value)}(h:Full w s m room (xs++n :: ys) es)
   (hr:Raw w' s m room (xs++ys)) (hm:BX w' m (es.eraseP (fun x=>x.1==n.k))):Full w' s m room (xs++ys) (es.eraseP (fun x=>x.1==n.k)):=by
 have hp:(xs++n :: ys).Perm (n :: (xs++ys)):=List.perm_middle
 refine⟨hr,hm, ?_, ?_,fun x=>h.apart (by
   rcases List.mem_cons.1 x with e | e
   · simp[e]
   · exact List.mem_cons_of_mem _ ((hp.map (·.b)).mem_iff.2 (List.mem_cons_of_mem _ e)))⟩
 · have h1:es.Perm ((n.k,np (some n.b)) :: (xs++ys).map fun n=>(n.k,np (some n.b))):=h.perm.trans (hp.map _)
   have hm1:(n.k,np (some n.b))∈es:=h.mem (by simp)
   have h2:es.Perm ((n.k,np (some n.b)) :: es.eraseP (fun x=>x.1==n.k)):=by
     obtain⟨a,l1,l2,h3,h4,h5,h6⟩:=List.exists_of_eraseP (p:=fun x:Int×Value=>x.1==n.k) hm1 (by simp)
     have ha:a∈es:=by rw[h5];simp
     have hak:a.1=n.k:=by simpa using h4
     have:a=(n.k,np (some n.b)):=by
       obtain⟨z,hz,rfl⟩:=List.mem_map.1 (h.perm.mem_iff.1 ha)
       have hinj:=h.keys
       simp only at hak
       have hzn:z=n:=by
         rcases List.mem_append.1 hz with hz | hz
         · simp only[List.map_append,List.map_cons,List.nodup_append,List.mem_map,List.mem_cons]at hinj
           exact absurd hak (hinj.2.2 z.k ⟨z,hz,rfl⟩ n.k (.inl rfl))
         · rcases List.mem_cons.1 hz with e | hz
           · exact e
           · simp only[List.map_append,List.map_cons,List.nodup_append,List.nodup_cons,List.mem_map,List.mem_cons]at hinj
             exact absurd ⟨z,hz,hak⟩ hinj.2.1.1
       rw[hzn]
     rw[h6,h5,this]
     exact List.perm_middle
   exact(List.perm_cons _).1 (h2.symm.trans h1)
 · have:=(hp.map (·.k)).nodup_iff.1 h.keys
   simp only[List.map_cons,List.nodup_cons]at this
   exact this.2
theorem Hm(w:World)(s m:Nat)(room:Int)(xs ys:List Node)(es:List (Int×Value))(n:Node)(h:Full w s m room (xs++n :: ys) es) :
   Calls Tryd.prog 88 #[.pointer (some ⟨s,0,none⟩),.int .i64 n.k] w fun e w'=>e = .returned (.bool true)∧Full w' s m room (xs++ys) (es.eraseP (fun x=>x.1==n.k)) ∧
     Af (fun b=>b=s∨b=m∨b∈(xs++n :: ys).map (·.b)) w w'∧w'.heap.size=w.heap.size:=by
 have hm:w.cell? ⟨s,1,none⟩=some (.map (some m)):=h.raw.head.cell rfl
 have hl:(Instr.lookup 121 (.map (some m)) (.int .i64 n.k) true).run Tryd.prog w = .ok (.tuple #[.pointer (some ⟨n.b,0,none⟩),.bool true]) w :=
   h.map.DF Tryd.underlying121 Tryd.underlying3 n.k _ h.entries (h.mem (by simp)) true
 go_enter Tryd.func88,Tryd.ntmps88
 go_wp2_with fail
 refine(DK _ s m room xs ys n h.raw).mono ?_
 rintro e w2 ⟨rfl,hr2,hn2,hk2,hz2⟩
 have hma:∀ b,b∈s :: (xs++n :: ys).map (·.b)→b≠m:=fun b hb e=>h.apart (e ▸ hb)
 have hm2:w2.cell? ⟨s,1,none⟩=some (.map (some m)):=hr2.head.cell rfl
 obtain⟨w3,hrun,hm3,hk3,hz3⟩:=BX.H9 (h.map.of_heap (hk2.block m (h.lt (.inr (.inl rfl))) (fun x=>h.apart (List.mem_cons.2 x)))) Tryd.underlying121 Tryd.underlying3 n.k _ h.entries (h.mem (by simp))
 have hr3:Raw w3 s m room (xs++ys):=hr2.frame (hk3.block s hr2.head.lt (hma s (by simp))) (fun z hz=>hk3.block z.b (hr2.chain.lt z hz) (hma z.b (by
   refine List.mem_cons_of_mem _ (List.mem_map.2 ⟨z, ?_,rfl⟩)
   rcases List.mem_append.1 hz with hz | hz <;> simp[hz])))
 have hf:Full w3 s m room (xs++ys) (es.eraseP (fun x=>x.1==n.k)):=h.dropped hr3 hm3
 have hk:Af (fun b=>b=s∨b=m∨b∈(xs++n :: ys).map (·.b)) w w3 :=
   (hk2.mono (fun i _ x=>x.elim .inl (fun y=> .inr (.inr y)))).trans hk3 (fun i _ x=> .inr (.inl x))
 have hz:w3.heap.size=w.heap.size:=hz3.trans hz2
 clear hr3 hm3 hk3 hz3 hk2 hz2 hma
 go_wp2
 go_ret
 exact⟨rfl,hf,hk,hz⟩
end Go.Proofs.YtjdkigkknhefpaaDoor.Sl
