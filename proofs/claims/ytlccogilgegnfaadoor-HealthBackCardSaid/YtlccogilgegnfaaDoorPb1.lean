/- Packed: EngA, EngB, EngC, EngU, EngD, Mem, EngE, EngF, EngG, EngH, Ty, Tf, EngJ, EngK, EngL, EngM, EngI, EngN, EngQ, EngW, EngY, Aa, Ab. No conditions. -/
import Derived.WalkKit
import Derived.KernelRfl
import Derived.Deep.LoopGhost
import Derived.ProofKit
import Derived.ChangeKeysEq
import Derived.Laws.StructEq
import Derived.OrdersHeld
import Derived.Test.YtlccogilgegnfaaDoorProg
import Derived.WalkLawsBesides
import Derived.WalkSpells
import Derived.Lib.Hide
import Derived.BigQuiet
import Derived.BigRegion
import Derived.Deep.QuietTactic
import Derived.Deep.RegionWith
import Derived.RangeFuncRecord
import Derived.Maps.OwnOps
import Derived.Maps.AppendAt
import Derived.Deep.Slices
import Derived.SizedLaws
import Derived.WideShapes
import Derived.DataReads
import Derived.Laws.OwnMore
import Derived.Lib.AppendStr
import Derived.Laws.IdiomCopy
import Derived.Laws.CopyRow
import Derived.Laws.IdiomStrings
namespace Go.Proofs.YtlccogilgegnfaaDoor.Eng
open Go
set_option linter.unusedSimpArgs false
set_option linter.unusedVariables false
inductive Ch where
 | blk (b:Nat) (o:Obj) (rw:Bool)
 | inv (F:Nat→Prop) (Φ:World→Prop) (rw:Bool)
def Ch.F:Ch→Nat→Prop
 | .blk b _ _=>fun k=>k=b
 | .inv F _ _=>F
def Ch.rw:Ch→Bool
 | .blk _ _ r=>r
 | .inv _ _ r=>r
def Ch.holds:Ch→World→Prop
 | .blk b o _=>fun w=>w.heap[b]? = some o
 | .inv _ Φ _=>Φ
def Ch.stable(c:Ch):Prop:=∀ w w':World,(∀ b,c.F b→w'.heap[b]? = w.heap[b]?)→c.holds w→c.holds w'
theorem Ch.RS(b:Nat)(o:Obj)(r:Bool):(Ch.blk b o r).stable:=fun w w' h hw=>(h b rfl).trans hw
abbrev Key:=(Nat→Prop)×Bool
def Ch.key(c:Ch):Key:=(c.F,c.rw)
def Key.apart(c d:Key):Prop:=(c.2=true∨d.2=true)→∀ b,c.1 b→¬ d.1 b
structure AW where
 w0:World
 n:Nat
 σ:List Ch
structure Sat(A:AW)(w:World):Prop where
 os:w.os=A.w0.os
 tape:w.tape=A.w0.tape
 output:w.output=A.w0.output
 size:w.heap.size=A.n
 all:∀ c∈A.σ,c.holds w
 bnd:∀ c∈A.σ,∀ b,c.F b→b<A.n
 Kq:∀ c∈A.σ,c.stable
 Jq:(A.σ.map Ch.key).Pairwise Key.apart
theorem Sat.at{A:AW}{w:World}(h:Sat A w){i:Nat}{c:Ch}(hc:A.σ[i]? = some c):c.holds w:=h.all _ (List.mem_of_getElem? hc)
theorem Sat.drew{A:AW}{w:World}(h:Sat A w):Sat A w.drew := 
 ⟨h.os,h.tape,h.output,h.size,fun c hc=>h.Kq c hc w w.drew (fun _ _=>rfl) (h.all c hc),h.bnd,h.Kq,h.Jq⟩
theorem KH{l:List Key}(h:l.Pairwise Key.apart){i j:Nat}{c d:Key}(hi:l[i]? = some c)(hj:l[j]? = some d)(hij:i≠j)(hr:c.2=true):∀ b,c.1 b→¬ d.1 b:=by
 obtain⟨hi',rfl⟩:=List.getElem?_eq_some_iff.1 hi
 obtain⟨hj',rfl⟩:=List.getElem?_eq_some_iff.1 hj
 rcases Nat.lt_or_gt_of_ne hij with hlt | hlt
 ·exact List.pairwise_iff_getElem.1 h i j hi' hj' hlt (.inl hr)
 intro b hb hd
 exact List.pairwise_iff_getElem.1 h j i hj' hi' hlt (.inr hr) b hd hb
theorem Sat.put{A:AW}{w w':World}(h:Sat A w){i:Nat}{c c':Ch}(hc:A.σ[i]? = some c)(hrw:c.rw=true)(hk:c'.key=c.key)(hst:c'.stable)
   (hos:w'.os=w.os) (htp:w'.tape=w.tape) (hout:w'.output=w.output) (hsz:w'.heap.size=w.heap.size)
   (hb:∀ b,¬ c.F b→w'.heap[b]? = w.heap[b]?) (hh:c'.holds w'):Sat { A with σ:=A.σ.set i c' } w':=by
 have hF:c'.F=c.F:=congrArg Prod.fst hk
 obtain⟨hi,hci⟩:=List.getElem?_eq_some_iff.1 hc
 have hmap:(A.σ.set i c').map Ch.key=A.σ.map Ch.key:=by
   rw[List.map_set,hk]
   apply List.ext_getElem?
   intro j
   rw[List.getElem?_set]
   split
   · rename_i hij;subst hij;simp[hc,hi,hci]
   · rfl
 refine⟨hos.trans h.os,htp.trans h.tape,hout.trans h.output,hsz.trans h.size, ?_, ?_, ?_, ?_⟩
 · intro d hd
   obtain⟨j,hj⟩:=List.getElem?_of_mem hd
   by_cases hij:i=j
   · subst hij;rw[List.getElem?_set_self hi]at hj;cases hj;exact hh
   · rw[List.getElem?_set_ne hij]at hj
     refine h.Kq d (List.mem_of_getElem? hj) w w' (fun b hbd=>hb b (fun hcb => ?_)) (h.at hj)
     exact KH h.Jq (i:=i) (j:=j) (by rw[List.getElem?_map,hc];rfl) (by rw[List.getElem?_map,hj];rfl) hij hrw b hcb hbd
 · intro d hd b hbd
   rcases List.mem_or_eq_of_mem_set hd with hd | rfl
   · exact h.bnd d hd b hbd
   · exact h.bnd c (List.mem_of_getElem? hc) b (by rw[←hF];exact hbd)
 · intro d hd
   rcases List.mem_or_eq_of_mem_set hd with hd | rfl
   · exact h.Kq d hd
   · exact hst
 · rw[hmap];exact h.Jq
theorem Sat.new{A:AW}{w:World}(h:Sat A w)(o:Obj):Sat { A with n:=A.n+1,σ:=A.σ++[.blk A.n o true] } { w with heap:=w.heap.push o }:=by
 have hget:∀ b,b<A.n→(w.heap.push o)[b]? = w.heap[b]? := fun b hb=>by
  rw[Array.getElem?_push,if_neg (by rw[h.size];omega)]
 refine⟨h.os,h.tape,h.output,by simp[h.size], ?_, ?_, ?_, ?_⟩
 ·intro c hc
  rcases List.mem_append.1 hc with hc | hc
  ·exact h.Kq c hc w _ (fun b hb=>hget b (h.bnd c hc b hb)) (h.all c hc)
  simp only[List.mem_singleton]at hc;subst hc
  show(w.heap.push o)[A.n]? = some o
  rw[Array.getElem?_push,if_pos h.size.symm]
 ·intro c hc b hb
  show b<A.n+1
  rcases List.mem_append.1 hc with hc | hc
  ·have:=h.bnd c hc b hb;omega
  simp only[List.mem_singleton]at hc;subst hc;cases hb;omega
 ·intro c hc
  rcases List.mem_append.1 hc with hc | hc
  ·exact h.Kq c hc
  simp only[List.mem_singleton]at hc;subst hc;exact Ch.RS _ _ _
 show((A.σ++[Ch.blk A.n o true]).map Ch.key).Pairwise Key.apart
 rw[List.map_append,List.pairwise_append]
 refine⟨h.Jq,by simp, ?_⟩
 intro k hk k' hk' _ b hb hb'
 simp only[List.map_cons,List.map_nil,List.mem_singleton]at hk'
 subst hk'
 obtain⟨c,hc,rfl⟩:=List.mem_map.1 hk
 have h1:=h.bnd c hc b hb
 have h2:b=A.n:=hb'
 omega
inductive LC where
 | at (i:Nat)
 | atv (i:Nat) (v:Value)
 | via (i:Nat) (v:Value)
 | shp (i:Nat) (t n:Nat)
def IL:List Prop→Prop
 | []=>True
 | p :: l=>p∧IL l
theorem Eo{l m:List Prop}:IL (l++m)↔IL l∧IL m:=by
 induction l with
 | nil=>simp[IL]
 | cons p l ih=>simp[IL,ih,and_assoc]
def scalar:Value→Bool
 | .agg _=>false
 | .tuple _=>false
 | _=>true
abbrev Oo(α:Type):=Option (List Prop×List LC×α×AW)
def Oo.and{α:Type}(ps:List Prop)(r:Oo α):Oo α:=match r with
 | some (qs,x)=>some (ps++qs,x)
 | none=>none
theorem Oo.GR{α:Type}{ps vs:List Prop}{r:Oo α}{x:List LC×α×AW}(h:Oo.and ps r=some (vs,x)):∃ qs,r=some (qs,x)∧vs=ps++qs:=by
 unfold Oo.and at h
 split at h
 ·rename_i qs y;simp at h;exact⟨qs,by rw[h.2],h.1.symm⟩
 cases h
def Eh(P:Program)(ro:Bool){α:Type}:Sem α→List LC→AW→Oo α
 | .pure a,cs,A=>some ([],cs,a,A)
 | .load _ a k,.at i :: cs,A=>match A.σ[i]? with
  | some (.blk b (.cells c _ _) _)=>match a.spot,c[a.off]? with
   | none,some v=>(Eh P ro (k v) cs A).and [a.block=b]
   | _,_=>none
  | _=>none
 | .load _ a k,.atv i v :: cs,A=>match A.σ[i]? with
  | some (.blk b (.cells c _ _) _)=>(Eh P ro (k v) cs A).and [a.spot=none,a.block=b,c[a.off]? = some v]
  | _=>none
 | .load _ a k,.via i v :: cs,A=>match A.σ[i]? with
  | some c=>(Eh P ro (k v) cs A).and [∀ w,c.holds w→w.cell? a=some v]
  | _=>none
 | .load _ _ _,_,_=>none
 | .store _ a v k,.at i :: cs,A=>match A.σ[i]? with
  | some (.blk b (.cells c t (0,0)) true)=>match ro,scalar v,c[a.off]?,a.spot with
   | false,true,some _,none=>(Eh P ro k cs { A with σ:=A.σ.set i (.blk b (.cells (c.setIfInBounds a.off v) t (0,0)) true) }).and [a.block=b]
   | _,_,_,_=>none
  | _=>none
 | .store _ a v k,.atv i _ :: cs,A=>match A.σ[i]? with
  | some (.blk b (.cells c t (0,0)) true)=>match ro,scalar v with
   | false,true=>(Eh P ro k cs { A with σ:=A.σ.set i (.blk b (.cells (c.setIfInBounds a.off v) t (0,0)) true) }).and [a.spot=none,a.block=b,a.off<c.size]
   | _,_=>none
  | _=>none
 | .store _ _ _ _,_,_=>none
 | .new o k,cs,A=>match ro with
  | false=>Eh P ro (k A.n) cs { A with n:=A.n+1,σ:=A.σ++[.blk A.n o true] }
  | true=>none
 | .shape r k,.at i :: cs,A=>match A.σ[i]? with
  | some (.blk b (.cells c t _) _)=>(Eh P ro (k (some (t,c.size))) cs A).and [r=b]
  | some (.blk b (.map _ _) _)=>(Eh P ro (k none) cs A).and [r=b]
  | _=>none
 | .shape r k,.shp i t n :: cs,A=>match A.σ[i]? with
  | some c=>(Eh P ro (k (some (t,n))) cs A).and [∀ w,c.holds w→w.shape? r=some (t,n)]
  | _=>none
 | .shape _ _,_,_=>none
 | .freeze _ _ _,_,_=>none
 | .frozen a k,.at i :: cs,A=>match A.σ[i]? with
  | some (.blk b (.cells _ _ (0,0)) _)=>(Eh P ro (k false) cs A).and [a.block=b]
  | _=>none
 | .frozen _ _,_,_=>none
 | .getObj r k,.at i :: cs,A=>match A.σ[i]? with
  | some (.blk b (.map es c) _)=>(Eh P ro (k (.map es c)) cs A).and [r=b]
  | _=>none
 | .getObj _ _,_,_=>none
 | .setObj r o k,.at i :: cs,A=>match A.σ[i]? with
  | some (.blk b (.map _ _) true)=>match ro with
   | false=>(Eh P ro k cs { A with σ:=A.σ.set i (.blk b o true) }).and [r=b]
   | true=>none
  | _=>none
 | .setObj _ _ _,_,_=>none
 | .choose _ _,_,_=>none
 | .sys _ _,_,_=>none
 | .program k,cs,A=>Eh P ro (k P) cs A
 | .mark _ k,cs,A=>Eh P ro k cs A
 | .halt _,_,_=>none
theorem TE(w:World)(a:Addr)(v:Value)(b:Nat)(h:¬ b=a.block):(w.setCell a v).heap[b]? = w.heap[b]? := by
 simp only[World.setCell,Array.getElem?_modify]
 rw[if_neg (fun e=>h e.symm)]
theorem Rn(w:World)(a:Addr)(v:Value)(c:Array Value)(t:TypeId)(f:Nat×Nat)(hs:a.spot=none)(h:w.heap[a.block]? = some (.cells c t f)) :
   (w.setCell a v).heap[a.block]? = some (.cells (c.setIfInBounds a.off v) t f):=by
 simp only[World.setCell,Array.getElem?_modify,if_true,h,Option.map_some,hs,Option.isSome_none,Bool.false_eq_true,if_false]
theorem run_store{P:Program}{α:Type}{m:_root_.Go.Mode}{a:Addr}{v:Value}{k:Sem α}{w:World}(hs:scalar v=true){x:Value}(hc:w.cell? a=some x)(hf:w.frozen? a=false) :
   (Sem.store m a v k).run P w=k.run P (w.setCell a v):=by
 cases v <;> first | (simp[scalar]at hs;done) | simp[Sem.run,hc,hf]
theorem Zae{P:Program}{ro:Bool}{α:Type}(s:Sem α):∀ (cs:List LC) (A:AW) (vs:List Prop) (cs':List LC) (x:α) (A':AW),Eh P ro s cs A=some (vs,cs',x,A')→IL vs→∀ w,Sat A w→∃ w',s.run P w = .ok x w'∧Sat A' w'∧A'.w0=A.w0:=by
 induction s with
 | pure a =>
  intro cs A vs cs' x A' h hv w hw
  simp only[Eh,Option.some.injEq,Prod.mk.injEq]at h
  obtain⟨-, -,rfl,rfl⟩:=h
  exact⟨w,rfl,hw,rfl⟩
 | load m a k ih =>
  intro cs A vs cs' x A' h hv w hw
  cases cs with
  | nil=>simp[Eh]at h
  | cons c cs =>
   cases c with
   | «at» i =>
    simp only[Eh]at h
    split at h
    ·rename_i b c t f r hi
     split at h
     ·rename_i v h1 hc
      obtain⟨qs,h',rfl⟩:=Oo.GR h
      rw[Eo]at hv
      obtain⟨⟨h2, -⟩,hv⟩:=hv
      have hb:w.heap[a.block]? = some (.cells c t f):=h2 ▸ hw.at hi
      have hcell:w.cell? a=some v:=by simp[World.cell?,hb,h1,hc]
      obtain⟨w',hr,hs⟩:=ih v cs A qs cs' x A' h' hv w hw
      exact⟨w',by simp[Sem.run,hcell,hr],hs⟩
     cases h
    cases h
   | atv i v =>
    simp only[Eh]at h
    split at h
    ·rename_i b c t f r hi
     obtain⟨qs,h',rfl⟩:=Oo.GR h
     rw[Eo]at hv
     obtain⟨⟨h1,h2,h3, -⟩,hv⟩:=hv
     have hb:w.heap[a.block]? = some (.cells c t f):=h2 ▸ hw.at hi
     have hcell:w.cell? a=some v:=by simp[World.cell?,hb,h1,h3]
     obtain⟨w',hr,hs⟩:=ih v cs A qs cs' x A' h' hv w hw
     exact⟨w',by simp[Sem.run,hcell,hr],hs⟩
    cases h
   | via i v =>
    simp only[Eh]at h
    split at h
    ·rename_i c hi
     obtain⟨qs,h',rfl⟩:=Oo.GR h
     rw[Eo]at hv
     obtain⟨⟨h1, -⟩,hv⟩:=hv
     have hcell:w.cell? a=some v:=h1 w (hw.at hi)
     obtain⟨w',hr,hs⟩:=ih v cs A qs cs' x A' h' hv w hw
     exact⟨w',by simp[Sem.run,hcell,hr],hs⟩
    cases h
   | shp i t n=>simp[Eh]at h
 | store m a v k ih =>
  intro cs A vs cs' x A' h hv w hw
  cases cs with
  | nil=>simp[Eh]at h
  | cons c cs =>
   cases c with
   | «at» i =>
    simp only[Eh]at h
    split at h
    ·rename_i b c t hi
     split at h
     ·rename_i y hsc hc h1
      obtain⟨qs,h',rfl⟩:=Oo.GR h
      rw[Eo]at hv
      obtain⟨⟨h2, -⟩,hv⟩:=hv
      have hb:w.heap[a.block]? = some (.cells c t (0,0)):=h2 ▸ hw.at hi
      have hcell:w.cell? a=some y:=by simp[World.cell?,hb,h1,hc]
      have hfz:w.frozen? a=false:=by simp[World.frozen?,hb]
      have hs':=hw.put (w':=w.setCell a v) hi rfl (c':= .blk b (.cells (c.setIfInBounds a.off v) t (0,0)) true) rfl (Ch.RS _ _ _) rfl rfl rfl (by simp[World.setCell]) (fun k hk=>TE w a v k (fun e=>hk (e.trans h2))) (by subst h2;exact Rn w a v c t _ h1 hb)
      obtain⟨w',hr,hs⟩:=ih cs _ qs cs' x A' h' hv _ hs'
      exact⟨w',by rw[run_store hsc hcell hfz];exact hr,hs⟩
     cases h
    cases h
   | atv i _ =>
    simp only[Eh]at h
    split at h
    ·rename_i b c t hi
     split at h
     ·rename_i _ hsc
      obtain⟨qs,h',rfl⟩:=Oo.GR h
      rw[Eo]at hv
      obtain⟨⟨h1,h2,h3, -⟩,hv⟩:=hv
      have hb:w.heap[a.block]? = some (.cells c t (0,0)):=h2 ▸ hw.at hi
      have hcell:w.cell? a=some c[a.off]:=by simp[World.cell?,hb,h1,h3]
      have hfz:w.frozen? a=false:=by simp[World.frozen?,hb]
      have hs':=hw.put (w':=w.setCell a v) hi rfl (c':= .blk b (.cells (c.setIfInBounds a.off v) t (0,0)) true) rfl (Ch.RS _ _ _) rfl rfl rfl (by simp[World.setCell]) (fun k hk=>TE w a v k (fun e=>hk (e.trans h2))) (by subst h2;exact Rn w a v c t _ h1 hb)
      obtain⟨w',hr,hs⟩:=ih cs _ qs cs' x A' h' hv _ hs'
      exact⟨w',by rw[run_store hsc hcell hfz];exact hr,hs⟩
     cases h
    cases h
   | via i v=>simp[Eh]at h
   | shp i t n=>simp[Eh]at h
 | new o k ih =>
  intro cs A vs cs' x A' h hv w hw
  simp only[Eh]at h
  split at h
  ·obtain⟨w',hr,hs⟩:=ih A.n cs _ vs cs' x A' h hv _ (hw.new o)
   exact⟨w',by simp only[Sem.run,hw.size];exact hr,hs⟩
  cases h
 | shape r k ih =>
  intro cs A vs cs' x A' h hv w hw
  cases cs with
  | nil=>simp[Eh]at h
  | cons c cs =>
   cases c with
   | «at» i =>
    simp only[Eh]at h
    split at h
    ·rename_i b c t f rw hi
     obtain⟨qs,h',rfl⟩:=Oo.GR h
     rw[Eo]at hv
     obtain⟨⟨h1, -⟩,hv⟩:=hv
     have hb:w.heap[r]? = some (.cells c t f):=h1 ▸ hw.at hi
     obtain⟨w',hr,hs⟩:=ih _ cs A qs cs' x A' h' hv w hw
     exact⟨w',by simp[Sem.run,World.shape?,hb,hr],hs⟩
    ·rename_i b es c rw hi
     obtain⟨qs,h',rfl⟩:=Oo.GR h
     rw[Eo]at hv
     obtain⟨⟨h1, -⟩,hv⟩:=hv
     have hb:w.heap[r]? = some (.map es c):=h1 ▸ hw.at hi
     obtain⟨w',hr,hs⟩:=ih _ cs A qs cs' x A' h' hv w hw
     exact⟨w',by simp[Sem.run,World.shape?,hb,hr],hs⟩
    cases h
   | atv i v=>simp[Eh]at h
   | via i v=>simp[Eh]at h
   | shp i t n =>
    simp only[Eh]at h
    split at h
    ·rename_i c hi
     obtain⟨qs,h',rfl⟩:=Oo.GR h
     rw[Eo]at hv
     obtain⟨⟨h1, -⟩,hv⟩:=hv
     obtain⟨w',hr,hs⟩:=ih _ cs A qs cs' x A' h' hv w hw
     exact⟨w',by simp[Sem.run,h1 w (hw.at hi),hr],hs⟩
    cases h
 | freeze a n k ih=>intro cs A vs cs' x A' h;simp[Eh]at h
 | frozen a k ih =>
  intro cs A vs cs' x A' h hv w hw
  cases cs with
  | nil=>simp[Eh]at h
  | cons c cs =>
   cases c with
   | «at» i =>
    simp only[Eh]at h
    split at h
    ·rename_i b c t rw hi
     obtain⟨qs,h',rfl⟩:=Oo.GR h
     rw[Eo]at hv
     obtain⟨⟨h1, -⟩,hv⟩:=hv
     have hb:w.heap[a.block]? = some (.cells c t (0,0)):=h1 ▸ hw.at hi
     have hfz:w.frozen? a=false:=by simp[World.frozen?,hb]
     obtain⟨w',hr,hs⟩:=ih _ cs A qs cs' x A' h' hv w hw
     exact⟨w',by simp[Sem.run,hfz,hr],hs⟩
    cases h
   | atv i v=>simp[Eh]at h
   | via i v=>simp[Eh]at h
   | shp i t n=>simp[Eh]at h
 | getObj r k ih =>
  intro cs A vs cs' x A' h hv w hw
  cases cs with
  | nil=>simp[Eh]at h
  | cons c cs =>
   cases c with
   | «at» i =>
    simp only[Eh]at h
    split at h
    ·rename_i b es c rw hi
     obtain⟨qs,h',rfl⟩:=Oo.GR h
     rw[Eo]at hv
     obtain⟨⟨h1, -⟩,hv⟩:=hv
     have hb:w.heap[r]? = some (.map es c):=h1 ▸ hw.at hi
     obtain⟨w',hr,hs⟩:=ih _ cs A qs cs' x A' h' hv w hw
     exact⟨w',by simp[Sem.run,hb,hr],hs⟩
    cases h
   | atv i v=>simp[Eh]at h
   | via i v=>simp[Eh]at h
   | shp i t n=>simp[Eh]at h
 | setObj r o k ih =>
  intro cs A vs cs' x A' h hv w hw
  cases cs with
  | nil=>simp[Eh]at h
  | cons c cs =>
   cases c with
   | «at» i =>
    simp only[Eh]at h
    split at h
    ·rename_i b es c hi
     split at h
     case h_2=>cases h
     obtain⟨qs,h',rfl⟩:=Oo.GR h
     rw[Eo]at hv
     obtain⟨⟨h1, -⟩,hv⟩:=hv
     have hb:w.heap[r]? = some (.map es c):=h1 ▸ hw.at hi
     have hlt:r<w.heap.size:=(Array.getElem?_eq_some_iff.1 hb).1
     have hs':=hw.put (w':={ w with heap:=w.heap.setIfInBounds r o }) hi rfl (c':= .blk b o true) rfl (Ch.RS _ _ _) rfl rfl rfl (by simp) (fun k hk=>by
      have hne:r≠k:=fun e=>hk (show k=b from e ▸ h1)
      simp[Array.getElem?_setIfInBounds_ne hne]) (by subst h1;simp[Ch.holds,hlt])
     obtain⟨w',hr,hs⟩:=ih cs _ qs cs' x A' h' hv _ hs'
     exact⟨w',by simp[Sem.run,hb];exact hr,hs⟩
    cases h
   | atv i v=>simp[Eh]at h
   | via i v=>simp[Eh]at h
   | shp i t n=>simp[Eh]at h
 | choose q k ih=>intro cs A vs cs' x A' h;simp[Eh]at h
 | sys c k ih=>intro cs A vs cs' x A' h;simp[Eh]at h
 | program k ih =>
  intro cs A vs cs' x A' h hv w hw
  simp only[Eh]at h
  obtain⟨w',hr,hs⟩:=ih P cs _ vs cs' x A' h hv _ hw
  exact⟨w',by simp only[Sem.run];exact hr,hs⟩
 | mark m k ih =>
  intro cs A vs cs' x A' h hv w hw
  simp only[Eh]at h
  obtain⟨w',hr,hs⟩:=ih cs _ vs cs' x A' h hv _ hw
  exact⟨w',by simp only[Sem.run];exact hr,hs⟩
 | halt h'=>intro cs A vs cs' x A' h;simp[Eh]at h
theorem TK{P:Program}{α:Type}(s:Sem α):∀ (cs:List LC) (A:AW) (vs:List Prop) (cs':List LC) (x:α) (A':AW),Eh P true s cs A=some (vs,cs',x,A')→IL vs→∀ w:World,(∀ c∈A.σ,c.holds w)→s.run P w = .ok x w∧A'=A:=by
 induction s with
 | pure a =>
  intro cs A vs cs' x A' h hv w hw
  simp only[Eh,Option.some.injEq,Prod.mk.injEq]at h
  obtain⟨-, -,rfl,rfl⟩:=h
  exact⟨rfl,rfl⟩
 | load m a k ih =>
  intro cs A vs cs' x A' h hv w hw
  cases cs with
  | nil=>simp[Eh]at h
  | cons c cs =>
   cases c with
   | «at» i =>
    simp only[Eh]at h
    split at h
    ·rename_i b c t f r hi
     split at h
     ·rename_i v h1 hc
      obtain⟨qs,h',rfl⟩:=Oo.GR h
      rw[Eo]at hv
      obtain⟨⟨h2, -⟩,hv⟩:=hv
      have hb:w.heap[a.block]? = some (.cells c t f):=h2 ▸ hw _ (List.mem_of_getElem? hi)
      have hcell:w.cell? a=some v:=by simp[World.cell?,hb,h1,hc]
      obtain⟨hr,hs⟩:=ih v cs A qs cs' x A' h' hv w hw
      exact⟨by simp[Sem.run,hcell,hr],hs⟩
     cases h
    cases h
   | atv i v =>
    simp only[Eh]at h
    split at h
    ·rename_i b c t f r hi
     obtain⟨qs,h',rfl⟩:=Oo.GR h
     rw[Eo]at hv
     obtain⟨⟨h1,h2,h3, -⟩,hv⟩:=hv
     have hb:w.heap[a.block]? = some (.cells c t f):=h2 ▸ hw _ (List.mem_of_getElem? hi)
     have hcell:w.cell? a=some v:=by simp[World.cell?,hb,h1,h3]
     obtain⟨hr,hs⟩:=ih v cs A qs cs' x A' h' hv w hw
     exact⟨by simp[Sem.run,hcell,hr],hs⟩
    cases h
   | via i v =>
    simp only[Eh]at h
    split at h
    ·rename_i c hi
     obtain⟨qs,h',rfl⟩:=Oo.GR h
     rw[Eo]at hv
     obtain⟨⟨h1, -⟩,hv⟩:=hv
     have hcell:w.cell? a=some v:=h1 w (hw _ (List.mem_of_getElem? hi))
     obtain⟨hr,hs⟩:=ih v cs A qs cs' x A' h' hv w hw
     exact⟨by simp[Sem.run,hcell,hr],hs⟩
    cases h
   | shp i t n=>simp[Eh]at h
 | store m a v k ih =>
  intro cs A vs cs' x A' h
  cases cs with
  | nil=>simp[Eh]at h
  | cons c cs=>cases c <;> (simp only[Eh]at h;repeat (split at h)) <;> simp_all
 | new o k ih=>intro cs A vs cs' x A' h;simp[Eh]at h
 | shape r k ih =>
  intro cs A vs cs' x A' h hv w hw
  cases cs with
  | nil=>simp[Eh]at h
  | cons c cs =>
   cases c with
   | «at» i =>
    simp only[Eh]at h
    split at h
    ·rename_i b c t f rw hi
     obtain⟨qs,h',rfl⟩:=Oo.GR h
     rw[Eo]at hv
     obtain⟨⟨h1, -⟩,hv⟩:=hv
     have hb:w.heap[r]? = some (.cells c t f):=h1 ▸ hw _ (List.mem_of_getElem? hi)
     obtain⟨hr,hs⟩:=ih _ cs A qs cs' x A' h' hv w hw
     exact⟨by simp[Sem.run,World.shape?,hb,hr],hs⟩
    ·rename_i b es c rw hi
     obtain⟨qs,h',rfl⟩:=Oo.GR h
     rw[Eo]at hv
     obtain⟨⟨h1, -⟩,hv⟩:=hv
     have hb:w.heap[r]? = some (.map es c):=h1 ▸ hw _ (List.mem_of_getElem? hi)
     obtain⟨hr,hs⟩:=ih _ cs A qs cs' x A' h' hv w hw
     exact⟨by simp[Sem.run,World.shape?,hb,hr],hs⟩
    cases h
   | atv i v=>simp[Eh]at h
   | via i v=>simp[Eh]at h
   | shp i t n =>
    simp only[Eh]at h
    split at h
    ·rename_i c hi
     obtain⟨qs,h',rfl⟩:=Oo.GR h
     rw[Eo]at hv
     obtain⟨⟨h1, -⟩,hv⟩:=hv
     obtain⟨hr,hs⟩:=ih _ cs A qs cs' x A' h' hv w hw
     exact⟨by simp[Sem.run,h1 w (hw _ (List.mem_of_getElem? hi)),hr],hs⟩
    cases h
 | freeze a n k ih=>intro cs A vs cs' x A' h;simp[Eh]at h
 | frozen a k ih =>
  intro cs A vs cs' x A' h hv w hw
  cases cs with
  | nil=>simp[Eh]at h
  | cons c cs =>
   cases c with
   | «at» i =>
    simp only[Eh]at h
    split at h
    ·rename_i b c t rw hi
     obtain⟨qs,h',rfl⟩:=Oo.GR h
     rw[Eo]at hv
     obtain⟨⟨h1, -⟩,hv⟩:=hv
     have hb:w.heap[a.block]? = some (.cells c t (0,0)):=h1 ▸ hw _ (List.mem_of_getElem? hi)
     have hfz:w.frozen? a=false:=by simp[World.frozen?,hb]
     obtain⟨hr,hs⟩:=ih _ cs A qs cs' x A' h' hv w hw
     exact⟨by simp[Sem.run,hfz,hr],hs⟩
    cases h
   | atv i v=>simp[Eh]at h
   | via i v=>simp[Eh]at h
   | shp i t n=>simp[Eh]at h
 | getObj r k ih =>
  intro cs A vs cs' x A' h hv w hw
  cases cs with
  | nil=>simp[Eh]at h
  | cons c cs =>
   cases c with
   | «at» i =>
    simp only[Eh]at h
    split at h
    ·rename_i b es c rw hi
     obtain⟨qs,h',rfl⟩:=Oo.GR h
     rw[Eo]at hv
     obtain⟨⟨h1, -⟩,hv⟩:=hv
     have hb:w.heap[r]? = some (.map es c):=h1 ▸ hw _ (List.mem_of_getElem? hi)
     obtain⟨hr,hs⟩:=ih _ cs A qs cs' x A' h' hv w hw
     exact⟨by simp[Sem.run,hb,hr],hs⟩
    cases h
   | atv i v=>simp[Eh]at h
   | via i v=>simp[Eh]at h
   | shp i t n=>simp[Eh]at h
 | setObj r o k ih =>
  intro cs A vs cs' x A' h
  cases cs with
  | nil=>simp[Eh]at h
  | cons c cs=>cases c <;> (simp only[Eh]at h;repeat (split at h)) <;> simp_all
 | choose q k ih=>intro cs A vs cs' x A' h;simp[Eh]at h
 | sys c k ih=>intro cs A vs cs' x A' h;simp[Eh]at h
 | program k ih =>
  intro cs A vs cs' x A' h hv w hw
  simp only[Eh]at h
  obtain⟨hr,hs⟩:=ih P cs _ vs cs' x A' h hv _ hw
  exact⟨by simp only[Sem.run];exact hr,hs⟩
 | mark m k ih =>
  intro cs A vs cs' x A' h hv w hw
  simp only[Eh]at h
  obtain⟨hr,hs⟩:=ih cs _ vs cs' x A' h hv _ hw
  exact⟨by simp only[Sem.run];exact hr,hs⟩
 | halt h'=>intro cs A vs cs' x A' h;simp[Eh]at h
abbrev Env:=List (Nat×Value)
def look:Env→Nat→Option Value
 | [],_=>none
 | (k,v) :: r,t=>bif Nat.beq k t then some v else look r t
def Vl:Env→Nat→Env
 | [],_=>[]
 | (k,v) :: r,t=>bif Nat.beq k t then Vl r t else(k,v) :: Vl r t
def Ig(env:Env)(d:Option Nat)(v:Value):Env:=match d with
 | none=>env
 | some t=>(t,v) :: Vl env t
def dropE(env:Env)(d:Option Nat):Env:=match d with
 | none=>env
 | some t=>Vl env t
def LV:List Nat→Env→Env
 | [],_=>[]
 | t :: ts,env=>match look env t with
  | some v=>(t,v) :: LV ts env
  | none=>LV ts env
theorem Ur{env:Env}{t u:Nat}{v:Value}(h:look (Vl env t) u=some v):u≠t∧look env u=some v:=by
 induction env with
 | nil=>simp[Vl,look]at h
 | cons p r ih =>
  obtain⟨k,x⟩:=p
  simp only[Vl]at h
  cases hk:Nat.beq k t with
  | true =>
   simp only[hk,cond_true]at h
   obtain⟨h1,h2⟩:=ih h
   have hkt:k=t:=Nat.eq_of_beq_eq_true hk
   refine⟨h1, ?_⟩
   simp only[look]
   have:Nat.beq k u=false:=by
    cases hb:Nat.beq k u with
    | false=>rfl
    | true=>exact absurd ((Nat.eq_of_beq_eq_true hb).symm.trans hkt) h1
   rw[this];exact h2
  | false =>
   simp only[hk,cond_false,look]at h
   simp only[look]
   cases hb:Nat.beq k u with
   | true =>
    rw[hb]at h
    refine⟨fun e => ?_,h⟩
    have h1:=Nat.eq_of_beq_eq_true hb
    rw[h1,e]at hk
    rw[Nat.beq_refl]at hk;cases hk
   | false=>rw[hb]at h;exact ih h
theorem KR{ts:List Nat}{env:Env}{u:Nat}{v:Value}(h:look (LV ts env) u=some v):look env u=some v:=by
 induction ts with
 | nil=>simp[LV,look]at h
 | cons t ts ih =>
  simp only[LV]at h
  split at h
  ·rename_i x hx
   simp only[look]at h
   cases hb:Nat.beq t u with
   | true=>rw[hb]at h;have:=Nat.eq_of_beq_eq_true hb;subst this;simp at h;rw[hx,h]
   | false=>rw[hb]at h;exact ih h
  exact ih h
structure St(N:Nat)(env:Env)(ds:List Deferred)(A:AW)(a:Act)(w:World):Prop where
 sz:a.tmps.size=N
 df:a.defers=ds
 kn:∀ t v,look env t=some v→a.tmps.getD t undef=v
 mem:Sat A w
def known(env:Env):Operand→Bool
 | .tmp t=>(look env t).isSome
 | _=>true
def IR(env:Env):Operand→Value
 | .tmp t=>(look env t).getD undef
 | .const v=>v
 | .global g=> .pointer (some ⟨g,0,none⟩)
 | .func f=> .func (.func f) #[] #[]
theorem St.eval{N:Nat}{env:Env}{ds:List Deferred}{A:AW}{a:Act}{w:World}(h:St N env ds A a w){x:Operand}(hx:known env x=true):a.eval x=IR env x:=by
 cases x with
 | tmp t =>
  simp only[known,Option.isSome_iff_exists]at hx
  obtain⟨v,hv⟩:=hx
  simp only[Act.eval,IR,hv,Option.getD_some]
  exact h.kn t v hv
 | _=>rfl
theorem Zc(a:Array Value)(d t:Nat)(v:Value):(a.setIfInBounds d v).getD t undef=if d=t∧d<a.size then v else a.getD t undef:=by
 simp only[Array.getD_eq_getD_getElem?,Array.getElem?_setIfInBounds]
 by_cases h:d=t
 ·subst h
  by_cases h2:d<a.size
  ·simp[h2]
  simp[h2,Array.getElem?_eq_none (Nat.not_lt.1 h2)]
 simp[h]
def Oa(N:Nat):Option Nat→Bool
 | none=>true
 | some d=>Nat.blt d N
theorem St.put{N:Nat}{env:Env}{ds:List Deferred}{A A':AW}{a:Act}{w w':World}(h:St N env ds A a w)(hs:Sat A' w')(d:Option Nat)(hd:Oa N d=true)(v:Value):St N (Ig env d v) ds A' (a.put d v) w':=by
 cases d with
 | none=>exact⟨h.sz,h.df,h.kn,hs⟩
 | some d =>
  have hlt:d<N:=by simpa[Oa]using hd
  refine⟨by simp[Act.put,h.sz],h.df,fun t x hx => ?_,hs⟩
  simp only[Act.put,Zc,h.sz]
  simp only[Ig,look]at hx
  cases hb:Nat.beq d t with
  | true =>
   rw[hb]at hx
   simp only[cond_true,Option.some.injEq]at hx
   rw[if_pos ⟨Nat.eq_of_beq_eq_true hb,hlt⟩];exact hx
  | false =>
   rw[hb]at hx
   simp only[cond_false]at hx
   have:=Ur hx
   rw[if_neg (fun e=>this.1 e.1.symm)]
   exact h.kn t x this.2
theorem St.drop{N:Nat}{env:Env}{ds:List Deferred}{A:AW}{a:Act}{w:World}(h:St N env ds A a w)(d:Option Nat)(v:Value):St N (dropE env d) ds A (a.put d v) w:=by
 cases d with
 | none=>exact h
 | some d =>
  refine⟨by simp[Act.put,h.sz],h.df,fun t x hx => ?_,h.mem⟩
  simp only[Act.put,Zc,h.sz]
  have:=Ur hx
  rw[if_neg (fun e=>this.1 e.1.symm)]
  exact h.kn t x this.2
theorem St.sub{N:Nat}{env env':Env}{ds:List Deferred}{A:AW}{a:Act}{w:World}(h:St N env ds A a w)(he:∀ t v,look env' t=some v→look env t=some v):St N env' ds A a w :=
 ⟨h.sz,h.df,fun t v ht=>h.kn t v (he t v ht),h.mem⟩
def noSel:Op→Bool
 | .select _ _=>false
 | _=>true
theorem execOp_congr{ρ ρ':Operand→Value}{o:Oper}(hs:noSel o.op=true)(h:∀ x∈o.op.operands,ρ x=ρ' x):execOp ρ o=execOp ρ' o:=by
 have hcall:∀ (c:Call) (t:TypeId),(∀ x∈c.operands,ρ x=ρ' x)→resolve ρ c t=resolve ρ' c t:=by
  intro c t hc
  have hargs:c.args.map ρ=c.args.map ρ':=by
   apply Array.map_congr_left
   intro x hx
   exact hc x (by simp[Call.operands,hx])
  unfold resolve
  rw[hargs]
  cases hcal:c.callee with
  | value f=>simp only[hc f (by simp[Call.operands,hcal])]
  | invoke r m=>simp only[hc r (by simp[Call.operands,hcal])]
  | builtin b=>rfl
 have hparts:∀ (parts:Array (Nat×Operand)),(∀ x∈(parts.toList.map (·.2)).toArray,ρ x=ρ' x)→parts.map (fun(i,x)=>(i,ρ x))=parts.map (fun(i,x)=>(i,ρ' x)):=by
  intro parts hp
  apply Array.map_congr_left
  rintro⟨i,x⟩ hx
  have:=hp x (by simp;exact⟨i,hx⟩)
  simp[this]
 have hopt:∀ (r:Option Operand),(∀ x∈r.toArray,ρ x=ρ' x)→r.map ρ=r.map ρ':=by
  intro r hr
  cases r with
  | none=>rfl
  | some x=>simp[hr x (by simp)]
 have harr:∀ (r:Array Operand),(∀ x∈r,ρ x=ρ' x)→r.map ρ=r.map ρ':=fun r hr=>Array.map_congr_left hr
 unfold execOp
 cases hop:o.op <;> simp only[hop,Op.operands]at h <;> simp only[]
 case move x=>rw[h x (by simp)]
 case assign x=>rw[h x (by simp)]
 case pick c a b=>rw[h c (by simp),h a (by simp),h b (by simp)]
 case box e x=>rw[h x (by simp)]
 case build t ps=>rw[hparts ps h]
 case buildSlice t l ps=>rw[hparts ps h]
 case insert t m k v=>rw[h m (by simp),h k (by simp),h v (by simp)]
 case load t a=>rw[h a (by simp)]
 case store t a v=>rw[h a (by simp),h v (by simp)]
 case nilCheck x=>rw[h x (by simp)]
 case binOp op t x y u =>
  rw[h x (by simp),h y (by simp)]
 case unOp op t x=>rw[h x (by simp)]
 case convert s d x=>rw[h x (by simp)]
 case sliceToArrayPointer d x=>rw[h x (by simp)]
 case makeInterface t x=>rw[h x (by simp)]
 case makeFunc f a b=>rw[harr a (fun x hx=>h x (by simp[hx])),harr b (fun x hx=>h x (by simp[hx]))]
 case makeMap t r=>rw[hopt r h]
 case makeChan t s=>rw[h s (by simp)]
 case makeSlice t l c=>rw[h l (by simp),h c (by simp)]
 case slice t x lo hi mx=>rw[h x (by simp),hopt lo (fun x hx=>h x (by simp at hx;simp[hx])),hopt hi (fun x hx=>h x (by simp at hx;simp[hx])),hopt mx (fun x hx=>h x (by simp at hx;simp[hx]))]
 case fieldAddr t x f=>rw[h x (by simp)]
 case field t x f=>rw[h x (by simp)]
 case indexAddr t x i=>rw[h x (by simp),h i (by simp)]
 case index t x i=>rw[h x (by simp),h i (by simp)]
 case lookup t x i c=>rw[h x (by simp),h i (by simp)]
 case mapUpdate t m k v=>rw[h m (by simp),h k (by simp),h v (by simp)]
 case mapEntry t m k=>rw[h m (by simp),h k (by simp)]
 case entryStore t m k v=>rw[h m (by simp),h k (by simp),h v (by simp)]
 case range t x=>rw[h x (by simp)]
 case next i s=>rw[h i (by simp)]
 case entry i=>rw[h i (by simp)]
 case typeAssert x a b c=>rw[h x (by simp)]
 case extract t i=>rw[h t (by simp)]
 case call c=>rw[hcall c o.type h]
 case go c=>rw[hcall c o.type h]
 case defer c=>rw[hcall c o.type h]
 case panic x=>rw[h x (by simp)]
 case send c x=>rw[h c (by simp),h x (by simp)]
 case recv t c k=>simp only[h c (by simp)]
 case select cs b=>rw[hop]at hs;cases hs
inductive OK where
 | auto (cs:List LC)
 | idx (j:Nat)
 | aidx (j:Nat) (v:Value)
 | sidx (c:UInt8)
 | slc (l h:Nat) (moved:Bool)
 | row (i:Nat) (arr:Array Value)
 | seq (b:Bool)
 | aeq (b:Bool)
structure OC where
 k:OK
 asv:Option Value:=none
abbrev ORes:=Option (List Prop×Value×AW)
def RowAt(w:World)(b k:Nat)(arr:Array Value):Prop:=∀ i v,arr[i]? = some v→w.cell? ⟨b,k+i,none⟩=some v
def RowOf(c:Ch)(b k:Nat)(arr:Array Value):Prop:=∀ w,c.holds w→RowAt w b k arr
def Ee(n j:Nat):Nat:=bif Nat.beq n 1 then j else j*n
theorem Jy(n j:Nat):Ee n j=j*n:=by
 unfold Ee
 cases h:Nat.beq n 1 with
 | true=>have:=Nat.eq_of_beq_eq_true h;subst this;simp
 | false=>rfl
def Rl:Option Value→Nat→Option Int
 | none,d=>some d
 | some (.int _ i),_=>some i
 | some _,_=>none
def Za6(P:Program)(sub:TypeId→Array Value→Array Value→Option Bool)(xs ys:Array Value):List Field→Option Bool
 | []=>some true
 | f :: fs => match f.name == "_", P.underlying f.type, xs[f.offset]?, ys[f.offset]?, Za6 P sub xs ys fs with
  | false,some (.int _),some (.int k a),some (.int k' b),some r=>match decide (k=k')with
   | true=>some ((a==b)&&r)
   | false=>none
  | false,some .bool,some (.bool a),some (.bool b),some r=>some ((a==b)&&r)
  | false,some .string,some (.string a),some (.string b),some r=>some ((a==b)&&r)
  | false,some (.struct _),_,_,some r=>match sub f.type (xs.extract f.offset (f.offset+P.cellsOf f.type)) (ys.extract f.offset (f.offset+P.cellsOf f.type))with
   | some a=>some (a&&r)
   | none=>none
  | _,_,_,_,_=>none
def ZaX(P:Program):Nat→TypeId→Array Value→Array Value→Option Bool
 | 0,_,_,_=>none
 | n+1,t,xs,ys=>match P.stoodInHeld t,P.underlying t with
  | false,some (.struct fs)=>Za6 P (ZaX P n) xs ys fs.toList
  | _,_=>none
theorem OA{P:Program}{t:TypeId}{d:TypeDesc}{cs:Array Value}{off:Nat}{v:Value}(hd:P.underlying t=some d)(h1:∀ x,d ≠ .struct x)(h2:∀ x y,d ≠ .array x y)(hv:cs[off]? = some v)(w:World):(part t cs off).run P w = .ok v w:=by
 have hagg:∀ w,(isAgg t).run P w = .ok false w:=by
  intro w
  cases d <;> first | (exact absurd rfl (h1 _)) | (exact absurd rfl (h2 _ _)) | simp[isAgg,underlying,program,Sem.run,hd]
 simp[part,hagg,hv,Sem.run]
theorem Zbd{P:Program}{t:TypeId}{fs:Array Field}{cs:Array Value}{off:Nat}(hd:P.underlying t=some (.struct fs))(w:World):(part t cs off).run P w = .ok (.agg (cs.extract off (off+P.cellsOf t))) w:=by
 have hagg:∀ w,(isAgg t).run P w = .ok true w:=by
  intro w
  simp[isAgg,underlying,program,Sem.run,hd]
 obtain⟨ti,hi, -⟩:∃ ti,P.info? t=some ti∧True:=by
  cases h:P.info? t with
  | none=>simp[Program.underlying,h]at hd
  | some ti=>exact⟨ti,rfl,trivial⟩
 simp[part,hagg,Sem.run_bind,run_sizeOf w hi,Program.cellsOf,hi]
theorem eqFw_run{P:Program}{xs ys:Array Value}{sub:TypeId→Array Value→Array Value→Option Bool}(d:Nat)(hsub:∀ t fs cs es r,P.underlying t=some (.struct fs)→sub t cs es=some r→∀ w,(Op.equalIn (d+1) t (.agg cs) (.agg es)).run P w = .ok r w):∀ (fs:List Field) (r:Bool),Za6 P sub xs ys fs=some r→∀ w,(Op.eqFields (d+1) xs ys fs).run P w = .ok r w
 | [],r,h,w=>by simp only[Za6,Option.some.injEq]at h;subst h;simp[Op.eqFields]
 | f :: fs,r,h,w=>by
  have key : ∀ (a b : Value) (e s : Bool), (f.name == "_") = false → (part f.type xs f.offset).run P w = .ok a w → (part f.type ys f.offset).run P w = .ok b w → (Op.equalIn (d + 1) f.type a b).run P w = .ok e w → Za6 P sub xs ys fs = some s → (Op.eqFields (d + 1) xs ys (f :: fs)).run P w = .ok (e && s) w := by
   intro a b e s hn ha hb he hs
   have ih:=eqFw_run d hsub fs s hs w
   have hn' : f.name ≠ "_" := by simpa using hn
   rw[Op.eqFields]
   simp only[if_pos hn',Sem.run_bind,ha,hb,he,Result.andThen_ok]
   cases e
   ·simp
   simpa using ih
  unfold Za6 at h
  split at h
  ·rename_i k0 k a k' b s hn hd ha hb hs
   split at h
   ·rename_i hk
    simp only[Option.some.injEq]at h;subst h
    have hk':=of_decide_eq_true hk;subst hk'
    exact key _ _ _ _ hn (OA hd (by simp) (by simp) ha w) (OA hd (by simp) (by simp) hb w) (run_equalIn_int w d f.type _ _ a b hd) hs
   cases h
  ·rename_i a b s hn hd ha hb hs
   simp only[Option.some.injEq]at h;subst h
   exact key _ _ _ _ hn (OA hd (by simp) (by simp) ha w) (OA hd (by simp) (by simp) hb w) (run_equalIn_bool' w d f.type a b hd) hs
  ·rename_i a b s hn hd ha hb hs
   simp only[Option.some.injEq]at h;subst h
   exact key _ _ _ _ hn (OA hd (by simp) (by simp) ha w) (OA hd (by simp) (by simp) hb w) (by rw[run_equalIn_string w d f.type a b hd,beq_toListBytes]) hs
  ·rename_i gs s hn hd hs
   split at h
   ·rename_i a hsb
    simp only[Option.some.injEq]at h;subst h
    exact key _ _ _ _ hn (Zbd hd w) (Zbd hd w) (hsub _ _ _ _ _ hd hsb w) hs
   cases h
  cases h
theorem eqSt_run{P:Program}(d:Nat):∀ (n:Nat) (t:TypeId) (xs ys:Array Value) (r:Bool),ZaX P n t xs ys=some r→∀ w,(Op.equalIn (d+1+n) t (.agg xs) (.agg ys)).run P w = .ok r w
 | 0,t,xs,ys,r,h=>by cases h
 | n+1,t,xs,ys,r,h=>by
  intro w
  unfold ZaX at h
  split at h
  ·rename_i fs hp hu
   have hf:P.fieldsOf t=fs:=by simp[Program.fieldsOf,hu]
   rw[show d+1+(n+1)=(d+1+n)+1 from rfl,run_equalIn_agg (P:=P) w (d+1+n) t xs ys (by rw[hf];exact hu) hp,hf]
   have e:d+1+n=(d+n)+1:=by omega
   rw[e]
   exact eqFw_run (d+n) (fun t fs cs es r _ hs w=>by rw[←e];exact eqSt_run d n t cs es r hs w) _ _ h w
  cases h
def Za(xs ys:Array Value):List Nat→Option Bool
 | []=>some true
 | i :: is=>match xs[i]?,ys[i]?,Za xs ys is with
  | some (.int k a),some (.int k' b),some r=>match decide (k=k')with
   | true=>some ((a==b)&&r)
   | false=>none
  | _,_,_=>none
theorem YV{P:Program}{e:TypeId}{k0:IntKind}{xs ys:Array Value}(hu:P.underlying e=some (.int k0))(d:Nat):∀ (is:List Nat) (r:Bool),Za xs ys is=some r→∀ w,(Op.eqItems (d+1) e 1 xs ys is).run P w = .ok r w
 | [],r,h,w=>by simp only[Za,Option.some.injEq]at h;subst h;simp[Op.eqItems]
 | i :: is,r,h,w=>by
  unfold Za at h
  split at h
  ·rename_i k a k' b s ha hb hs
   split at h
   ·rename_i hk
    simp only[Option.some.injEq]at h;subst h
    have hk':=of_decide_eq_true hk;subst hk'
    have ih:=YV hu d is s hs w
    have pa:=OA (P:=P) hu (by simp) (by simp) ha
    have pb:=OA (P:=P) hu (by simp) (by simp) hb
    simp only[Op.eqItems,Nat.mul_one,Sem.run_bind,pa,pb,run_equalIn_int w d e k k0 a b hu,Result.andThen_ok]
    cases a==b
    ·simp
    simpa using ih
   cases h
  cases h
def RU(P:Program)(ro:Bool)(ρ:Operand→Value)(o:Oper)(A:AW):OK→ORes
 | .auto cs=>match Eh P ro (execOp ρ o) cs A with
  | some (vs,[],.value v,A')=>some (vs,v,A')
  | some (vs,[],.skip,A')=>match ro with
   | false=>some (vs,undef,A')
   | true=>none
  | _=>none
 | .idx j=>match o.op with
  | .indexAddr t x ix=>match ρ x,ρ ix,P.underlying t with
   | .slice (some a) len _,.int _ i,some (.slice e)=>match P.info? e with
    | some f=>some ([i=(j:Int),j<len,a.spot=none],.pointer (some ⟨a.block,a.off+Ee f.size j,none⟩),A)
    | none=>none
   | .pointer (some a),.int _ i,some (.array len e)=>match P.info? e with
    | some f=>some ([i=(j:Int),j<len,a.spot=none],.pointer (some ⟨a.block,a.off+Ee f.size j,none⟩),A)
    | none=>none
   | _,_,_=>none
  | _=>none
 | .aidx j v=>match o.op with
  | .index t x ix=>match ρ x,ρ ix,P.underlying t with
   | .agg cs,.int _ i,some (.array len e)=>match P.info? e,P.underlying e with
    | some f,some (.struct _)=>none
    | some f,some (.array _ _)=>none
    | some f,some _=>some ([i=(j:Int),j<len,cs[Ee f.size j]? = some v],v,A)
    | _,_=>none
   | _,_,_=>none
  | _=>none
 | .sidx c=>match o.op with
  | .index t x ix=>match ρ x,ρ ix,P.underlying t with
   | .string s,.int _ i,some .string=>some ([0≤i,s[i.toNat]? = some c],.int .u8 c.toNat,A)
   | _,_,_=>none
  | _=>none
 | .row i arr=>match o.op with
  | .load t x=>match ρ x,A.σ[i]?,P.info? t with
   | .pointer (some a),some c,some f=>match a.spot,Nat.beq arr.size f.size,(match P.underlying t with | some (.struct _)=>true | some (.array _ _)=>true | _=>false)with
    | none,true,true=>some ([RowOf c a.block a.off arr],.agg arr,A)
    | _,_,_=>none
   | _,_,_=>none
  | _=>none
 | .aeq b=>match o.op with
  | .binOp .eql t x y _=>match ρ x,ρ y,P.eqGuardType P.depth t,P.underlying t with
   | .agg xs,.agg ys,false,some (.array n e)=>match P.info? e,P.underlying e,Nat.beq (P.cellsOf e) 1,Za xs ys (List.range n)with
    | some _,some (.int _),true,some r=>some ([r=b],.bool b,A)
    | _,_,_,_=>none
   | _,_,_,_=>none
  | _=>none
 | .seq b=>match o.op with
  | .binOp .eql t x y _=>match ρ x,ρ y,P.eqGuardType P.depth t,P.stoodInHeld t,P.underlying t with
   | .agg xs,.agg ys,false,false,some (.struct fs)=>match ZaX P 4 t xs ys with
    | some r=>some ([r=b],.bool b,A)
    | none=>none
   | _,_,_,_,_=>none
  | .binOp .neq t x y _=>match ρ x,ρ y,P.eqGuardType P.depth t,P.stoodInHeld t,P.underlying t with
   | .agg xs,.agg ys,false,false,some (.struct fs)=>match ZaX P 4 t xs ys with
    | some r=>some ([r=b],.bool (!b),A)
    | none=>none
   | _,_,_,_,_=>none
  | _=>none
 | .slc l h moved=>match o.op with
  | .slice t x lo hi none=>match ρ x,P.underlying t,Rl (lo.map ρ) 0 with
   | .slice a len cap,some (.slice e),some lo'=>match P.info? e,Rl (hi.map ρ) len with
    | some f,some hi'=>match a,moved with
     | a,false=>some ([lo'=(l:Int),hi'=(h:Int),l≤h,h≤cap,cap=l∨l=0],.slice a (h - l) (cap - l),A)
     | some a,true=>some ([lo'=(l:Int),hi'=(h:Int),l≤h,h≤cap,cap≠l,a.spot=none],.slice (some ⟨a.block,a.off+Ee f.size l,none⟩) (h - l) (cap - l),A)
     | _,_=>none
    | _,_=>none
   | _,_,_=>none
  | _=>none
def Yields(P:Program)(ρ:Operand→Value)(o:Oper)(v:Value)(w w':World):Prop :=
 (execOp ρ o).run P w = .ok (.value v) w'∨((execOp ρ o).run P w = .ok .skip w'∧v=undef)
theorem Nb{a:Addr}(h:a.spot=none)(k:Nat):a.add k=⟨a.block,a.off+k,none⟩:=by
 obtain⟨b,o,s⟩:=a
 simp only at h;subst h
 simp[Addr.add]
theorem run_indexAt_slice{P:Program}{t e:TypeId}{f:TypeInfo}{a:Addr}{len cap:Nat}{k:IntKind}{i:Int}{j:Nat}(ht:P.underlying t=some (.slice e))(he:P.info? e=some f)(hi:i=(j:Int))(hj:j<len)(hs:a.spot=none)(w:World) :
   (Instr.indexAt t (.slice (some a) len cap) (.int k i)).run P w = .ok (.pointer (some ⟨a.block,a.off+Ee f.size j,none⟩)) w:=by
 subst hi
 have hb:(0:Int)≤(j:Int)∧(j:Int)<(len:Int):=⟨Int.natCast_nonneg j,by exact_mod_cast hj⟩
 simp[Instr.indexAt,asIntOf,underlying,program,Sem.run,ht,sizeOf,typeInfo,he,hj,Jy,Nb hs]
theorem run_indexAt_array{P:Program}{t e:TypeId}{f:TypeInfo}{a:Addr}{len:Nat}{k:IntKind}{i:Int}{j:Nat}(ht:P.underlying t=some (.array len e))(he:P.info? e=some f)(hi:i=(j:Int))(hj:j<len)(hs:a.spot=none)(w:World) :
   (Instr.indexAt t (.pointer (some a)) (.int k i)).run P w = .ok (.pointer (some ⟨a.block,a.off+Ee f.size j,none⟩)) w:=by
 subst hi
 have hb:(0:Int)≤(j:Int)∧(j:Int)<(len:Int):=⟨Int.natCast_nonneg j,by exact_mod_cast hj⟩
 simp[Instr.indexAt,asIntOf,underlying,program,Sem.run,ht,sizeOf,typeInfo,he,hj,Jy,Nb hs,Instr.sureAddr]
theorem Zn{P:Program}{t e:TypeId}{f:TypeInfo}{d:TypeDesc}{cs:Array Value}{len:Nat}{k:IntKind}{i:Int}{j:Nat}{v:Value}(ht:P.underlying t=some (.array len e))(he:P.info? e=some f)(hd:P.underlying e=some d)(h1:∀ x,d ≠ .struct x)(h2:∀ x y,d ≠ .array x y)(hi:i=(j:Int))(hj:j<len)(hv:cs[Ee f.size j]? = some v)(w:World) :
   (Instr.index t (.agg cs) (.int k i)).run P w = .ok v w:=by
 subst hi
 have hagg:∀ w,(isAgg e).run P w = .ok false w:=by
   intro w
   cases d <;> first | (exact absurd rfl (h1 _)) | (exact absurd rfl (h2 _ _)) | simp[isAgg,underlying,program,Sem.run,hd]
 rw[Jy]at hv
 simp[Instr.index,asIntOf,underlying,program,Sem.run,ht,sizeOf,typeInfo,he,hj,part,hagg,hv]
theorem run_index_string{P:Program}{t:TypeId}{s:ByteArray}{k:IntKind}{i:Int}{c:UInt8}(ht:P.underlying t=some .string)(hi:0≤i)(hv:s[i.toNat]? = some c)(w:World) :
   (Instr.index t (.string s) (.int k i)).run P w = .ok (.int .u8 c.toNat) w:=by
 simp[Instr.index,asIntOf,underlying,program,Sem.run,ht,hi,hv]
theorem YT{P:Program}{t e:TypeId}{f:TypeInfo}{a:Option Addr}{len cap:Nat}{lo hi:Option Value}{lo' hi':Int}{l h:Nat}(ht:P.underlying t=some (.slice e))(he:P.info? e=some f)
   (h1:Rl lo 0=some lo') (h2:Rl hi len=some hi') (e1:lo'=(l:Int)) (e2:hi'=(h:Int)) (hlh:l≤h) (hc:h≤cap) (w:World) :
   (Instr.sliceAt t (.slice a len cap) lo hi none).run P w = .ok (.slice (if cap=l then a else a.map (·.add (l*f.size))) (h - l) (cap - l)) w:=by
 subst e1;subst e2
 have hb:∀ w,(Instr.sliceBounds true len cap lo hi none).run P w = .ok (l,h,cap) w:=by
   intro w
   have B:∀ (x:Value) (y n:Nat) (c:BoundsCode) (d:Nat),Rl (some x) d=some (n:Int)→n≤y→∀ w,(Instr.sliceBound x y c).run P w = .ok n w:=by
     intro x y n c d hx hn w
     cases x <;> simp[Rl]at hx
     subst hx
     simp[Instr.sliceBound,asIntOf,Sem.run,hn]
   cases hi with
   | none =>
     simp[Rl]at h2
     have h2':len=h:=by exact_mod_cast h2
     subst h2'
     cases lo with
     | none =>
       simp[Rl]at h1
       have h1':l=0:=by omega
       subst h1'
       simp[Instr.sliceBounds]
     | some v=>simp[Instr.sliceBounds,B v len l .sliceB 0 h1 hlh]
   | some u =>
     have hB:=B u cap h .sliceAcap len h2 hc
     cases lo with
     | none =>
       simp[Rl]at h1
       have h1':l=0:=by omega
       subst h1'
       simp[Instr.sliceBounds,hB]
     | some v=>simp[Instr.sliceBounds,hB,B v h l .sliceB 0 h1 hlh]
 simp[Instr.sliceAt,Instr.slice,underlying,program,Sem.run,ht,hb,sizeOf,typeInfo,he]
theorem run_loadCells{P:Program}{w:World}{b k:Nat}{arr:Array Value}(h:RowAt w b k arr):∀ (n i:Nat) (acc:Array Value),i+n=arr.size→(loadCellsFrom ⟨b,k,none⟩ i n acc).run P w = .ok (acc++(arr.toList.drop i).toArray) w:=by
 intro n
 induction n with
 | zero=>intro i acc hi;simp[loadCellsFrom,Sem.run,List.drop_eq_nil_of_le (show arr.toList.length≤i by simp;omega)]
 | succ n ih =>
  intro i acc hi
  have hlt:i<arr.size:=by omega
  have hc:=h i arr[i] (by simp[hlt])
  have hd:arr.toList.drop i=arr[i] :: arr.toList.drop (i+1):=by rw[List.drop_eq_getElem_cons (by simpa using hlt)];simp
  simp only[loadCellsFrom,load,Sem.run_bind,Sem.run,Nb (show(⟨b,k,none⟩:Addr).spot=none from rfl),hc,Result.andThen_ok]
  rw[ih (i+1) _ (by omega),hd]
  simp
theorem run_loadAt{P:Program}{w:World}{a:Addr}{arr:Array Value}{t:TypeId}{f:TypeInfo}(h:RowAt w a.block a.off arr)(hs:a.spot=none)(hf:P.info? t=some f)(hn:arr.size=f.size)(hagg:(match P.underlying t with | some (.struct _)=>true | some (.array _ _)=>true | _=>false)=true) :
   (Instr.loadAt t (.pointer (some a))).run P w = .ok (.agg arr) w:=by
 obtain⟨b,k,sp⟩:=a
 simp only at hs;subst hs
 have ha:∀ w,(isAgg t).run P w = .ok true w:=by
   intro w
   cases hu:P.underlying t with
   | none=>rw[hu]at hagg;cases hagg
   | some d=>rw[hu]at hagg;cases d <;> first | (cases hagg;done) | simp[isAgg,underlying,program,Sem.run,hu]
 have hl:=run_loadCells (P:=P) h f.size 0 #[] (by omega)
 simp at hl
 simp[Instr.loadAt,Instr.sureAddr,loadVar,ha,sizeOf,typeInfo,program,Sem.run,hf,loadCells,hl]
theorem opX_still{P:Program}{ro:Bool}{ρ:Operand→Value}{o:Oper}{A A':AW}{k:OK}{vs:List Prop}{v:Value}(hk:∀ cs,k ≠ .auto cs)(h:RU P ro ρ o A k=some (vs,v,A'))(hv:IL vs):A'=A∧∀ w:World,(∀ c∈A.σ,c.holds w)→(execOp ρ o).run P w = .ok (.value v) w:=by
 cases k with
 | auto cs=>exact absurd rfl (hk cs)
 | idx j =>
  simp only[RU]at h
  split at h
  ·rename_i t x ix hop
   split at h
   ·rename_i a len cap k i e hx hix ht
    split at h
    ·rename_i f he
     simp only[Option.some.injEq,Prod.mk.injEq]at h
     obtain⟨rfl,rfl,rfl⟩:=h
     obtain⟨h1,h2,h3, -⟩:=hv
     exact⟨rfl,fun w _=>by simp[execOp,hop,hx,hix,run_indexAt_slice ht he h1 h2 h3,Sem.run,Result.andThen]⟩
    cases h
   ·rename_i a k i len e hx hix ht
    split at h
    ·rename_i f he
     simp only[Option.some.injEq,Prod.mk.injEq]at h
     obtain⟨rfl,rfl,rfl⟩:=h
     obtain⟨h1,h2,h3, -⟩:=hv
     exact⟨rfl,fun w _=>by simp[execOp,hop,hx,hix,run_indexAt_array ht he h1 h2 h3,Sem.run,Result.andThen]⟩
    cases h
   cases h
  cases h
 | aidx j u =>
  simp only[RU]at h
  split at h
  ·rename_i t x ix hop
   split at h
   ·rename_i cs k i len e hx hix ht
    split at h
    ·cases h
    ·cases h
    ·rename_i f d hn1 hn2 he hd
     simp only[Option.some.injEq,Prod.mk.injEq]at h
     obtain⟨rfl,rfl,rfl⟩:=h
     obtain⟨h1,h2,h3, -⟩:=hv
     exact⟨rfl,fun w _=>by simp[execOp,hop,hx,hix,Zn ht he hd hn1 hn2 h1 h2 h3,Sem.run,Result.andThen]⟩
    cases h
   cases h
  cases h
 | sidx c =>
  simp only[RU]at h
  split at h
  ·rename_i t x ix hop
   split at h
   ·rename_i s k i hx hix ht
    simp only[Option.some.injEq,Prod.mk.injEq]at h
    obtain⟨rfl,rfl,rfl⟩:=h
    obtain⟨h1,h2, -⟩:=hv
    exact⟨rfl,fun w _=>by simp[execOp,hop,hx,hix,run_index_string ht h1 h2,Sem.run,Result.andThen]⟩
   cases h
  cases h
 | row i arr =>
  simp only[RU]at h
  split at h
  ·rename_i t x hop
   split at h
   ·rename_i a c f hx hi hf
    split at h
    ·rename_i hs hn hagg
     simp only[Option.some.injEq,Prod.mk.injEq]at h
     obtain⟨rfl,rfl,rfl⟩:=h
     exact⟨rfl,fun w hw=>by simp[execOp,hop,hx,run_loadAt (hv.1 w (hw c (List.mem_of_getElem? hi))) hs hf (Nat.eq_of_beq_eq_true hn) hagg,Sem.run,Result.andThen]⟩
    cases h
   cases h
  cases h
 | aeq b =>
  simp only[RU]at h
  split at h
  ·rename_i t x y tt hop
   split at h
   ·rename_i xs ys n e hx hy hm hu
    split at h
    ·rename_i i k0 r hi hek hc hr
     simp only[Option.some.injEq,Prod.mk.injEq]at h
     obtain⟨rfl,rfl,rfl⟩:=h
     obtain⟨rfl, -⟩:=hv
     have hc1:P.cellsOf e=1:=Nat.eq_of_beq_eq_true hc
     have eqr:∀ w,(Op.equalIn 10000 t (.agg xs) (.agg ys)).run P w = .ok r w:=fun w=>by
      rw[run_equalIn_array (P:=P) w 9999 xs ys hu hi,hc1]
      exact YV hek 9998 _ _ hr w
     exact⟨rfl,fun w _=>by simp[execOp,hop,hx,hy,run_eqGuard_agg (P:=P) w .eql t x y xs ys hm,run_eql_struct,eqr w,Sem.run,Result.andThen]⟩
    cases h
   cases h
  cases h
 | seq b =>
  have eqr:∀ (t:TypeId) (xs ys:Array Value) (fs:Array Field) (r:Bool) (w:World),P.stoodInHeld t=false→P.underlying t=some (.struct fs)→ZaX P 4 t xs ys=some r→(Op.equalIn 10000 t (.agg xs) (.agg ys)).run P w = .ok r w:=fun t xs ys fs r w _ _ he=>eqSt_run 9995 4 t xs ys r he w
  simp only[RU]at h
  split at h
  ·rename_i t x y tt hop
   split at h
   ·rename_i xs ys fs hx hy hm hp hu
    split at h
    ·rename_i r hr
     simp only[Option.some.injEq,Prod.mk.injEq]at h
     obtain⟨rfl,rfl,rfl⟩:=h
     obtain⟨rfl, -⟩:=hv
     exact⟨rfl,fun w _=>by simp[execOp,hop,hx,hy,run_eqGuard_agg (P:=P) w .eql t x y xs ys hm,run_eql_struct,eqr t xs ys fs _ w hp hu hr,Sem.run,Result.andThen]⟩
    cases h
   cases h
  ·rename_i t x y tt hop
   split at h
   ·rename_i xs ys fs hx hy hm hp hu
    split at h
    ·rename_i r hr
     simp only[Option.some.injEq,Prod.mk.injEq]at h
     obtain⟨rfl,rfl,rfl⟩:=h
     obtain⟨rfl, -⟩:=hv
     exact⟨rfl,fun w _=>by simp[execOp,hop,hx,hy,run_eqGuard_agg (P:=P) w .neq t x y xs ys hm,run_neq_struct,eqr t xs ys fs _ w hp hu hr,Sem.run,Result.andThen]⟩
    cases h
   cases h
  cases h
 | slc l m moved =>
  simp only[RU]at h
  split at h
  ·rename_i t x lo hi hop
   split at h
   ·rename_i a len cap e lo' hx ht h1
    split at h
    ·rename_i f hi' he h2
     split at h
     ·simp only[Option.some.injEq,Prod.mk.injEq]at h
      obtain⟨rfl,rfl,rfl⟩:=h
      obtain⟨e1,e2,e3,e4,e5, -⟩:=hv
      refine⟨rfl,fun w _ => ?_⟩
      have hr:=YT (a:=a) (cap:=cap) ht he h1 h2 e1 e2 e3 e4 w
      have ha:(if cap=l then a else a.map (·.add (l*f.size)))=a:=by
       rcases e5 with rfl | rfl
       ·simp
       split
       ·rfl
       cases a <;> simp[Addr.add]
      rw[ha]at hr
      simp[execOp,hop,hx,hr,Sem.run,Result.andThen]
     ·rename_i a
      simp only[Option.some.injEq,Prod.mk.injEq]at h
      obtain⟨rfl,rfl,rfl⟩:=h
      obtain⟨e1,e2,e3,e4,e5,e6, -⟩:=hv
      refine⟨rfl,fun w _ => ?_⟩
      have hr:=YT (a:=some a) (cap:=cap) ht he h1 h2 e1 e2 e3 e4 w
      rw[if_neg e5]at hr
      simp only[Option.map_some,Nb e6]at hr
      simp[execOp,hop,hx,hr,Sem.run,Result.andThen,Jy]
     cases h
    cases h
   cases h
  cases h
theorem Vb{P:Program}{ro:Bool}{ρ:Operand→Value}{o:Oper}{A A':AW}{k:OK}{vs:List Prop}{v:Value}(h:RU P ro ρ o A k=some (vs,v,A'))(hv:IL vs){w:World}(hw:Sat A w) :
   ∃ w',Yields P ρ o v w w'∧Sat A' w'∧A'.w0=A.w0:=by
 by_cases hk:∃ cs,k = .auto cs
 · obtain⟨cs,rfl⟩:=hk
   simp only[RU]at h
   split at h
   · rename_i vs' v' A'' hr
     simp only[Option.some.injEq,Prod.mk.injEq]at h
     obtain⟨rfl,rfl,rfl⟩:=h
     obtain⟨w',h1,h2,h3⟩:=Zae _ _ _ _ _ _ _ hr hv w hw
     exact⟨w',.inl h1,h2,h3⟩
   · rename_i vs' A'' hr
     split at h
     · simp only[Option.some.injEq,Prod.mk.injEq]at h
       obtain⟨rfl,rfl,rfl⟩:=h
       obtain⟨w',h1,h2,h3⟩:=Zae _ _ _ _ _ _ _ hr hv w hw
       exact⟨w',.inr ⟨h1,rfl⟩,h2,h3⟩
     · cases h
   · cases h
 · obtain⟨rfl,h1⟩:=opX_still (fun cs e=>hk ⟨cs,e⟩) h hv
   exact⟨w,.inl (h1 w hw.all),hw,rfl⟩
theorem opX_read{P:Program}{ρ:Operand→Value}{o:Oper}{A A':AW}{k:OK}{vs:List Prop}{v:Value}(h:RU P true ρ o A k=some (vs,v,A'))(hv:IL vs){w:World}(hw:∀ c∈A.σ,c.holds w) :
   (execOp ρ o).run P w = .ok (.value v) w:=by
 by_cases hk:∃ cs,k = .auto cs
 · obtain⟨cs,rfl⟩:=hk
   simp only[RU]at h
   split at h
   · rename_i vs' v' A'' hr
     simp only[Option.some.injEq,Prod.mk.injEq]at h
     obtain⟨rfl,rfl,rfl⟩:=h
     exact(TK _ _ _ _ _ _ _ hr hv w hw).1
   · cases h
   · cases h
 · exact(opX_still (fun cs e=>hk ⟨cs,e⟩) h hv).2 w hw
def Oc(ops:Array Oper)(env:Env)(o:Oper):Option Bool:=match o.guard with
 | none=>some true
 | some (j,want)=>match(ops[j]?).bind (·.dst)with
  | some d=>match look env d with
   | some (.bool b)=>some (b==want)
   | some (.tuple _)=>some false
   | _=>none
  | none=>none
theorem FN{N:Nat}{env:Env}{ds:List Deferred}{A:AW}{a:Act}{w:World}{ops:Array Oper}{o:Oper}{b:Bool}(h:Oc ops env o=some b)(hs:St N env ds A a w):Region.wanted o (yielded ops a.tmps)=b:=by
 unfold Oc at h
 unfold Region.wanted
 split at h
 ·rename_i hg;simp only[hg];simpa using h
 rename_i j want hg
 simp only[hg]
 split at h
 ·rename_i d hd
  split at h
  ·rename_i c hc
   have hk:=hs.kn _ _ hc
   have hy:yielded ops a.tmps j=some c:=by
    have h1:a.tmps[d]? = some (.bool c):=by
     rw[Array.getD_eq_getD_getElem?]at hk
     cases h2:a.tmps[d]? with
     | none=>rw[h2]at hk;cases hk
     | some y=>rw[h2]at hk;exact congrArg some hk
    unfold yielded
    simp only[hd,Option.bind_some,h1]
   simp only[Option.some.injEq]at h
   rw[hy,←h];cases c <;> cases want <;> rfl
  ·rename_i c hc
   have hk:=hs.kn _ _ hc
   have hy:yielded ops a.tmps j=none:=by
    have h1:a.tmps[d]? = some (.tuple c)∨a.tmps[d]? = none:=by
     rw[Array.getD_eq_getD_getElem?]at hk
     cases h2:a.tmps[d]? with
     | none=>exact .inr rfl
     | some y=>rw[h2]at hk;exact .inl (congrArg some hk)
    unfold yielded
    rcases h1 with h1 | h1 <;> simp only[hd,Option.bind_some,h1]
   simp only[Option.some.injEq]at h
   rw[hy,←h];cases want <;> rfl
  cases h
 cases h
def Ld(env:Env)(o:Oper):Bool:=noSel o.op&&o.op.operands.all (known env)
abbrev PX:=Option (List Prop×Env×AW)
def PX.and(ps:List Prop)(r:PX):PX:=match r with
 | some (qs,x)=>some (ps++qs,x)
 | none=>none
theorem PX.GR{ps vs:List Prop}{r:PX}{x:Env×AW}(h:PX.and ps r=some (vs,x)):∃ qs,r=some (qs,x)∧vs=ps++qs:=by
 unfold PX.and at h
 split at h
 ·rename_i qs y;simp at h;exact⟨qs,by rw[h.2],h.1.symm⟩
 cases h
def PU(P:Program)(N:Nat)(ops:Array Oper):Nat→List OC→List Oper→Env→AW→PX
 | 0,[],_,env,A=>some ([],env,A)
 | 0,_ :: _,_,_,_=>none
 | _+1,_,[],_,_=>none
 | m+1,cs,o :: l,env,A=>match Oc ops env o with
  | some false=>match Oa N o.dst with
   | true=>PU P N ops m cs l (Ig env o.dst undef) A
   | false=>none
  | some true=>match cs with
   | []=>none
   | c :: cs=>match Ld env o,Oa N o.dst,RU P false (IR env) o A c.k with
    | true,true,some (vs,v,A')=>match c.asv with
     | none=>(PU P N ops m cs l (Ig env o.dst v) A').and vs
     | some u=>(PU P N ops m cs l (Ig env o.dst u) A').and (vs++[v=u])
    | _,_,_=>none
  | none=>none
inductive Kt where
 | seq (c:Code)
 | blk (id:Nat)
 | inv (R:Act→World→Prop)
def QQ(P:Program):List Kt→(Exit→Act→World→Prop)→Exit→Act→World→Prop
 | [],Q=>Q
 | .seq c :: s,Q=>Exit.then (c.wp P (QQ P s Q)) (QQ P s Q)
 | .blk id :: s,Q=>Exit.inBlock id (QQ P s Q)
 | .inv R :: s,Q=>Exit.then R (QQ P s Q)
def Lg(P:Program)(N:Nat)(env:Env)(ds:List Deferred)(A:AW)(ops:Array Oper)(l:List Oper)(s:List Kt)(Q:Exit→Act→World→Prop):Prop :=
 ∀ a w,St N env ds A a w→wpList P ops (QQ P s Q) l a w
def G(P:Program)(N:Nat)(env:Env)(ds:List Deferred)(A:AW)(c:Code)(s:List Kt)(Q:Exit→Act→World→Prop):Prop :=
 ∀ a w,St N env ds A a w→c.wp P (QQ P s Q) a w
def E(P:Program)(N:Nat)(env:Env)(ds:List Deferred)(A:AW)(e:Exit)(s:List Kt)(Q:Exit→Act→World→Prop):Prop :=
 ∀ a w,St N env ds A a w→QQ P s Q e a w
theorem KE{P:Program}{ops:Array Oper}{Q:Exit→Act→World→Prop}{l:List Oper}{o:Oper}{a:Act}{w w':World}{v:Value}(hw:Region.wanted o (yielded ops a.tmps)=true)(hy:Yields P a.eval o v w w')(h:wpList P ops Q l (a.put o.dst v) w'):wpList P ops Q (o :: l) a w:=by
 unfold wpList
 rw[if_pos hw]
 left
 unfold Oper.wp
 rcases hy with hy | ⟨hy,rfl⟩ <;> rw[hy] <;> exact h
theorem Ir{N:Nat}{env:Env}{ds:List Deferred}{A:AW}{a:Act}{w:World}{o:Oper}(hs:St N env ds A a w)(hk:Ld env o=true):execOp a.eval o=execOp (IR env) o:=by
 simp only[Ld,Bool.and_eq_true,Array.all_eq_true_iff_forall_mem]at hk
 exact execOp_congr hk.1 (fun x hx=>hs.eval (hk.2 x hx))
theorem Vj{P:Program}{N:Nat}{ops:Array Oper}{ds:List Deferred}{s:List Kt}{Q:Exit→Act→World→Prop}:∀ (m:Nat) (cs:List OC) (l:List Oper) (env:Env) (A:AW) (vs:List Prop) (env':Env) (A':AW),
   PU P N ops m cs l env A=some (vs,env',A')→IL vs→(A'.w0=A.w0→Lg P N env' ds A' ops (l.drop m) s Q)→Lg P N env ds A ops l s Q:=by
 intro m
 induction m with
 | zero =>
   intro cs l env A vs env' A' h hv K
   cases cs with
   | nil=>simp only[PU,Option.some.injEq,Prod.mk.injEq]at h;obtain⟨-,rfl,rfl⟩:=h;simpa using K rfl
   | cons c cs=>simp[PU]at h
 | succ m ih =>
   intro cs l env A vs env' A' h hv K a w hs
   cases l with
   | nil=>simp[PU]at h
   | cons o l =>
     simp only[PU]at h
     split at h
     · rename_i hw
       have hw':=FN hw hs
       unfold wpList
       rw[if_neg (by rw[hw'];simp)]
       split at h
       · rename_i hd
         exact ih cs l _ A vs env' A' h hv K _ _ (hs.put hs.mem _ hd _)
       · cases h
     · rename_i hw
       have hw':=FN hw hs
       cases cs with
       | nil=>cases h
       | cons c cs =>
         simp only at h
         split at h
         · rename_i vs1 v A1 hk hd hx
           have hcg:=Ir hs hk
           split at h
           · rename_i hcas
             obtain⟨qs,h',rfl⟩:=PX.GR h
             rw[Eo]at hv
             obtain⟨w',hy,hsat,h0⟩:=Vb hx hv.1 hs.mem
             refine KE hw' (by unfold Yields at hy ⊢;rw[hcg];exact hy) ?_
             exact ih cs l _ _ qs env' A' h' hv.2 (fun h1=>K (h1.trans h0)) _ _ (hs.put hsat _ hd v)
           · rename_i u hcas
             obtain⟨qs,h',rfl⟩:=PX.GR h
             rw[Eo,Eo]at hv
             obtain⟨⟨hv1,hvu, -⟩,hv2⟩:=hv
             have hvu':v=u:=hvu
             subst hvu'
             obtain⟨w',hy,hsat,h0⟩:=Vb hx hv1 hs.mem
             refine KE hw' (by unfold Yields at hy ⊢;rw[hcg];exact hy) ?_
             exact ih cs l _ _ qs env' A' h' hv2 (fun h1=>K (h1.trans h0)) _ _ (hs.put hsat _ hd v)
         · cases h
     · cases h
section rules
variable {P:Program}{N:Nat}{env:Env}{ds:List Deferred}{A:AW}{ops:Array Oper}{l:List Oper}{s:List Kt}{Q:Exit→Act→World→Prop}
theorem Ve(hl:List.isEmpty l=true)(K:E P N env ds A .normal s Q):Lg P N env ds A ops l s Q:=by
 intro a w hs
 cases l with
 | nil=>exact K a w hs
 | cons x l=>cases hl
theorem Dh(keep:List Nat)(env':Env)(K:Lg P N env' ds A ops l s Q)(h:LV keep env=env':=by as_aux_lemma=>kernel_rfl):Lg P N env ds A ops l s Q:=fun a w hs=>K a w (hs.sub (fun t v ht=>KR (by rw[h];exact ht)))
theorem Di{c:Code}(keep:List Nat)(env':Env)(K:G P N env' ds A c s Q)(h:LV keep env=env':=by as_aux_lemma=>kernel_rfl):G P N env ds A c s Q:=fun a w hs=>K a w (hs.sub (fun t v ht=>KR (by rw[h];exact ht)))
def Vd(P:Program)(env:Env)(A:AW)(cs:List LC)(ops:Array Oper):List Oper→Option (List Prop×FuncId×Array Value×Option Nat)
 | []=>none
 | o :: _=>match Oc ops env o,Ld env o,Eh P true (execOp (IR env) o) cs A with
  | some true,true,some (vs,[],.enter f args,_)=>some (vs,f,args,o.dst)
  | _,_,_=>none
theorem l_call(cs:List LC)(vs:List Prop)(f:FuncId)(args:Array Value)(d:Option Nat)(hv:IL vs)
   (hc:∀ w,Sat A w→Calls P f args w fun e w'=>∃ v A',e = .returned v∧Sat A' w'∧Lg P N (Ig env d v) ds A' ops (l.drop 1) s Q) (h:Vd P env A cs ops l=some (vs,f,args,d):=by as_aux_lemma=>kernel_rfl) (hd:Oa N d=true:=by kernel_rfl):Lg P N env ds A ops l s Q:=by
 intro a w hs
 cases l with
 | nil=>simp[Vd]at h
 | cons o l =>
   simp only[Vd]at h
   split at h
   · rename_i vs' f' args' A' hw hk hr
     simp only[Option.some.injEq,Prod.mk.injEq]at h
     obtain⟨rfl,rfl,rfl,rfl⟩:=h
     obtain⟨hrun, -⟩:=TK _ _ _ _ _ _ _ hr hv w hs.mem.all
     unfold wpList
     rw[if_pos (FN hw hs)]
     left
     unfold Oper.wp
     rw[Ir hs hk,hrun]
     refine(hc w hs.mem).mono ?_
     rintro e w' ⟨v,A1,rfl,hs1,K⟩
     exact K _ _ (hs.put hs1 _ hd v)
   · cases h
theorem g_region{id:Nat}{os:Array Oper}(h:Lg P N env ds A os os.toList s Q):G P N env ds A (.region id os false) s Q:=fun a w hs=>wp_region_list (h a w hs)
theorem CW{x y:Code}(h:G P N env ds A x (.seq y :: s) Q):G P N env ds A (.seq x y) s Q:=fun a w hs=>wp_seq (h a w hs)
theorem g_skip(h:E P N env ds A .normal s Q):G P N env ds A .skip s Q:=fun a w hs=>wp_skip (h a w hs)
theorem g_label{n:Nat}(h:E P N env ds A .normal s Q):G P N env ds A (.label n) s Q:=fun a w hs=>wp_label (h a w hs)
theorem g_block{id:Nat}{c:Code}(h:G P N env ds A c (.blk id :: s) Q):G P N env ds A (.block id c) s Q:=fun a w hs=>wp_block (h a w hs)
theorem g_exit{id:Nat}(h:E P N env ds A (.exit id) s Q):G P N env ds A (.exit id) s Q:=fun a w hs=>wp_exit (h a w hs)
theorem Iu(h:E P N env ds A .ret s Q):G P N env ds A .ret s Q:=fun a w hs=>wp_ret (h a w hs)
theorem g_true{c:Operand}{x y:Code}(h:G P N env ds A x s Q)(hc:IR env c = .bool true:=by rfl)(hk:known env c=true:=by rfl):G P N env ds A (.cond c x y) s Q:=fun a w hs=>wp_cond_true ((hs.eval hk).trans hc) (h a w hs)
theorem Y1{c:Operand}{x y:Code}(h:G P N env ds A y s Q)(hc:IR env c = .bool false:=by rfl)(hk:known env c=true:=by rfl):G P N env ds A (.cond c x y) s Q:=fun a w hs=>wp_cond_false ((hs.eval hk).trans hc) (h a w hs)
theorem D8{c:Code}(I:Nat→Act→World→Prop)(n₀:Nat)(h₀:∀ a w,St N env ds A a w→I n₀ a w)(round:∀ n a w,I n a w→c.wp P (QQ P (.inv (fun a' w'=>∃ n',n'<n∧I n' a' w') :: s) Q) a w):G P N env ds A (.loop c) s Q :=
 fun a w hs=>wp_loop_ghost I n₀ (h₀ a w hs) round
theorem Gy{c:Code}(h:G P N env ds A c s Q):E P N env ds A .normal (.seq c :: s) Q:=h
theorem e_blk{id:Nat}(h:E P N env ds A .normal s Q):E P N env ds A .normal (.blk id :: s) Q:=h
theorem BR{R:Act→World→Prop}(h:∀ a w,St N env ds A a w→R a w):E P N env ds A .normal (.inv R :: s) Q:=h
theorem e_hit{id:Nat}(h:E P N env ds A .normal s Q):E P N env ds A (.exit id) (.blk id :: s) Q:=fun a w hs=>by
 show Exit.inBlock id (QQ P s Q) (.exit id) a w
 simp only[Exit.inBlock,if_true];exact h a w hs
theorem e_miss{id id':Nat}(hne:Nat.beq id id'=false)(h:E P N env ds A (.exit id) s Q):E P N env ds A (.exit id) (.blk id' :: s) Q:=fun a w hs=>by
 show Exit.inBlock id' (QQ P s Q) (.exit id) a w
 simp only[Exit.inBlock]
 rw[if_neg (fun e=>by subst e;rw[Nat.beq_refl]at hne;cases hne)]
 exact h a w hs
theorem e_out{id:Nat}{c:Code}(h:E P N env ds A (.exit id) s Q):E P N env ds A (.exit id) (.seq c :: s) Q:=h
theorem e_outI{id:Nat}{R:Act→World→Prop}(h:E P N env ds A (.exit id) s Q):E P N env ds A (.exit id) (.inv R :: s) Q:=h
theorem ZQ:∀ (s:List Kt) {a:Act} {w:World},Q .ret a w→QQ P s Q .ret a w
 | [],_,_,h=>h
 | .seq _ :: s,_,_,h=>ZQ s h
 | .blk _ :: s,_,_,h=>ZQ s h
 | .inv _ :: s,_,_,h=>ZQ s h
def resE(fn:Func)(env:Env):Sem Value:=do
 let vs ← fn.results.mapM fun
  | .tmp t=>pure ((look env t).getD undef)
  | .cell a t=>do loadVar t (← asAddr ((look env a).getD undef))
 pure (if h:vs.size=1 then vs[0]else .tuple vs)
def WC(env:Env):ResultVar→Bool
 | .tmp t=>(look env t).isSome
 | .cell t _=>(look env t).isSome
theorem look_some{t:Nat}(h:(look env t).isSome=true){a:Act}{w:World}(hs:St N env ds A a w):a.tmps.getD t undef=(look env t).getD undef:=by
 simp only[Option.isSome_iff_exists]at h
 obtain⟨v,hv⟩:=h
 rw[hv];exact hs.kn t v hv
theorem mapM_congr{α β:Type}{f g:α→Sem β}:∀ (l:List α),(∀ x∈l,f x=g x)→l.mapM f=l.mapM g
 | [],_=>rfl
 | x :: l,h=>by simp only[List.mapM_cons,h x (by simp),mapM_congr l (fun y hy=>h y (by simp[hy]))]
theorem results_eq{fn:Func}{a:Act}{w:World}(hk:fn.results.all (WC env)=true)(hs:St N env ds A a w):results fn a.tmps=resE fn env:=by
 simp only[Array.all_eq_true_iff_forall_mem]at hk
 unfold results resE
 simp only[Array.mapM_eq_mapM_toList]
 refine congrArg (fun z:Sem (List Value)=>(List.toArray <$> z >>= fun vs=>pure (if h:vs.size=1 then vs[0]else Value.tuple vs))) (mapM_congr _ fun x hx => ?_)
 have hx':=hk x (by simpa using hx)
 cases x with
 | tmp t=>simp only[look_some (by simpa[WC]using hx') hs]
 | cell b t=>simp only[look_some (by simpa[WC]using hx') hs]
theorem Az{fn:Func}{R:Ending→World→Prop}(cs:List LC)(vs:List Prop)(v:Value)(hv:IL vs)(K:∀ w,Sat A w→R (.returned v) w)(hk:fn.results.all (WC env)=true:=by kernel_rfl)(h:Eh P true (resE fn env) cs A=some (vs,[],v,A):=by as_aux_lemma=>kernel_rfl):E P N env [] A .ret s (bodyPost P fn R):=by
 intro a w hs
 obtain⟨hrun, -⟩:=TK _ _ _ _ _ _ _ h hv w hs.mem.all
 exact ZQ s ⟨hs.df,v,by rw[results_eq hk hs];exact hrun,K w hs.mem⟩
end rules
def argE:List Value→Nat→Env
 | [],_=>[]
 | v :: r,i=>(i,v) :: argE r (i+1)
theorem look_arg:∀ (l:List Value) (i t:Nat) (v:Value),look (argE l i) t=some v→i≤t∧l[t - i]? = some v
 | [],_,_,_,h=>by simp[argE,look]at h
 | x :: r,i,t,v,h=>by
  simp only[argE,look]at h
  cases hb:Nat.beq i t with
  | true=>rw[hb]at h;have:=Nat.eq_of_beq_eq_true hb;subst this;simp at h;simp[h]
  | false =>
   rw[hb]at h
   obtain⟨h1,h2⟩:=look_arg r (i+1) t v h
   refine⟨by omega, ?_⟩
   rw[show t - i=(t - (i+1))+1 from by omega];simpa using h2
theorem Bf{P:Program}{f:FuncId}{fn:Func}{c:Code}{args:List Value}{w:World}{R:Ending→World→Prop}(N:Nat)(A:AW)(hf:P.funcs[f]? = some fn)(hb:fn.body=some c)(hn:fn.ntmps=N)(hl:Nat.ble args.length N=true)(hs:Sat A w)
   (h:G P N (argE args 0) [] A c [] (bodyPost P fn R)):Calls P f args.toArray w R:=by
 refine calls_of_wp hf hb (h _ _ ⟨?_,rfl, ?_,hs⟩)
 · have:=Nat.le_of_ble_eq_true hl
   simp[hn];omega
 · intro t v ht
   obtain⟨-,h2⟩:=look_arg args 0 t v ht
   have hlt:t<args.length:=(List.getElem?_eq_some_iff.1 h2).1
   simp only[Array.getD_eq_getD_getElem?]
   rw[Array.getElem?_append_left (by simpa using hlt)]
   simp at h2 ⊢
   rw[h2];rfl
abbrev pt(b:Nat):Value:= .pointer (some ⟨b,0,none⟩)
abbrev i6(n:Int):Value:= .int .i64 n
abbrev bk(b:Nat)(cs:Array Value)(t:TypeId):Ch:= .blk b (.cells cs t (0,0)) true
abbrev a1(i:Nat):OC:=⟨.auto [.at i],none⟩
abbrev an(n i:Nat):OC:=⟨.auto (List.replicate n (.at i)),none⟩
inductive YO where
 | code (c:Code)
 | out (e:Exit)
 | reg (os:Array Oper) (l:List Oper)
inductive Seg where
 | ops (os:Array Oper) (l:List Oper)
 | cnd (x:Operand) (b lit:Bool)
abbrev Stp:=Option (List Seg×YO×List Kt×List Nat)
def step1:YO→List Kt→List Nat→Stp
 | .code c,s,bs=>match c with
  | .seq x y=>some ([],.code x,.seq y :: s,bs)
  | .skip=>some ([],.out .normal,s,bs)
  | .label _=>some ([],.out .normal,s,bs)
  | .block id c=>some ([],.code c,.blk id :: s,bs)
  | .region _ os false=>some ([],.reg os os.toList,s,bs)
  | .exit id=>some ([],.out (.exit id),s,bs)
  | .ret=>some ([],.out .ret,s,bs)
  | .cond x c d=>match bs with
   | 0 :: bs=>some ([.cnd x false true],.code d,s,bs)
   | 1 :: bs=>some ([.cnd x true true],.code c,s,bs)
   | 2 :: bs=>some ([.cnd x false false],.code d,s,bs)
   | 3 :: bs=>some ([.cnd x true false],.code c,s,bs)
   | _=>none
  | _=>none
 | .reg os l,s,bs=>some ([.ops os l],.out .normal,s,bs)
 | .out .normal,.seq c :: s,bs=>some ([],.code c,s,bs)
 | .out .normal,.blk _ :: s,bs=>some ([],.out .normal,s,bs)
 | .out (.exit id),.seq _ :: s,bs=>some ([],.out (.exit id),s,bs)
 | .out (.exit id),.inv _ :: s,bs=>some ([],.out (.exit id),s,bs)
 | .out (.exit id),.blk id' :: s,bs=>match Nat.beq id id' with
  | true=>some ([],.out .normal,s,bs)
  | false=>some ([],.out (.exit id),s,bs)
 | _,_,_=>none
def path:Nat→Nat→List Nat→YO→List Kt→Option (List Seg×YO×List Kt)
 | 0,last,_,p,s=>match last with
  | 0=>some ([],p,s)
  | k+1=>match p with
   | .reg os l=>some ([.ops os (l.take (k+1))],.reg os (l.drop (k+1)),s)
   | _=>none
 | n+1,last,bs,p,s=>match step1 p s bs with
  | some (sg,p',s',bs')=>match path n last bs' p' s' with
   | some (sgs,r)=>some (sg++sgs,r)
   | none=>none
  | none=>none
def Jw(P:Program)(N:Nat):List Seg→List (List OC)→Env→AW→PX
 | [],[],env,A=>some ([],env,A)
 | .ops os l :: r,cs :: css,env,A=>match PU P N os l.length cs l env A with
  | some (vs,env',A')=>(Jw P N r css env' A').and vs
  | none=>none
 | .cnd x b lit :: r,css,env,A=>match known env x with
  | true=>match lit with
   | false=>(Jw P N r css env A).and [IR env x = .bool b]
   | true=>match IR env x,b with
    | .bool true,true=>Jw P N r css env A
    | .bool false,false=>Jw P N r css env A
    | _,_=>none
  | false=>none
 | _,_,_,_=>none
section
variable {P:Program}{N:Nat}{ds:List Deferred}{Q:Exit→Act→World→Prop}
abbrev Gl(P:Program)(N:Nat)(env:Env)(ds:List Deferred)(A:AW)(p:YO)(s:List Kt)(Q:Exit→Act→World→Prop):Prop:=match p with
 | .code c=>G P N env ds A c s Q
 | .out e=>E P N env ds A e s Q
 | .reg os l=>Lg P N env ds A os l s Q
theorem step1_sound{p p':YO}{s s':List Kt}{bs bs':List Nat}{sg:List Seg}(h:step1 p s bs=some (sg,p',s',bs')) :
   ∀ (css css':List (List OC)) (env env':Env) (A A':AW) (vs:List Prop) (r:List Seg),Jw P N (sg++r) css env A=some (vs,env',A')→IL vs →
     (∀ (css2:List (List OC)) (env2:Env) (A2:AW) (vs2:List Prop),Jw P N r css2 env2 A2=some (vs2,env',A')→IL vs2→Gl P N env2 ds A2 p' s' Q)→Gl P N env ds A p s Q:=by
 intro css css' env env' A A' vs r hr hv K
 unfold step1 at h
 split at h
 · rename_i c s0 bs0
   split at h
   · cases h;exact CW (K _ _ _ _ hr hv)
   · cases h;exact g_skip (K _ _ _ _ hr hv)
   · cases h;exact g_label (K _ _ _ _ hr hv)
   · cases h;exact g_block (K _ _ _ _ hr hv)
   · cases h;exact g_region (K _ _ _ _ hr hv)
   · cases h;exact g_exit (K _ _ _ _ hr hv)
   · cases h;exact Iu (K _ _ _ _ hr hv)
   · have key:∀ (x:Operand) (b lit:Bool),Jw P N ([.cnd x b lit]++r) css env A=some (vs,env',A')→known env x=true∧IR env x = .bool b∧∃ vs2,Jw P N r css env A=some (vs2,env',A')∧IL vs2:=by
       intro x b lit hr
       simp only[List.cons_append,List.nil_append,Jw]at hr
       split at hr
       · rename_i hk
         split at hr
         · obtain⟨qs,h1,rfl⟩:=PX.GR hr
           rw[Eo]at hv
           exact⟨hk,hv.1.1,qs,h1,hv.2⟩
         · split at hr
           · rename_i he;exact⟨hk,he,vs,hr,hv⟩
           · rename_i he;exact⟨hk,he,vs,hr,hv⟩
           · cases hr
       · cases hr
     split at h
     · cases h
       obtain⟨h1,h2,vs2,h3,h4⟩:=key _ _ _ hr
       exact Y1 (K _ _ _ _ h3 h4) h2 h1
     · cases h
       obtain⟨h1,h2,vs2,h3,h4⟩:=key _ _ _ hr
       exact g_true (K _ _ _ _ h3 h4) h2 h1
     · cases h
       obtain⟨h1,h2,vs2,h3,h4⟩:=key _ _ _ hr
       exact Y1 (K _ _ _ _ h3 h4) h2 h1
     · cases h
       obtain⟨h1,h2,vs2,h3,h4⟩:=key _ _ _ hr
       exact g_true (K _ _ _ _ h3 h4) h2 h1
     · cases h
   · cases h
 · rename_i os l
   cases h
   cases css with
   | nil=>simp[Jw]at hr
   | cons cs css =>
     simp only[List.cons_append,List.nil_append,Jw]at hr
     split at hr
     · rename_i vs1 e1 A1 h1
       obtain⟨qs,h2,rfl⟩:=PX.GR hr
       rw[Eo]at hv
       refine Vj l.length cs l env A vs1 e1 A1 h1 hv.1 (fun _ a w hs => ?_)
       rw[List.drop_length]
       exact K _ _ _ _ h2 hv.2 a w hs
     · cases hr
 · cases h;exact Gy (K _ _ _ _ hr hv)
 · cases h;exact e_blk (K _ _ _ _ hr hv)
 · cases h;exact e_out (K _ _ _ _ hr hv)
 · cases h;exact e_outI (K _ _ _ _ hr hv)
 · split at h
   · rename_i hb
     cases h
     have:=Nat.eq_of_beq_eq_true hb
     subst this
     exact e_hit (K _ _ _ _ hr hv)
   · rename_i hb
     cases h
     exact e_miss hb (K _ _ _ _ hr hv)
 · cases h
theorem path_sound:∀ (n last:Nat) (bs:List Nat) (p p':YO) (s s':List Kt) (sgs:List Seg),path n last bs p s=some (sgs,p',s') →
   ∀ (css:List (List OC)) (env env':Env) (A A':AW) (vs:List Prop),Jw P N sgs css env A=some (vs,env',A')→IL vs→Gl P N env' ds A' p' s' Q→Gl P N env ds A p s Q:=by
 intro n
 induction n with
 | zero =>
   intro last bs p p' s s' sgs h css env env' A A' vs hr hv K
   unfold path at h
   split at h
   · cases h
     cases css with
     | nil=>simp only[Jw,Option.some.injEq,Prod.mk.injEq]at hr;obtain⟨-,rfl,rfl⟩:=hr;exact K
     | cons c cs=>simp[Jw]at hr
   · rename_i k
     split at h
     · rename_i os l
       cases h
       cases css with
       | nil=>simp[Jw]at hr
       | cons cs css =>
         simp only[Jw]at hr
         split at hr
         · rename_i vs1 e1 A1 h1
           obtain⟨qs,h2,rfl⟩:=PX.GR hr
           rw[Eo]at hv
           cases css with
           | nil =>
             simp only[Jw,Option.some.injEq,Prod.mk.injEq]at h2
             obtain⟨-,rfl,rfl⟩:=h2
             have hlen:(l.take (k+1)).length=min (k+1) l.length:=List.length_take
             by_cases hkl:k+1≤l.length
             · have h3:=listA_take (P:=P) (N:=N) (ops:=os) (k+1) cs l env A hkl
               rw[hlen,Nat.min_eq_left hkl,h3]at h1
               exact Vj (k+1) cs l env A vs1 _ _ h1 hv.1 (fun _=>K)
             · have ht:l.take (k+1)=l:=List.take_of_length_le (by omega)
               have hd:l.drop (k+1)=l.drop l.length:=by rw[List.drop_of_length_le (by omega),List.drop_length]
               rw[ht]at h1
               refine Vj l.length cs l env A vs1 _ _ h1 hv.1 (fun _ => ?_)
               rw[←hd];exact K
           | cons c cs=>simp[Jw]at h2
         · cases hr
     · cases h
 | succ n ih =>
   intro last bs p p' s s' sgs h css env env' A A' vs hr hv K
   unfold path at h
   split at h
   · rename_i sg p1 s1 bs1 h1
     split at h
     · rename_i sgs2 r h2
       cases h
       exact step1_sound h1 css css env env' A A' vs sgs2 hr hv (fun css2 env2 A2 vs2 hr2 hv2=>ih last bs1 p1 p' s1 s' sgs2 h2 css2 env2 env' A2 A' vs2 hr2 hv2 K)
     · cases h
   · cases h
where
 listA_take:∀ {P:Program} {N:Nat} {ops:Array Oper} (m:Nat) (cs:List OC) (l:List Oper) (env:Env) (A:AW),m≤l.length→PU P N ops m cs (l.take m) env A=PU P N ops m cs l env A
  | P,N,ops,0,cs,l,env,A,_=>by cases cs <;> simp[PU]
  | P,N,ops,m+1,cs,[],env,A,h=>by simp at h
  | P,N,ops,m+1,cs,o :: l,env,A,h=>by
   have h':m≤l.length:=by simpa using h
   rw[List.take_succ_cons]
   simp only[PU]
   have ih:=fun cs env A=>listA_take (P:=P) (N:=N) (ops:=ops) m cs l env A h'
   simp only[ih]
def Xm(P:Program)(N:Nat)(sgs:List Seg)(css:List (List OC))(keep:List Nat)(env:Env)(A:AW):PX:=match Jw P N sgs css env A with
 | some (vs,e,A')=>some (vs,LV keep e,A')
 | none=>none
theorem gl_keep{env env':Env}{A:AW}{p:YO}{s:List Kt}{keep:List Nat}(h:LV keep env=env')(K:Gl P N env' ds A p s Q):Gl P N env ds A p s Q:=by
 cases p <;> exact fun a w hs=>K a w (hs.sub (fun t v ht=>KR (by rw[h];exact ht)))
abbrev Yn(env:Env):List Nat:=env.map (·.1)
theorem Ym{p p':YO}{s s':List Kt}{sgs:List Seg}{env:Env}{A:AW}(n last:Nat)(bs:List Nat)(css:List (List OC))(keep:List Nat)(vs:List Prop)(env':Env)(A':AW)(hp:path n last bs p s=some (sgs,p',s'))(hv:IL vs)(K:Gl P N env' ds A' p' s' Q)(h:Xm P N sgs css keep env A=some (vs,env',A')):Gl P N env ds A p s Q:=by
 unfold Xm at h
 split at h
 ·rename_i vs' e A1 h1
  simp only[Option.some.injEq,Prod.mk.injEq]at h
  obtain⟨rfl,rfl,rfl⟩:=h
  exact path_sound n last bs p p' s s' sgs hp css env e A _ _ h1 hv (gl_keep rfl K)
 cases h
variable {env:Env}{A:AW}{p':YO}{s s':List Kt}{sgs:List Seg}
theorem q_c{c:Code}(n last:Nat)(bs:List Nat)(css:List (List OC))(vs:List Prop)(env':Env)(A':AW)(hp:path n last bs (.code c) s=some (sgs,p',s'))(hv:IL vs)(K:Gl P N env' ds A' p' s' Q)(h:Xm P N sgs css (Yn env') env A=some (vs,env',A'):=by as_aux_lemma=>kernel_rfl):G P N env ds A c s Q:=Ym (p:= .code c) n last bs css _ vs env' A' hp hv K h
theorem Au{c:Code}(n last:Nat)(bs:List Nat)(css:List (List OC))(vs:List Prop)(env':Env)(hp:path n last bs (.code c) s=some (sgs,p',s'))(hv:IL vs)(K:Gl P N env' ds A p' s' Q)(h:Xm P N sgs css (Yn env') env A=some (vs,env',A):=by as_aux_lemma=>kernel_rfl):G P N env ds A c s Q:=Ym (p:= .code c) n last bs css _ vs env' A hp hv K h
theorem q_o{e:Exit}(n last:Nat)(bs:List Nat)(css:List (List OC))(vs:List Prop)(env':Env)(A':AW)(hp:path n last bs (.out e) s=some (sgs,p',s'))(hv:IL vs)(K:Gl P N env' ds A' p' s' Q)(h:Xm P N sgs css (Yn env') env A=some (vs,env',A'):=by as_aux_lemma=>kernel_rfl):E P N env ds A e s Q:=Ym (p:= .out e) n last bs css _ vs env' A' hp hv K h
theorem NU{e:Exit}(n last:Nat)(bs:List Nat)(css:List (List OC))(vs:List Prop)(env':Env)(hp:path n last bs (.out e) s=some (sgs,p',s'))(hv:IL vs)(K:Gl P N env' ds A p' s' Q)(h:Xm P N sgs css (Yn env') env A=some (vs,env',A):=by as_aux_lemma=>kernel_rfl):E P N env ds A e s Q:=Ym (p:= .out e) n last bs css _ vs env' A hp hv K h
theorem EI{os:Array Oper}{l:List Oper}(n last:Nat)(bs:List Nat)(css:List (List OC))(vs:List Prop)(env':Env)(A':AW)(hp:path n last bs (.reg os l) s=some (sgs,p',s'))(hv:IL vs)(K:Gl P N env' ds A' p' s' Q)(h:Xm P N sgs css (Yn env') env A=some (vs,env',A'):=by as_aux_lemma=>kernel_rfl):Lg P N env ds A os l s Q:=Ym (p:= .reg os l) n last bs css _ vs env' A' hp hv K h
theorem AZ{os:Array Oper}{l:List Oper}(n last:Nat)(bs:List Nat)(css:List (List OC))(vs:List Prop)(env':Env)(hp:path n last bs (.reg os l) s=some (sgs,p',s'))(hv:IL vs)(K:Gl P N env' ds A p' s' Q)(h:Xm P N sgs css (Yn env') env A=some (vs,env',A):=by as_aux_lemma=>kernel_rfl):Lg P N env ds A os l s Q:=Ym (p:= .reg os l) n last bs css _ vs env' A hp hv K h
end
section
variable {P:Program}{ops:Array Oper}{Q:Exit→Act→World→Prop}{md:Region.Mode}{C:World→Prop}{late:Nat}
def Closed(md:Region.Mode)(ops:Array Oper)(listed:Array Bool):Prop :=
 (∀ j oj,ops[j]? = some oj→listed.getD j false=true→∀ e∈oj.after,Region.binds md e=true→listed.getD e.on false=true)∧∀ j,listed.getD j false=true→j<ops.size
def anc(md:Region.Mode)(ops:Array Oper):Nat→Nat→List Nat
 | 0,_=>[]
 | f+1,j=>match ops[j]? with
  | none=>[]
  | some o=>o.after.toList.flatMap fun e=>if Region.binds md e then e.on :: anc md ops f e.on else[]
theorem anc_listed{listed:Array Bool}(hc:Closed md ops listed):∀ (f j:Nat) (o:Oper),ops[j]? = some o→(∀ e∈o.after,Region.binds md e=true→listed.getD e.on false=true)→∀ m∈anc md ops f j,listed.getD m false=true:=by
 intro f
 induction f with
 | zero=>intro j o _ _ m hm;simp[anc]at hm
 | succ f ih =>
  intro j o ho ha m hm
  simp only[anc,ho,List.mem_flatMap]at hm
  obtain⟨e,he,hm⟩:=hm
  have he':e∈o.after:=by simpa using he
  split at hm
  ·rename_i hb
   have h1:=ha e he' hb
   rcases List.mem_cons.1 hm with rfl | hm
   ·exact h1
   cases hoe:ops[e.on]? with
   | none=>cases f <;> simp[anc,hoe]at hm
   | some oe=>exact ih e.on oe hoe (hc.1 e.on oe hoe h1) m hm
  cases hm
theorem O7{listed:Array Bool}{i:Nat}(hc:Closed md ops listed)(hi:i∈Region.ready md ops listed):Closed md ops (listed.setIfInBounds i true):=by
 obtain⟨-,o,ho,hall⟩:=mem_ready.1 hi
 refine⟨?_,fun j hl => ?_⟩
 ·intro j oj hj hl e he hb
  by_cases hij:i=j
  ·subst hij
   rw[hj]at ho;cases ho
   exact getD_set_true (hall e he hb)
  rw[getD_set_ne false hij]at hl
  exact getD_set_true (hc.1 j oj hj hl e he hb)
 by_cases hij:i=j
 ·subst hij;exact(Array.getElem?_eq_some_iff.1 ho).1
 rw[getD_set_ne false hij]at hl
 exact hc.2 j hl
def Na(P:Program)(md:Region.Mode)(ops:Array Oper)(Q:Exit→Act→World→Prop)(late:Nat)(C:World→Prop):Nat→Array Bool→Act→World→Prop
 | 0,listed,a,w=>Region.ready md ops listed=[]∧Q .normal a w
 | fuel+1,listed,a,w =>
  (Region.ready md ops listed=[]→Q .normal a w) ∧
  ∀ i∈Region.ready md ops listed,wpOp P ops Q i (fun a' w'=>((listed.setIfInBounds i true).getD late false=false→C w')∧Na P md ops Q late C fuel (listed.setIfInBounds i true) a' w') a w
def ahead(md:Region.Mode)(ops:Array Oper)(late i:Nat):Bool:=Nat.ble ops.size late||(anc md ops ops.size late).contains i
theorem Wq{i:Nat}{oi:Oper}{listed:Array Bool}(hl:ahead md ops late i=true)(hi:ops[i]? = some oi)(hc:Closed md ops listed)(hr:i∈Region.ready md ops listed):listed.getD late false=false:=by
 cases hb:listed.getD late false with
 | false=>rfl
 | true =>
  exfalso
  have hlt:=hc.2 late hb
  unfold ahead at hl
  rcases Bool.or_eq_true_iff.1 hl with hl | hl
  ·have h1:=Nat.le_of_ble_eq_true hl
   omega
  have h0:=(mem_ready.1 hr).1
  have h1:=anc_listed hc ops.size late ops[late] (by simp[hlt]) (hc.1 late ops[late] (by simp[hlt]) hb) i (by simpa using hl)
  rcases Nat.lt_or_ge i listed.size with h' | h'
  ·simp[h']at h0 h1;rw[h0]at h1;cases h1
  simp[Array.getElem?_eq_none h']at h1
theorem first{i:Nat}{oi:Oper}{v:Value}(hl:ahead md ops late i=true)(hi:ops[i]? = some oi)(hsel:∀ (j:Nat) (o:Oper) cs b,ops[j]? = some o→o.op ≠ .select cs b)
   (hQ:∀ c a w,Q (.panic c) (a.put oi.dst v) w→Q (.panic c) a w) :
   ∀ (fuel:Nat) (listed:Array Bool) (a:Act) (w:World),Closed md ops listed →
     (∀ j oj,ops[j]? = some oj→j≠i→listed.getD j true=false→(∀ e∈oj.after,Region.binds md e=true→e.on≠i)→oi.apart ops oj=true) →
     i∈Region.ready md ops listed→YieldsIf P ops C oi v a→C w→i≠late →
     Na P md ops Q late C fuel (listed.setIfInBounds i true) (a.put oi.dst v) w→Na P md ops Q late C (fuel+1) listed a w:=by
 intro fuel
 induction fuel with
 | zero =>
   intro listed a w _ _ hr hy hS hil H
   refine⟨fun h=>(by rw[h]at hr;cases hr),fun j hj => ?_⟩
   by_cases hji:j=i
   · subst hji;exact hy.wpOp hi hS ⟨fun _=>hS,H⟩
   · have:=ready_mono hj hji
     rw[H.1]at this
     cases this
 | succ fuel ih =>
   intro listed a w hcl hfree hr hy hS hil H
   refine⟨fun h=>(by rw[h]at hr;cases hr),fun j hj => ?_⟩
   by_cases hji:j=i
   · subst hji;exact hy.wpOp hi hS ⟨fun _=>hS,H⟩
   · have h1:=H.2 j (ready_mono hj hji)
     obtain⟨hjun,oj,hoj,hall⟩:=mem_ready.1 hj
     have hnot:∀ e∈oj.after,Region.binds md e=true→e.on≠i:=fun e he hb heq=>by
       have h1:=hall e he hb
       have h0:=(mem_ready.1 hr).1
       rw[heq]at h1
       rcases Nat.lt_or_ge i listed.size with h' | h'
       · simp[h']at h0 h1;rw[h0]at h1;cases h1
       · simp[Array.getElem?_eq_none h']at h1
     have hlate:(listed.setIfInBounds j true).getD late false=false:=Wq hl hi (O7 hcl hj) (ready_mono hr (Ne.symm hji))
     have hlate2:((listed.setIfInBounds i true).setIfInBounds j true).getD late false=(listed.setIfInBounds j true).getD late false∨i=late:=by
       by_cases hil:i=late
       · exact .inr hil
       · left;rw[Array.setIfInBounds_comm _ _ (Ne.symm hji),getD_set_ne false hil]
     have h2:=wpOp_putIf hoj (hfree j oj hoj hji hjun hnot) (fun cs b=>hsel i oi cs b hi) (fun cs b=>hsel j oj cs b hoj) hQ hy h1
     have hfree':∀ k ok,ops[k]? = some ok→k≠i→(listed.setIfInBounds j true).getD k true=false →
         (∀ e∈ok.after,Region.binds md e=true→e.on≠i)→oi.apart ops ok=true:=fun k ok hk hki hun hno=>by
       refine hfree k ok hk hki ?_ hno
       by_cases hjk:j=k
       · subst hjk;exact hjun
       · rw[getD_set_ne true hjk]at hun;exact hun
     refine wpOp_mono (fun a' w' h3 => ?_) h2
     have hCw:C w':=h3.2.1 (by
       rcases hlate2 with e | e
       · rw[e];exact hlate
       · exact absurd e hil)
     refine⟨fun _=>hCw,ih (listed.setIfInBounds j true) a' w' (O7 hcl hj) hfree' (ready_mono hr (Ne.symm hji)) h3.1 hCw hil ?_⟩
     rw[Array.setIfInBounds_comm _ _ hji]
     exact h3.2.2
def Quiet(Q:Exit→Act→World→Prop)(e:Exit)(a:Act)(w:World):Prop:=(e = .normal∧Q .normal a w)∨∃ ch,e = .panic ch∧∀ a':Act,a'.tmps.size=a.tmps.size→a'.defers=a.defers→Q (.panic ch) a' w
theorem Xn{a:Act}{w:World}(h:Quiet Q .normal a w):Q .normal a w:=by
 rcases h with h | ⟨ch,e, -⟩
 ·exact h.2
 cases e
theorem YP{ch:List PanicEntry}{a:Act}{w:World}(h:Quiet Q (.panic ch) a w):Q (.panic ch) a w:=by
 rcases h with h | ⟨ch,e,h⟩
 ·exact absurd h.1 (by simp)
 cases e;exact h a rfl rfl
theorem ZaZ{ch:List PanicEntry}{a:Act}{w:World}{d:Option Tmp}{v:Value}(h:Quiet Q (.panic ch) (a.put d v) w):Quiet Q (.panic ch) a w:=by
 rcases h with h | ⟨ch,e,h⟩
 ·exact absurd h.1 (by simp)
 refine .inr ⟨ch,e,fun a' h1 h2=>h a' ?_ ?_⟩
 ·cases d <;> simp[Act.put,h1]
 cases d <;> simp[Act.put,h2]
theorem any_plain:∀ (fuel:Nat) (listed:Array Bool) (a:Act) (w:World),Na P md ops (Quiet Q) late C fuel listed a w→wpAny P md ops Q fuel listed a w:=by
 intro fuel
 induction fuel with
 | zero=>exact fun _ _ _ h=>⟨h.1,Xn h.2⟩
 | succ fuel ih =>
  intro listed a w h
  refine⟨fun h0=>Xn (h.1 h0),fun i hi => ?_⟩
  have h1:=h.2 i hi
  unfold wpOp at h1 ⊢
  cases ho:ops[i]? with
  | none=>simp only[ho]at h1;exact ih _ _ _ h1.2
  | some o =>
   simp only[ho]at h1
   simp only[]
   split
   ·rename_i hw
    simp only[hw,if_true]at h1
    rcases h1 with h1 | ⟨-,a',w',e⟩
    ·left
     unfold Oper.wp at h1 ⊢
     generalize (execOp a.eval o).run P w=r at *
     cases r with
     | ok x w' =>
      cases x <;> simp only[Oper.upon]at h1 ⊢ <;> first
       | exact ih _ _ _ h1.2
       | exact h1
       | exact Calls.mono h1 (fun e w'' he=>by cases e <;> first | exact ih _ _ _ he.2 | exact YP he | (obtain⟨_,_,⟨e, -⟩ | ⟨_,e, -⟩⟩:=he <;> cases e))
       | exact Rows.mono h1 (fun _ _ he=>ih _ _ _ he.2)
     | halt x w'=>cases x <;> simp only[Oper.upon]at h1 ⊢ <;> first | exact h1 | exact YP h1
    rcases e with⟨e, -⟩ | ⟨_,e, -⟩ <;> cases e
   rename_i hw
   simp only[hw,Bool.false_eq_true,if_false]at h1
   exact ih _ _ _ h1.2
end
def Cs(σC:List Ch)(w:World):Prop:=∀ c∈σC,c.holds w
def Wg(P:Program)(N:Nat)(env:Env)(ds:List Deferred)(A:AW)(ops:Array Oper)(σC:List Ch)(late fuel:Nat)(listed:List Bool)(s:List Kt)(Q:Exit→Act→World→Prop):Prop :=
 ∀ a w,St N env ds A a w→Closed .any ops listed.toArray→(listed.toArray.getD late false=false→Cs σC w)→Na P .any ops (Quiet (QQ P s Q)) late (Cs σC) fuel listed.toArray a w
def WO(P:Program)(N:Nat)(env:Env)(ds:List Deferred)(A:AW)(ops:Array Oper)(σC:List Ch)(late fuel:Nat)(listed:List Bool)(s:List Kt)(Q:Exit→Act→World→Prop)(i:Nat):Prop :=
 ∀ a w,St N env ds A a w→Closed .any ops (listed.set i true).toArray→wpOp P ops (Quiet (QQ P s Q)) i (fun a' w'=>((listed.set i true).toArray.getD late false=false→Cs σC w')∧Na P .any ops (Quiet (QQ P s Q)) late (Cs σC) fuel (listed.set i true).toArray a' w') a w
section
variable {P:Program}{N:Nat}{env:Env}{ds:List Deferred}{A:AW}{ops:Array Oper}{σC:List Ch}{late fuel:Nat}{listed:List Bool}{s:List Kt}{Q:Exit→Act→World→Prop}
def takes(P:Program)(N:Nat)(ops:Array Oper)(σC:List Ch)(w0:World)(late:Nat):List (Nat×OC)→List Bool→Env→Option (List Prop×List Bool×Env)
 | [],listed,env=>some ([],listed,env)
 | (i,c) :: r,listed,env=>match ahead .any ops late i && !Nat.beq i late,Region.free .any ops listed.toArray i,(Region.ready .any ops listed.toArray).contains i,ops[i]? with
  | true,true,true,some o=>match Oa N o.dst,Oc ops env o with
   | true,some false=>takes P N ops σC w0 late r (listed.set i true) (Ig env o.dst undef)
   | true,some true=>match Ld env o,RU P true (IR env) o ⟨w0,0,σC⟩ c.k with
    | true,some (vs,v,_)=>match c.asv with
     | none=>match takes P N ops σC w0 late r (listed.set i true) (Ig env o.dst v)with
      | some (us,x)=>some (vs++us,x)
      | none=>none
     | some u=>match takes P N ops σC w0 late r (listed.set i true) (Ig env o.dst u)with
      | some (us,x)=>some (vs++(v=u) :: us,x)
      | none=>none
    | _,_=>none
   | _,_=>none
  | _,_,_,_=>none
theorem takes_sound(hs:Region.noSelect ops=true){w0:World}:∀ (cs:List (Nat×OC)) (listed:List Bool) (env:Env) (vs:List Prop) (listed':List Bool) (env':Env),
   takes P N ops σC w0 late cs listed env=some (vs,listed',env')→IL vs→Wg P N env' ds A ops σC late fuel listed' s Q→Wg P N env ds A ops σC late (fuel+cs.length) listed s Q:=by
 intro cs
 induction cs with
 | nil =>
   intro listed env vs listed' env' h hv K
   simp only[takes,Option.some.injEq,Prod.mk.injEq]at h
   obtain⟨-,rfl,rfl⟩:=h
   exact K
 | cons x r ih =>
   obtain⟨i,c⟩:=x
   intro listed env vs listed' env' h hv K a w hst hcl hC
   simp only[takes]at h
   split at h
   · rename_i o hah0 hfr hrd hi
     rw[Bool.and_eq_true]at hah0
     obtain⟨hah,hil0⟩:=hah0
     have hil:i≠late:=fun e=>by subst e;rw[Nat.beq_refl]at hil0;cases hil0
     have hrd':i∈Region.ready .any ops listed.toArray:=by simpa using hrd
     have hC0:=hC (Wq hah hi hcl hrd')
     have hQ:∀ v c a w,Quiet (QQ P s Q) (.panic c) (a.put o.dst v) w→Quiet (QQ P s Q) (.panic c) a w:=fun _ _ _ _ h=>ZaZ h
     have hset:∀ l:List Bool,l.toArray.setIfInBounds i true=(l.set i true).toArray:=fun l=>by simp
     have hcl':Closed .any ops (listed.set i true).toArray:=by rw[←hset];exact O7 hcl hrd'
     have go:∀ v,YieldsIf P ops (Cs σC) o v a→Na P .any ops (Quiet (QQ P s Q)) late (Cs σC) (fuel+r.length) (listed.set i true).toArray (a.put o.dst v) w→Na P .any ops (Quiet (QQ P s Q)) late (Cs σC) (fuel+(r.length+1)) listed.toArray a w:=by
       intro v hy hw
       exact first (md:= .any) (late:=late) (C:=Cs σC) hah hi (Region.noSelect_spec hs) (hQ v) (fuel+r.length) listed.toArray a w hcl (Region.free_spec hi hfr) hrd' hy hC0 hil (by rw[hset];exact hw)
     split at h
     · rename_i hd hw
       exact go undef (.inr ⟨FN hw hst,rfl⟩) (ih _ _ vs listed' env' h hv K _ _ (hst.put hst.mem _ hd undef) hcl' (fun _=>hC0))
     · rename_i hd hw
       have hw':=FN hw hst
       split at h
       · rename_i vs1 v A1 hk hx
         have hcg:=Ir hst hk
         have hy:IL vs1→YieldsIf P ops (Cs σC) o v a:=fun h1=> .inl ⟨hw',fun w1 hC1=>by rw[hcg];exact opX_read hx h1 hC1⟩
         split at h
         · split at h
           · rename_i us x hx2
             simp only[Option.some.injEq,Prod.mk.injEq]at h
             obtain⟨rfl,rfl,rfl⟩:=h
             rw[Eo]at hv
             exact go v (hy hv.1) (ih _ _ us _ _ hx2 hv.2 K _ _ (hst.put hst.mem _ hd v) hcl' (fun _=>hC0))
           · cases h
         · rename_i u hcas
           split at h
           · rename_i us x hx2
             simp only[Option.some.injEq,Prod.mk.injEq]at h
             obtain⟨rfl,rfl,rfl⟩:=h
             rw[Eo]at hv
             obtain⟨h1,h2,h3⟩:=hv
             have h2':v=u:=h2
             subst h2'
             exact go v (hy h1) (ih _ _ us _ _ hx2 h3 K _ _ (hst.put hst.mem _ hd v) hcl' (fun _=>hC0))
           · cases h
       · cases h
     · cases h
   · cases h
theorem w_take(cs:List (Nat×OC))(keep:List Nat)(vs:List Prop)(listed':List Bool)(env':Env)(hf:Nat.ble cs.length fuel=true)
   (h:(match takes P N ops σC A.w0 late cs listed env with | some (vs,l,e)=>some (vs,l,LV keep e) | none=>none)=some (vs,listed',env')) (hs:Region.noSelect ops=true) (hv:IL vs) (K:Wg P N env' ds A ops σC late (fuel - cs.length) listed' s Q):Wg P N env ds A ops σC late fuel listed s Q:=by
 split at h
 · rename_i vs' l e h1
   simp only[Option.some.injEq,Prod.mk.injEq]at h
   obtain⟨rfl,rfl,rfl⟩:=h
   have hle:=Nat.le_of_ble_eq_true hf
   have:=takes_sound (fuel:=fuel - cs.length) hs cs listed env _ _ _ h1 hv (fun a w hst hcl hC=>K a w (hst.sub (fun t v=>KR)) hcl hC)
   rwa [Nat.sub_add_cancel hle]at this
 · cases h
theorem Ci(cs:List (Nat×OC))(keep:List Nat)(vs:List Prop)(listed':List Bool)(env':Env)(hv:IL vs)(K:Wg P N env' ds A ops σC late (fuel - cs.length) listed' s Q)(hf:Nat.ble cs.length fuel=true:=by rfl)(h:(match takes P N ops σC A.w0 late cs listed env with | some (vs,l,e)=>some (vs,l,LV keep e) | none=>none)=some (vs,listed',env'):=by as_aux_lemma=>kernel_rfl)(hs:Region.noSelect ops=true:=by as_aux_lemma=>kernel_rfl):Wg P N env ds A ops σC late fuel listed s Q:=w_take cs keep vs listed' env' hf h hs hv K
theorem w_all(rs:List Nat)(hr:Region.ready .any ops listed.toArray=rs)(hne:List.isEmpty rs=false)(hf:Nat.ble 1 fuel=true)(h:∀ i∈rs,WO P N env ds A ops σC late (fuel - 1) listed s Q i):Wg P N env ds A ops σC late fuel listed s Q:=by
 intro a w hst hcl hC
 obtain⟨f,rfl⟩:∃ f,fuel=f+1:=⟨fuel - 1,by have:=Nat.le_of_ble_eq_true hf;omega⟩
 refine⟨fun h0 => ?_,fun i hi => ?_⟩
 ·rw[h0]at hr;subst hr;cases hne
 have hset:listed.toArray.setIfInBounds i true=(listed.set i true).toArray:=by simp
 have hcl':Closed .any ops (listed.set i true).toArray:=by rw[←hset];exact O7 hcl hi
 rw[hr]at hi
 have:=h i hi a w hst hcl'
 rw[hset];exact this
theorem Jr(rs:List Nat)(h:∀ i∈rs,WO P N env ds A ops σC late (fuel - 1) listed s Q i)(hr:Region.ready .any ops listed.toArray=rs:=by as_aux_lemma=>kernel_rfl)(hne:List.isEmpty rs=false:=by rfl)(hf:Nat.ble 1 fuel=true:=by rfl):Wg P N env ds A ops σC late fuel listed s Q:=w_all rs hr hne hf h
theorem w_done(hr:Region.ready .any ops listed.toArray=[])(K:E P N env ds A .normal s Q):Wg P N env ds A ops σC late fuel listed s Q:=by
 intro a w hst hcl hC
 cases fuel with
 | zero=>exact⟨hr,.inl ⟨rfl,K a w hst⟩⟩
 | succ f=>exact⟨fun _=> .inl ⟨rfl,K a w hst⟩,by rw[hr];simp⟩
theorem CE(K:E P N env ds A .normal s Q)(hr:Region.ready .any ops listed.toArray=[]:=by as_aux_lemma=>kernel_rfl):Wg P N env ds A ops σC late fuel listed s Q:=w_done hr K
def picks:List Nat→List Ch→Option (List Ch)
 | [],_=>some []
 | i :: r,l=>match l[i]?,picks r l with
  | some c,some cs=>some (c :: cs)
  | _,_=>none
theorem DW:∀ {is:List Nat} {l cs:List Ch},picks is l=some cs→∀ c∈cs,c∈l
 | [],_,_,h,c,hc=>by simp[picks]at h;subst h;cases hc
 | i :: r,l,cs,h,c,hc=>by
  simp only[picks]at h
  split at h
  ·rename_i d ds hd hds
   simp only[Option.some.injEq]at h;subst h
   rcases List.mem_cons.1 hc with rfl | hc
   ·exact List.mem_of_getElem? hd
   exact DW hds c hc
  cases h
def effA(P:Program)(N:Nat)(ops:Array Oper)(i:Nat)(c:OC)(env:Env)(A:AW):PX:=match ops[i]? with
 | some o=>match Oa N o.dst,Oc ops env o,Ld env o,RU P false (IR env) o A c.k with
  | true,some true,true,some (vs,v,A')=>match c.asv with
   | none=>some (vs,Ig env o.dst v,A')
   | some u=>some (vs++[v=u],Ig env o.dst u,A')
  | true,some false,_,_=>some ([],Ig env o.dst undef,A)
  | _,_,_,_=>none
 | none=>none
theorem cs_of{i:Nat}{A':AW}{w':World}{cix:List Nat}(hcl:Closed .any ops (listed.set i true).toArray)(hC:Nat.beq i late=true∨picks cix A'.σ=some σC)(hi:i<listed.length)(hs:Sat A' w'):(listed.set i true).toArray.getD late false=false→Cs σC w':=by
 intro hl
 rcases hC with hC | hC
 ·have:=Nat.eq_of_beq_eq_true hC
  subst this
  simp[hi]at hl
 exact fun c hc=>hs.all c (DW hC c hc)
theorem wo_eff{i:Nat}(c:OC)(keep:List Nat)(vs:List Prop)(env':Env)(A':AW)(cix:List Nat)
   (h:(match effA P N ops i c env A with | some (vs,e,A')=>some (vs,LV keep e,A') | none=>none)=some (vs,env',A')) (hi:Nat.blt i listed.length=true) (hv:IL vs) (hC:Nat.beq i late=true∨picks cix A'.σ=some σC)
   (K:Wg P N env' ds A' ops σC late fuel (listed.set i true) s Q):WO P N env ds A ops σC late fuel listed s Q i:=by
 intro a w hst hcl
 have hlt:i<listed.length:=by simpa using hi
 split at h
 · rename_i vs' e A1 h1
   simp only[Option.some.injEq,Prod.mk.injEq]at h
   obtain⟨rfl,rfl,rfl⟩:=h
   unfold effA at h1
   unfold wpOp
   split at h1
   · rename_i o ho
     simp only[ho]
     split at h1
     · rename_i vs1 v A2 hd hw hk hx
       have hw':=FN hw hst
       rw[if_pos hw']
       left
       have done:∀ u,e=Ig env o.dst u→v=u→IL vs1→A2=A1→o.wp P a w (fun a' w'=>((listed.set i true).toArray.getD late false=false→Cs σC w')∧Na P .any ops (Quiet (QQ P s Q)) late (Cs σC) fuel (listed.set i true).toArray a' w') (Quiet (QQ P s Q)):=by
         rintro u rfl rfl hv1 rfl
         obtain⟨w',hy,hsat, -⟩:=Vb hx hv1 hst.mem
         have hcs:=cs_of (listed:=listed) hcl hC hlt hsat
         have hfin:=K _ _ ((hst.put hsat _ hd v).sub (fun t v=>KR)) hcl hcs
         unfold Oper.wp
         rw[Ir hst hk]
         rcases hy with hy | ⟨hy,rfl⟩ <;> rw[hy] <;> exact⟨hcs,hfin⟩
       split at h1
       · simp only[Option.some.injEq,Prod.mk.injEq]at h1
         obtain⟨rfl,rfl,rfl⟩:=h1
         exact done v rfl rfl hv rfl
       · simp only[Option.some.injEq,Prod.mk.injEq]at h1
         obtain⟨rfl,rfl,rfl⟩:=h1
         rw[Eo]at hv
         exact done _ rfl hv.2.1 hv.1 rfl
     · rename_i hd hw
       have hw':=FN hw hst
       simp only[Option.some.injEq,Prod.mk.injEq]at h1
       obtain⟨rfl,rfl,rfl⟩:=h1
       rw[if_neg (by rw[hw'];simp)]
       have hcs:=cs_of (listed:=listed) hcl hC hlt hst.mem
       exact⟨hcs,K _ _ ((hst.put hst.mem _ hd undef).sub (fun t v=>KR)) hcl hcs⟩
     · cases h1
   · cases h1
 · cases h
theorem BC{i:Nat}(c:OC)(keep:List Nat)(vs:List Prop)(env':Env)(A':AW)(cix:List Nat)(hv:IL vs)(hC:Nat.beq i late=true∨picks cix A'.σ=some σC)(K:Wg P N env' ds A' ops σC late fuel (listed.set i true) s Q)(h:(match effA P N ops i c env A with | some (vs,e,A')=>some (vs,LV keep e,A') | none=>none)=some (vs,env',A'):=by as_aux_lemma=>kernel_rfl)(hi:Nat.blt i listed.length=true:=by rfl):WO P N env ds A ops σC late fuel listed s Q i:=wo_eff c keep vs env' A' cix h hi hv hC K
theorem FU{i:Nat}(cs:List LC)(vs:List Prop)(f:FuncId)(args:Array Value)(d:Option Nat)(h:(match ops[i]? with | some o=>Vd P env A cs ops [o] | none=>none)=some (vs,f,args,d))(hd:Oa N d=true)(hi:Nat.blt i listed.length=true)(hv:IL vs)
   (hc:∀ w,Sat A w→Calls P f args w fun e w'=>∃ v A',e = .returned v∧Sat A' w'∧(Nat.beq i late=true∨Cs σC w')∧Wg P N (Ig env d v) ds A' ops σC late fuel (listed.set i true) s Q):WO P N env ds A ops σC late fuel listed s Q i:=by
 intro a w hst hcl
 have hlt:i<listed.length:=by simpa using hi
 split at h
 · rename_i o ho
   simp only[Vd]at h
   split at h
   · rename_i vs' f' args' A' hw hk hr
     simp only[Option.some.injEq,Prod.mk.injEq]at h
     obtain⟨rfl,rfl,rfl,rfl⟩:=h
     obtain⟨hrun, -⟩:=TK _ _ _ _ _ _ _ hr hv w hst.mem.all
     unfold wpOp
     simp only[ho]
     rw[if_pos (FN hw hst)]
     left
     unfold Oper.wp
     rw[Ir hst hk,hrun]
     refine(hc w hst.mem).mono ?_
     rintro e w' ⟨v,A1,rfl,hs1,hC1,K⟩
     have hcs:(listed.set i true).toArray.getD late false=false→Cs σC w':=by
       intro hl
       rcases hC1 with hC1 | hC1
       · have:=Nat.eq_of_beq_eq_true hC1
         subst this
         simp[hlt]at hl
       · exact hC1
     exact⟨hcs,K _ _ (hst.put hs1 _ hd v) hcl hcs⟩
   · cases h
 · cases h
theorem anyI_free{C C':World→Prop}{late':Nat}{Q:Exit→Act→World→Prop}:∀ (fuel:Nat) (listed:Array Bool) (a:Act) (w:World),listed.getD late false=true→Na P .any ops Q late' C' fuel listed a w→Na P .any ops Q late C fuel listed a w:=by
 intro fuel
 induction fuel with
 | zero=>exact fun _ _ _ _ h=>h
 | succ fuel ih =>
  intro listed a w hl h
  refine⟨h.1,fun i hi=>wpOp_mono (fun a' w' h3=>⟨fun hn => ?_,ih _ _ _ (getD_set_true hl) h3.2⟩) (h.2 i hi)⟩
  rw[getD_set_true hl]at hn;cases hn
theorem DX(late':Nat)(cix:List Nat)(σC':List Ch)(hl:listed.toArray.getD late false=true)(hC:picks cix A.σ=some σC')(h:Wg P N env ds A ops σC' late' fuel listed s Q):Wg P N env ds A ops σC late fuel listed s Q :=
 fun a w hst hcl _=>anyI_free _ _ _ _ hl (h a w hst hcl (fun _ c hc=>hst.mem.all c (DW hC c hc)))
theorem DZ{id:Nat}(late:Nat)(cix:List Nat)(σC:List Ch)(hm:P.follows .mixedOrders=true)(hC:picks cix A.σ=some σC)(h:Wg P N env ds A ops σC late ops.size (List.replicate ops.size false) s Q):G P N env ds A (.region id ops true) s Q:=by
 intro a w hst
 have hst':St N env ds A a w.drew:=⟨hst.sz,hst.df,hst.kn,hst.mem.drew⟩
 refine wp_region_any hm (any_plain (late:=late) (C:=Cs σC) _ _ _ _ ?_)
 have hr:Array.replicate ops.size false=(List.replicate ops.size false).toArray:=by simp
 rw[hr]
 refine h a w.drew hst' ⟨fun j oj hj hl => ?_,fun j hl => ?_⟩ (fun _ c hc=>hst'.mem.all c (DW hC c hc))
 all_goals
  rw[Array.getD_eq_getD_getElem?]at hl
  by_cases hlt:j<ops.size <;> simp[List.getElem?_replicate,hlt]at hl
end
end Go.Proofs.YtlccogilgegnfaaDoor.Eng
namespace Go.Proofs.YtlccogilgegnfaaDoor.Mem
open Go.RowKit
def At(w:World)(b:Nat)(o:Obj):Prop:=w.heap[b]? = some o
section
variable {w:World}{b:Nat}{o:Obj}
theorem At.eq(h:At w b o):w.heap[b]? = some o:=h
theorem At.lt(h:At w b o):b<w.heap.size:=(Array.getElem?_eq_some_iff.1 h).1
theorem At.ne(h:At w b o):b≠w.heap.size:=by have:=h.lt;omega
theorem At.cell{c:Array Value}{t:TypeId}{fr:Nat×Nat}(h:At w b (.cells c t fr)){i:Nat}{v:Value}(hc:c[i]? = some v):w.cell? ⟨b,i,none⟩=some v:=by
 simp[World.cell?,h.eq,hc]
theorem At.free{c:Array Value}{t:TypeId}(h:At w b (.cells c t (0,0)))(i:Nat):w.frozen? ⟨b,i,none⟩=false:=by
 simp[World.frozen?,h.eq]
end
def setRow(i:Nat)(v:Value):Option Obj→Option Obj
 | some (.cells c t fr)=>some (.cells (c.setIfInBounds i v) t fr)
 | x=>x
theorem heap_setCell(w:World)(b i:Nat)(v:Value)(k:Nat):(w.setCell ⟨b,i,none⟩ v).heap[k]? = if b=k then setRow i v w.heap[k]? else w.heap[k]? := by
 simp only[World.setCell,Array.getElem?_modify]
 by_cases h:b=k
 ·subst h
  simp only[if_true]
  cases hk:w.heap[b]? with
  | none=>rfl
  | some o=>cases o <;> simp[setRow]
 simp[h]
theorem heap_alloc(w:World)(o:Obj)(k:Nat):(w.alloc o).heap[k]? = if k=w.heap.size then some o else w.heap[k]? := by
 show(w.heap.push o)[k]? = _
 rw[Array.getElem?_push]
theorem size_setCell(w:World)(a:Addr)(v:Value):(w.setCell a v).heap.size=w.heap.size:=by simp[World.setCell]
theorem size_alloc(w:World)(o:Obj):(w.alloc o).heap.size=w.heap.size+1:=by simp
theorem At.alloc{w:World}{b:Nat}{o:Obj}(h:At w b o)(o':Obj):At (w.alloc o') b o:=by
 unfold At;rw[heap_alloc,if_neg h.ne];exact h
theorem At.new(w:World)(o:Obj):At (w.alloc o) w.heap.size o:=by unfold At;rw[heap_alloc,if_pos rfl]
structure Ce(S:Nat→Prop)(w w':World):Prop where
 os:w'.os=w.os
 tape:w'.tape=w.tape
 output:w'.output=w.output
 size:w.heap.size≤w'.heap.size
 block:∀ k,k<w.heap.size→¬ S k→w'.heap[k]? = w.heap[k]?
section
variable {S T:Nat→Prop}{a w w':World}
theorem Ce.refl(S:Nat→Prop)(w:World):Ce S w w:=⟨rfl,rfl,rfl,Nat.le_refl _,fun _ _ _=>rfl⟩
theorem Ce.trans(h:Ce S a w)(k:Ce T w w')(hT:∀ i,i<a.heap.size→T i→S i):Ce S a w' :=
 ⟨k.os.trans h.os,k.tape.trans h.tape,k.output.trans h.output,Nat.le_trans h.size k.size,
  fun i hi hn=>(k.block i (Nat.lt_of_lt_of_le hi h.size) (fun x=>hn (hT i hi x))).trans (h.block i hi hn)⟩
theorem Ce.mono(h:Ce S a w)(hT:∀ i,i<a.heap.size→S i→T i):Ce T a w :=
 ⟨h.os,h.tape,h.output,h.size,fun i hi hn=>h.block i hi (fun x=>hn (hT i hi x))⟩
theorem Ce.drew(h:Ce S a w):Ce S a w.drew:=⟨h.os,h.tape,h.output,h.size,h.block⟩
theorem Ce.setCell(h:Ce S a w){b i:Nat}{v:Value}(hb:S b∨a.heap.size≤b):Ce S a (w.setCell ⟨b,i,none⟩ v) :=
 ⟨h.os,h.tape,h.output,by rw[size_setCell];exact h.size,fun k hk hn=>by
  rw[heap_setCell,if_neg (fun e=>by rcases hb with x | x;exact hn (e ▸ x);omega)];exact h.block k hk hn⟩
theorem Ce.alloc(h:Ce S a w)(o:Obj):Ce S a (w.alloc o) :=
 ⟨h.os,h.tape,h.output,by rw[size_alloc];have:=h.size;omega,fun k hk hn=>by
  rw[heap_alloc,if_neg (by have:=h.size;omega)];exact h.block k hk hn⟩
theorem Ce.below(h:Ce S w w'){B:Nat}(hB:B≤w.heap.size)(hS:∀ k,k<B→¬ S k):Below B w w' :=
 ⟨h.os,h.tape,h.output,h.size,fun k hk=>h.block k (by omega) (hS k hk)⟩
theorem Ce.of_grownBy{row:Option Nat}(h:w.grownBy w' row):Ce (fun k=>some k=row) w w' :=
 ⟨h.os,h.tape,h.output,h.size,fun k hk hn=>h.block k hk hn⟩
end
def Wy(w:World)(b:Nat)(l:List (Int×Value)):Prop :=
 ∃ es c,At w b (.map es c)∧es.toList.map (fun e=>(e.key,e.val))=l.map (fun x=>(Value.int .i64 x.1,x.2))
theorem Wy.at{w:World}{b:Nat}{l:List (Int×Value)}(h:Wy w b l):∃ o,At w b o:=by obtain⟨es,c,h,_⟩:=h;exact⟨_,h⟩
theorem Wy.lt{w:World}{b:Nat}{l:List (Int×Value)}(h:Wy w b l):b<w.heap.size:=by obtain⟨o,h⟩:=h.at;exact h.lt
theorem Wy.of_heap{w w':World}{b:Nat}{l:List (Int×Value)}(h:Wy w b l)(e:w'.heap[b]? = w.heap[b]?):Wy w' b l:=by
 obtain⟨es,c,hb,he⟩:=h;exact⟨es,c,e.trans hb,he⟩
section ops
variable {P:Program}{t tk te:TypeId}{w:World}{b:Nat}{l:List (Int×Value)}
end ops
end Go.Proofs.YtlccogilgegnfaaDoor.Mem
namespace Go.Proofs.YtlccogilgegnfaaDoor.Eng
open Go Go.Proofs.YtlccogilgegnfaaDoor.Mem
set_option linter.unusedSimpArgs false
set_option linter.unusedVariables false
def nodupB:List Nat→Bool
 | []=>true
 | x :: r => !(r.contains x)&&nodupB r
theorem YU:∀ {l:List Nat},nodupB l=true→l.Nodup
 | [],_=>List.nodup_nil
 | x :: r,h=>by
  simp only[nodupB,Bool.and_eq_true,Bool.not_eq_true',List.contains_eq_mem,decide_eq_false_iff_not]at h
  exact List.nodup_cons.2 ⟨h.1,YU h.2⟩
theorem Key.TN{c d:Key}(h:Key.apart c d):Key.apart d c:=fun hr b hb hc=>h (hr.symm) b hc hb
theorem Ws{l:List Key}(h:l.Pairwise Key.apart){i j:Nat}{c d:Key}(hi:l[i]? = some c)(hj:l[j]? = some d)(hij:i≠j):Key.apart c d:=by
 obtain⟨hi',rfl⟩:=List.getElem?_eq_some_iff.1 hi
 obtain⟨hj',rfl⟩:=List.getElem?_eq_some_iff.1 hj
 rcases Nat.lt_or_gt_of_ne hij with hlt | hlt
 ·exact List.pairwise_iff_getElem.1 h i j hi' hj' hlt
 exact Key.TN (List.pairwise_iff_getElem.1 h j i hj' hi' hlt)
theorem LX:∀ {is:List Nat} {l cs:List Ch},picks is l=some cs→∀ c∈cs,∃ i∈is,l[i]? = some c
 | [],_,_,h,c,hc=>by simp[picks]at h;subst h;cases hc
 | i :: r,l,cs,h,c,hc=>by
  simp only[picks]at h
  split at h
  ·rename_i d ds hd hds
   simp only[Option.some.injEq]at h;subst h
   rcases List.mem_cons.1 hc with rfl | hc
   ·exact⟨i,by simp,hd⟩
   obtain⟨j,hj,hl⟩:=LX hds c hc
   exact⟨j,by simp[hj],hl⟩
  cases h
theorem Vh{l:List Ch}(h:(l.map Ch.key).Pairwise Key.apart):∀ {is:List Nat} {cs:List Ch},is.Nodup→picks is l=some cs→(cs.map Ch.key).Pairwise Key.apart
 | [],_,_,h=>by simp[picks]at h;subst h;simp
 | i :: r,cs,hn,hp=>by
  simp only[picks]at hp
  split at hp
  ·rename_i d ds hd hds
   simp only[Option.some.injEq]at hp;subst hp
   rw[List.nodup_cons]at hn
   simp only[List.map_cons,List.pairwise_cons]
   refine⟨?_,Vh h hn.2 hds⟩
   intro k hk
   obtain⟨c,hc,rfl⟩:=List.mem_map.1 hk
   obtain⟨j,hj,hl⟩:=LX hds c hc
   exact Ws h (i:=i) (j:=j) (by rw[List.getElem?_map,hd];rfl) (by rw[List.getElem?_map,hl];rfl) (fun e=>hn.1 (e ▸ hj))
  cases hp
theorem Sat.pick{A:AW}{w:World}(h:Sat A w)(is:List Nat){σ':List Ch}(hn:nodupB is=true)(hp:picks is A.σ=some σ'):Sat { A with σ:=σ' } w :=
 ⟨h.os,h.tape,h.output,h.size,fun c hc=>h.all c (DW hp c hc),fun c hc=>h.bnd c (DW hp c hc),fun c hc=>h.Kq c (DW hp c hc),Vh h.Jq (YU hn) hp⟩
theorem Sat.exch{A:AW}{w w':World}{M:Nat→Prop}(h:Sat A w)(is:List Nat){kept:List Ch}(hn:nodupB is=true)(hp:picks is A.σ=some kept)(hk:Ce M w w')(hM:∀ c∈kept,∀ b,c.F b→¬ M b)(new:List Ch)
   (h1:∀ c∈new,c.holds w'∧c.stable∧∀ b,c.F b→b<w'.heap.size) (h2:(new.map Ch.key).Pairwise Key.apart) (h3:∀ c∈kept,∀ d∈new,Key.apart c.key d.key):Sat { A with n:=w'.heap.size,σ:=kept++new } w':=by
 refine⟨hk.os.trans h.os,hk.tape.trans h.tape,hk.output.trans h.output,rfl, ?_, ?_, ?_, ?_⟩
 · intro c hc
   rcases List.mem_append.1 hc with hc | hc
   · have hm:=DW hp c hc
     exact h.Kq c hm w w' (fun b hb=>hk.block b (by rw[h.size];exact h.bnd c hm b hb) (hM c hc b hb)) (h.all c hm)
   · exact(h1 c hc).1
 · intro c hc b hb
   rcases List.mem_append.1 hc with hc | hc
   · have:=h.bnd c (DW hp c hc) b hb
     have h2:=hk.size
     rw[h.size]at h2
     show b<w'.heap.size
     omega
   · exact(h1 c hc).2.2 b hb
 · intro c hc
   rcases List.mem_append.1 hc with hc | hc
   · exact h.Kq c (DW hp c hc)
   · exact(h1 c hc).2.1
 · show((kept++new).map Ch.key).Pairwise Key.apart
   rw[List.map_append,List.pairwise_append]
   refine⟨Vh h.Jq (YU hn) hp,h2, ?_⟩
   intro x hx y hy
   obtain⟨c,hc,rfl⟩:=List.mem_map.1 hx
   obtain⟨d,hd,rfl⟩:=List.mem_map.1 hy
   exact h3 c hc d hd
theorem Sat.keeps{A:AW}{w w':World}(h:Sat A w)(hk:Ce (fun _=>False) w w'):Sat { A with n:=w'.heap.size } w':=by
 refine⟨hk.os.trans h.os,hk.tape.trans h.tape,hk.output.trans h.output,rfl,fun c hc => ?_,fun c hc b hb => ?_,h.Kq,h.Jq⟩
 ·exact h.Kq c hc w w' (fun b hb=>hk.block b (by rw[h.size];exact h.bnd c hc b hb) id) (h.all c hc)
 have:=h.bnd c hc b hb
 have h2:=hk.size
 rw[h.size]at h2
 show b<w'.heap.size
 omega
theorem Sat.keeps1{A:AW}{w w':World}(h:Sat A w)(hk:Ce (fun _=>False) w w')(c:Ch)(hc:c.holds w')(hst:c.stable)(hF:∀ b,c.F b→A.n≤b∧b<w'.heap.size):Sat { A with n:=w'.heap.size,σ:=A.σ++[c] } w':=by
 have h':=h.keeps hk
 refine⟨h'.os,h'.tape,h'.output,rfl, ?_, ?_, ?_, ?_⟩
 ·intro d hd
  rcases List.mem_append.1 hd with hd | hd
  ·exact h'.all d hd
  simp only[List.mem_singleton]at hd;subst hd;exact hc
 ·intro d hd b hb
  rcases List.mem_append.1 hd with hd | hd
  ·exact h'.bnd d hd b hb
  simp only[List.mem_singleton]at hd;subst hd;exact(hF b hb).2
 ·intro d hd
  rcases List.mem_append.1 hd with hd | hd
  ·exact h'.Kq d hd
  simp only[List.mem_singleton]at hd;subst hd;exact hst
 show((A.σ++[c]).map Ch.key).Pairwise Key.apart
 rw[List.map_append,List.pairwise_append]
 refine⟨h.Jq,by simp, ?_⟩
 intro x hx y hy _ b hb hb'
 simp only[List.map_cons,List.map_nil,List.mem_singleton]at hy
 subst hy
 obtain⟨d,hd,rfl⟩:=List.mem_map.1 hx
 have h1:=h.bnd d hd b hb
 have h2:=(hF b hb').1
 omega
def old(S:Nat→Prop)(w:World):Ch:= .inv (fun b=>b<w.heap.size∧¬ S b) (fun w'=>∀ b,b<w.heap.size→¬ S b→w'.heap[b]? = w.heap[b]?) false
theorem Zx(S:Nat→Prop)(w:World):(old S w).stable:=fun w1 w2 h hw b hb hS=>(h b ⟨hb,hS⟩).trans (hw b hb hS)
theorem sat_old(w:World):Sat ⟨w,w.heap.size,[old (fun _=>False) w]⟩ w:=by
 refine⟨rfl,rfl,rfl,rfl, ?_, ?_, ?_,by simp⟩
 ·intro c hc;simp only[List.mem_singleton]at hc;subst hc;exact fun _ _ _=>rfl
 ·intro c hc b hb;simp only[List.mem_singleton]at hc;subst hc;exact hb.1
 intro c hc;simp only[List.mem_singleton]at hc;subst hc;exact Zx _ _
theorem Sat.back{A:AW}{w0 w:World}{S:Nat→Prop}(h:Sat A w)(hw:A.w0=w0)(hn:w0.heap.size≤A.n)(hin:old S w0∈A.σ):Ce S w0 w:=by
 subst hw
 refine⟨h.os,h.tape,h.output,by rw[h.size];exact hn,fun b hb hS => ?_⟩
 exact h.all _ hin b hb hS
theorem Ef{A:AW}{w w':World}{S:Nat→Prop}(h:Sat A w)(hk:Ce S w w'):A.n≤w'.heap.size:=by have:=hk.size;rw[h.size]at this;exact this
theorem Ba{P:Program}{N:Nat}{env:Env}{ds:List Deferred}{A:AW}{ops:Array Oper}{l:List Oper}{s:List Kt}{Q:Exit→Act→World→Prop}(f:FuncId)(args:Array Value)(d:Option Nat)(v:Value)(hc:∀ w,Sat A w→Calls P f args w fun e w'=>e = .returned v∧Ce (fun _=>False) w w')(K:∀ n,A.n≤n→Lg P N (Ig env d v) ds { A with n:=n } ops (l.drop 1) s Q)(h:Vd P env A [] ops l=some ([],f,args,d):=by as_aux_lemma=>kernel_rfl)(hd:Oa N d=true:=by kernel_rfl):Lg P N env ds A ops l s Q :=
 l_call [] [] f args d trivial (fun w hw=>(hc w hw).mono fun e w' ⟨he,hk⟩=>⟨v,{ A with n:=w'.heap.size },he,hw.keeps hk,K _ (Ef hw hk)⟩) h hd
theorem AB{w w':World}{n:Nat}{S:Nat→Prop}{σ:List Ch}(h:Sat ⟨w,n,old S w :: σ⟩ w')(hn:w.heap.size≤n:=by omega):Ce S w w':=h.back rfl hn (List.mem_cons_self ..)
theorem old_cell{S:Nat→Prop}{w:World}{b k:Nat}{v:Value}(h:w.cell? ⟨b,k,none⟩=some v)(hS:¬ S b):∀ w',(old S w).holds w'→w'.cell? ⟨b,k,none⟩=some v:=by
 intro w' hw
 have hlt:b<w.heap.size:=by
  simp only[World.cell?]at h
  split at h
  ·rename_i hb;exact(Array.getElem?_eq_some_iff.1 hb).1
  cases h
 rw[←h]
 simp only[World.cell?]
 rw[hw b hlt hS]
theorem Aw{w:World}{b k:Nat}{v:Value}(h:w.cell? ⟨b,k,none⟩=some v):∀ w',(old (fun _=>False) w).holds w'→w'.cell? ⟨b,k,none⟩=some v:=old_cell h id
def Pq(base:Nat)(e:TypeId)(size:Nat)(v:Value)(n:Nat)(xs:List Value):Ch:= .inv (fun b=>v.ownBlock=some b) (fun w=>w.ownsRow base e size v n xs) true
theorem MI(base:Nat)(e:TypeId)(size:Nat)(v:Value)(n:Nat)(xs:List Value):(Pq base e size v n xs).stable:=by
 intro w w' h hw
 refine⟨hw.1, ?_⟩
 rcases hw.2 with hn | ⟨g,cap,cur,rfl,hb,hgg,rest⟩
 ·exact .inl hn
 exact .inr ⟨g,cap,cur,rfl,hb,(h g (by simp[Pq,Ch.F,Value.ownBlock])).trans hgg,rest⟩
theorem Sat.more{A:AW}{w:World}(h:Sat A w)(c:Ch)(hc:c.holds w)(hst:c.stable)(hF:∀ b,¬ c.F b):Sat { A with σ:=A.σ++[c] } w:=by
 refine⟨h.os,h.tape,h.output,h.size, ?_, ?_, ?_, ?_⟩
 ·intro d hd
  rcases List.mem_append.1 hd with hd | hd
  ·exact h.all d hd
  simp only[List.mem_singleton]at hd;subst hd;exact hc
 ·intro d hd b hb
  rcases List.mem_append.1 hd with hd | hd
  ·exact h.bnd d hd b hb
  simp only[List.mem_singleton]at hd;subst hd;exact absurd hb (hF b)
 ·intro d hd
  rcases List.mem_append.1 hd with hd | hd
  ·exact h.Kq d hd
  simp only[List.mem_singleton]at hd;subst hd;exact hst
 show((A.σ++[c]).map Ch.key).Pairwise Key.apart
 rw[List.map_append,List.pairwise_append]
 refine⟨h.Jq,by simp, ?_⟩
 intro x hx y hy _ b hb hb'
 simp only[List.map_cons,List.map_nil,List.mem_singleton]at hy
 subst hy
 exact hF b hb'
theorem Sat.row{A:AW}{w:World}(h:Sat A w)(base:Nat)(e:TypeId)(size:Nat):Sat { A with σ:=A.σ++[Pq base e size (.slice none 0 0) 0 []] } w :=
 h.more _ (World.ownsRow_nil w base e size) (MI _ _ _ _ _ _) (fun b hb=>by simp[Pq,Ch.F,Value.ownBlock]at hb)
section
variable {P:Program}{N:Nat}{env:Env}{ds:List Deferred}{A:AW}{ops:Array Oper}{l:List Oper}{s:List Kt}{Q:Exit→Act→World→Prop}{c:Code}
theorem l_row(base:Nat)(e:TypeId)(size:Nat)(h:Lg P N env ds { A with σ:=A.σ++[Pq base e size (.slice none 0 0) 0 []] } ops l s Q):Lg P N env ds A ops l s Q:=fun a w hs=>h a w ⟨hs.sz,hs.df,hs.kn,hs.mem.row base e size⟩
theorem g_row(base:Nat)(e:TypeId)(size:Nat)(h:G P N env ds { A with σ:=A.σ++[Pq base e size (.slice none 0 0) 0 []] } c s Q):G P N env ds A c s Q:=fun a w hs=>h a w ⟨hs.sz,hs.df,hs.kn,hs.mem.row base e size⟩
theorem Cc{x:Exit}(is:List Nat)(σ':List Ch)(hn:nodupB is=true)(hp:picks is A.σ=some σ')(h:E P N env ds { A with σ:=σ' } x s Q):E P N env ds A x s Q:=fun a w hs=>h a w ⟨hs.sz,hs.df,hs.kn,hs.mem.pick is hn hp⟩
theorem BI{x:Exit}(keep:List Nat)(env':Env)(K:E P N env' ds A x s Q)(h:LV keep env=env':=by as_aux_lemma=>kernel_rfl):E P N env ds A x s Q:=fun a w hs=>K a w (hs.sub (fun t v ht=>KR (by rw[h];exact ht)))
theorem row_slice{w:World}{base:Nat}{e:TypeId}{size n:Nat}{v:Value}{xs:List Value}(h:w.ownsRow base e size v n xs):∃ a cap,v = .slice a n cap:=by
 rcases h.2 with⟨rfl,rfl⟩ | ⟨g,cap,cur,rfl, -⟩
 ·exact⟨none,0,rfl⟩
 exact⟨_,cap,rfl⟩
theorem run_append{base:Nat}{ρ:Operand→Value}{o:Oper}{x y:Operand}{t e:TypeId}{f:TypeInfo}{z:Value}{i:Nat}{v:Value}{n:Nat}{xs:List Value}{ad:Addr}{m cp:Nat}{news:List Value}
   (ho:o.op = .call { callee:= .builtin .append,args:= #[x,y],argTypes:= #[t,t] }) (ht:P.underlying t=some (.slice e)) (hf:P.info? e=some f) (hz:f.zero=some z) (hzs:z.cells.size=f.size) (hsz:0<f.size)
   (hi:A.σ[i]? = some (Pq base e f.size v n xs)) (hx:ρ x=v) (hy:ρ y = .slice (some ad) m cp) (hl:news.length=m*f.size) (h1:∀ u∈news,u.oneCell'=true) {w:World} (hs:Sat A w) (hnews:∀ j u,news[j]? = some u→w.cell? (ad.add j)=some u)
   (h63:n+m≤maxLen) (hb:(n+m)*f.bytes≤140737488355328) (hbase:base≤A.n) :
   ∃ a' cap' w',(execOp ρ o).run P w = .ok (.value (.slice a' (n+m) cap')) w'∧A.n≤w'.heap.size∧Sat { A with n:=w'.heap.size,σ:=A.σ.set i (Pq base e f.size (.slice a' (n+m) cap') (n+m) (xs++news)) } w':=by
 have hown:w.ownsRow base e f.size v n xs:=hs.at hi
 obtain⟨v',w',hr,ho',hg, -,hat⟩:=run_append_own_at (P:=P) w base t o.type e f z f.size f.bytes ht hf hz rfl rfl hzs hsz v n xs hown ad m cp news hl hnews h1 h63 hb (by rw[hs.size];exact hbase)
 obtain⟨a',cap',rfl⟩:=row_slice ho'
 have hk:Ce (fun k=>some k=v.ownBlock) w w':=Ce.of_grownBy hg
 have hsize:A.n≤w'.heap.size:=by have:=hk.size;rw[hs.size]at this;exact this
 refine⟨a',cap',w', ?_,hsize, ?_⟩
 · unfold execOp
   simp only[ho,resolve,invoke,builtin,Sem.run_bind,Sem.run_pure,Result.andThen_ok,List.map_toArray,List.map_cons,List.map_nil,hx,hy,hr]
 · obtain⟨hlt,hix⟩:=List.getElem?_eq_some_iff.1 hi
   have hvb:∀ b,v.ownBlock=some b→b<A.n:=fun b hb=>hs.bnd _ (List.mem_of_getElem? hi) b hb
   have hnew:∀ b,(Value.slice a' (n+m) cap').ownBlock=some b→v.ownBlock=some b∨b=w.heap.size:=by
     intro b hb
     rcases hat with e1 | e1
     · exact .inl (e1 ▸ hb)
     · rw[e1]at hb;simp at hb;exact .inr hb.symm
   have hap:∀ j d,j≠i→A.σ[j]? = some d→∀ b,d.F b→v.ownBlock≠some b:=by
     intro j d hji hj b hd hb
     exact KH hs.Jq (i:=i) (j:=j) (by rw[List.getElem?_map,hi];rfl) (by rw[List.getElem?_map,hj];rfl) (Ne.symm hji) rfl b hb hd
   refine⟨hk.os.trans hs.os,hk.tape.trans hs.tape,hk.output.trans hs.output,rfl, ?_, ?_, ?_, ?_⟩
   · intro d hd
     obtain⟨j,hj⟩:=List.getElem?_of_mem hd
     by_cases hij:i=j
     · subst hij;rw[List.getElem?_set_self hlt]at hj;cases hj;exact ho'
     · rw[List.getElem?_set_ne hij]at hj
       have hm:=List.mem_of_getElem? hj
       exact hs.Kq d hm w w' (fun b hb=>hk.block b (by rw[hs.size];exact hs.bnd d hm b hb) (fun e1=>hap j d (Ne.symm hij) hj b hb e1.symm)) (hs.all d hm)
   · intro d hd b hb
     show b<w'.heap.size
     rcases List.mem_or_eq_of_mem_set hd with hd | rfl
     · have:=hs.bnd d hd b hb;omega
     · have:=ho'.lt b hb;exact this.2
   · intro d hd
     rcases List.mem_or_eq_of_mem_set hd with hd | rfl
     · exact hs.Kq d hd
     · exact MI _ _ _ _ _ _
   · show((A.σ.set i _).map Ch.key).Pairwise Key.apart
     rw[List.map_set,List.pairwise_iff_getElem]
     intro p q hp hq hpq
     simp only[List.length_set,List.length_map]at hp hq
     have key:∀ j (hj:j<A.σ.length),j≠i→Key.apart (Ch.key (Pq base e f.size (.slice a' (n+m) cap') (n+m) (xs++news))) (Ch.key A.σ[j]):=by
       intro j hj hji _ b hb hd
       have hjs:A.σ[j]? = some A.σ[j]:=by simp[hj]
       rcases hnew b hb with e1 | e1
       · exact hap j _ hji hjs b hd e1
       · have:=hs.bnd _ (List.mem_of_getElem? hjs) b hd
         rw[←hs.size]at this;omega
     simp only[List.getElem_set,List.getElem_map]
     by_cases h1:i=p
     · subst h1
       rw[if_pos rfl,if_neg (by omega)]
       exact key q hq (by omega)
     · rw[if_neg h1]
       by_cases h2:i=q
       · subst h2;rw[if_pos rfl];exact Key.TN (key p hp (by omega))
       · rw[if_neg h2]
         exact Ws hs.Jq (i:=p) (j:=q) (by simp[hp]) (by simp[hq]) (by omega)
def appOf(o:Oper):Option (Operand×Operand×TypeId×TypeId):=match o.op with
 | .call c=>match c.callee,c.args.toList,c.argTypes.toList with
  | .builtin .append,[x,y],[t,u]=>some (x,y,t,u)
  | _,_,_=>none
 | _=>none
theorem Zy{o:Oper}{x y:Operand}{t u:TypeId}(h:appOf o=some (x,y,t,u)):o.op = .call { callee:= .builtin .append,args:= #[x,y],argTypes:= #[t,u] }:=by
 unfold appOf at h
 split at h
 ·rename_i c hop
  split at h
  ·rename_i x' y' t' u' h1 h2 h3
   simp only[Option.some.injEq,Prod.mk.injEq]at h
   obtain⟨rfl,rfl,rfl,rfl⟩:=h
   obtain⟨c1,c2,c3⟩:=c
   obtain⟨c2⟩:=c2
   obtain⟨c3⟩:=c3
   simp only at h1 h2 h3
   subst h1 h2 h3
   exact hop
  cases h
 cases h
def Wv(P:Program)(N:Nat)(ops:Array Oper)(env:Env)(o:Oper):Option (TypeId×Nat×Nat×Value×Addr×Nat×Nat):=match appOf o,Oc ops env o,Ld env o,Oa N o.dst with
 | some (x,y,t,u),some true,true,true=>match Nat.beq t u,P.underlying t,IR env y with
  | true,some (.slice e),.slice (some ad) m cp=>match P.info? e with
   | some f=>match f.zero with
    | some z=>match Nat.beq z.cells.size f.size&&Nat.blt 0 f.size with
     | true=>some (e,f.size,f.bytes,IR env x,ad,m,cp)
     | false=>none
    | none=>none
   | none=>none
  | _,_,_=>none
 | _,_,_,_=>none
theorem appA_run{base:Nat}{o:Oper}{e:TypeId}{sz by':Nat}{v:Value}{ad:Addr}{m cp:Nat}(h:Wv P N ops env o=some (e,sz,by',v,ad,m,cp)){i n:Nat}{xs news:List Value}{a:Act}{w:World}(hst:St N env ds A a w)
   (hi:A.σ[i]? = some (Pq base e sz v n xs)) (hl:news.length=m*sz) (h1:news.all Value.oneCell'=true) (hnews:∀ j u,news[j]? = some u→w.cell? (ad.add j)=some u) (h63:n+m≤maxLen) (hb:(n+m)*by'≤140737488355328) (hbase:base≤A.n) :
   Region.wanted o (yielded ops a.tmps)=true∧Oa N o.dst=true∧∃ a' cap' w',(execOp a.eval o).run P w = .ok (.value (.slice a' (n+m) cap')) w'∧A.n≤w'.heap.size∧Sat { A with n:=w'.heap.size,σ:=A.σ.set i (Pq base e sz (.slice a' (n+m) cap') (n+m) (xs++news)) } w':=by
 unfold Wv at h
 split at h
 · rename_i x y t u hop0 hw hk hd
   have hop:=Zy hop0
   split at h
   · rename_i e' ad' m' cp' htu ht hy
     split at h
     · rename_i f' hf
       split at h
       · rename_i z' hz
         split at h
         · rename_i hsz
           simp only[Option.some.injEq,Prod.mk.injEq]at h
           obtain⟨rfl,rfl,rfl,rfl,rfl,rfl,rfl⟩:=h
           have htu':=Nat.eq_of_beq_eq_true htu
           subst htu'
           rw[Bool.and_eq_true]at hsz
           refine⟨FN hw hst,hd, ?_⟩
           rw[Ir hst hk]
           exact run_append (ρ:=IR env) hop ht hf hz (Nat.eq_of_beq_eq_true hsz.1) (by simpa using hsz.2) hi rfl hy hl (fun u hu=>List.all_eq_true.1 h1 u hu) hst.mem hnews h63 hb hbase
         · cases h
       · cases h
     · cases h
   · cases h
 · cases h
theorem Wj{j b:Nat}{cs:Array Value}{t:TypeId}{fr:Nat×Nat}{rw':Bool}{w:World}(hs:Sat A w)(hj:A.σ[j]? = some (.blk b (.cells cs t fr) rw')){news:List Value}(hn:cs.toList=news):∀ k u,news[k]? = some u→w.cell? ((⟨b,0,none⟩:Addr).add k)=some u:=by
 intro k u hu
 subst hn
 have hb:w.heap[b]? = some (.cells cs t fr):=hs.at hj
 have hadd:(⟨b,0,none⟩:Addr).add k=⟨b,k,none⟩:=by rw[Nb rfl];simp
 rw[hadd]
 simp only[World.cell?,hb]
 simpa using hu
theorem l_append(base i j n:Nat)(xs news:List Value)(e:TypeId)(sz by':Nat)(v:Value)(b m cp:Nat)(cs:Array Value)(t:TypeId)(fr:Nat×Nat)(rw':Bool)(d:Option Nat)
   (h:(match l with | o :: _=>(Wv P N ops env o).map (fun x=>(x,o.dst)) | []=>none)=some ((e,sz,by',v,⟨b,0,none⟩,m,cp),d)) (hi:A.σ[i]? = some (Pq base e sz v n xs)) (hj:A.σ[j]? = some (.blk b (.cells cs t fr) rw')) (hn:cs.toList=news)
   (hl:Nat.beq news.length (m*sz)=true) (h1:news.all Value.oneCell'=true) (h63:n+m≤maxLen) (hb:(n+m)*by'≤140737488355328) (hbase:base≤A.n)
   (K:∀ a' cap' n',A.n≤n'→Lg P N (Ig env d (.slice a' (n+m) cap')) ds { A with n:=n',σ:=A.σ.set i (Pq base e sz (.slice a' (n+m) cap') (n+m) (xs++news)) } ops (l.drop 1) s Q):Lg P N env ds A ops l s Q:=by
 intro a w hst
 cases l with
 | nil=>cases h
 | cons o l =>
   simp only[Option.map_eq_some_iff]at h
   obtain⟨y,hy,h⟩:=h
   simp only[Prod.mk.injEq]at h
   obtain⟨rfl,rfl⟩:=h
   obtain⟨hw,hd,a',cap',w',hr,hsz,hs'⟩:=appA_run hy hst hi (Nat.eq_of_beq_eq_true hl) h1 (Wj hst.mem hj hn) h63 hb hbase
   refine KE hw (.inl hr) ?_
   exact K a' cap' _ hsz _ _ (hst.put hs' _ hd _)
end
abbrev Qb(b:Nat):Prop:=b=b
abbrev Ak(w:World):Ch:=old (fun _=>False) w
theorem Ed{w:World}{z:Nat}(h:z=w.heap.size):Sat ⟨w,z,[Ak w]⟩ w:=by subst h;exact sat_old w
abbrev Old(w:World)(b k:Nat)(v:Value):Prop:=∀ w',Ch.holds (old (fun _=>False) w) w'→w'.cell? ⟨b,k,none⟩=some v
abbrev GN(w:World)(b k:Nat)(arr:Array Value):Prop:=RowOf (old (fun _=>False) w) b k arr
theorem Em{w:World}{b k:Nat}{l:List Value}(h:∀ i v,l[i]? = some v→w.cell? ⟨b,k+i,none⟩=some v):GN w b k l.toArray:=fun w' hw i v hv=>Aw (h i v (by simpa using hv)) w' hw
abbrev BT(p:Prop)[Decidable p]:Prop:=Value.bool (decide p) = .bool true
abbrev BF(p:Prop)[Decidable p]:Prop:=Value.bool (decide p) = .bool false
abbrev ET(x y:Int):Prop:=Value.bool (x==y) = .bool true
abbrev EF(x y:Int):Prop:=Value.bool (x==y) = .bool false
abbrev NT(x y:Int):Prop:=Value.bool (x != y) = .bool true
abbrev NF(x y:Int):Prop:=Value.bool (x != y) = .bool false
theorem bt{p:Prop}[Decidable p](h:p:=by omega):BT p:=congrArg Value.bool (decide_eq_true h)
theorem bf{p:Prop}[Decidable p](h:¬ p:=by omega):BF p:=congrArg Value.bool (decide_eq_false h)
theorem et{x y:Int}(h:x=y:=by omega):ET x y:=congrArg Value.bool (beq_iff_eq.2 h)
theorem ef{x y:Int}(h:¬ x=y:=by omega):EF x y:=congrArg Value.bool (beq_eq_false_iff_ne.2 h)
theorem nt{x y:Int}(h:¬ x=y:=by omega):NT x y:=congrArg Value.bool (bne_iff_ne.2 h)
theorem nf{x y:Int}(h:x=y:=by omega):NF x y:=congrArg Value.bool (bne_eq_false_iff_eq.2 h)
abbrev oT:OC:=⟨.auto [],some (.bool true)⟩
abbrev oF:OC:=⟨.auto [],some (.bool false)⟩
abbrev ol(i:Nat)(arr:Array Value):OC:=⟨.row i arr,none⟩
abbrev o0:OC:=⟨.auto [],none⟩
abbrev oa(cs:List LC):OC:=⟨.auto cs,none⟩
abbrev ov(v:Value):OC:=⟨.auto [],some v⟩
abbrev oi(j:Nat):OC:=⟨.idx j,none⟩
theorem wr_i64{a b:Int}(h:a=b)(lo : -9223372036854775808≤b)(hi:b≤9223372036854775807):IntKind.i64.wrap a=b:=by
 subst h;simp only[IntKind.wrap,IntKind.bits,IntKind.signed];simp;omega
abbrev Wr(x y:Int):Prop:=Value.int .i64 (IntKind.i64.wrap x)=Value.int .i64 y
theorem BP{a b:Int}(h:a=b:=by omega)(lo : -9223372036854775808≤b:=by omega)(hi:b≤9223372036854775807:=by omega):Value.int .i64 (IntKind.i64.wrap a)=Value.int .i64 b:=congrArg (Value.int .i64) (wr_i64 h lo hi)
theorem Ru{a b:Int}(h:a=b)(lo:0≤b)(hi:b≤4294967295):IntKind.u32.wrap a=b:=by
 subst h;simp only[IntKind.wrap,IntKind.bits,IntKind.signed];simp;omega
theorem Me{x c z:Int}(hz:x / c=z)(h0:0≤x)(h1:x≤9223372036854775807)(hc:0<c:=by decide):IntKind.i64.wrap (x.tdiv c)=z:=by
 rw[Int.tdiv_eq_ediv_of_nonneg h0]
 have h2:x / c≤x:=Int.ediv_le_self _ h0
 have h3:0≤x / c:=Int.ediv_nonneg h0 (Int.le_of_lt hc)
 exact wr_i64 hz (by omega) (by omega)
theorem Zah{x c z:Int}(hz:x % c=z)(h0:0≤x):x.tmod c=z:=by rw[Int.tmod_eq_emod_of_nonneg h0];exact hz
def IG:IntKind→Int→Prop
 | .i64,x => -9223372036854775808≤x∧x≤9223372036854775807
 | .i32,x => -2147483648≤x∧x≤2147483647
 | .i16,x => -32768≤x∧x≤32767
 | .i8,x => -128≤x∧x≤127
 | .u64,x=>0≤x∧x≤18446744073709551615
 | .u32,x=>0≤x∧x≤4294967295
 | .u16,x=>0≤x∧x≤65535
 | .u8,x=>0≤x∧x≤255
def gd{α:Type}[Inhabited α](xs:List α)(k:Nat):α:=xs.getD k default
theorem EW{α:Type}[Inhabited α]{xs:List α}{k:Nat}(h:k<xs.length):gd xs k=xs[k]:=by
 unfold gd;rw[List.getD_eq_getElem?_getD,List.getElem?_eq_getElem h];rfl
structure Sl(α:Type) where
 a:Option Addr
 cap:Nat
 xs:List α
 deriving Inhabited
def Sl.val{α:Type}(s:Sl α):Value:= .slice s.a s.xs.length s.cap
abbrev Any:Nat→Prop:=fun _=>True
abbrev New(n:Nat):Nat→Prop:=fun b=>n≤b
def Ext(F:Nat→Prop)(W W':World):Prop:=∀ (b k:Nat) (v:Value),F b→W.cell? ⟨b,k,none⟩=some v→W'.cell? ⟨b,k,none⟩=some v
theorem Ext.refl(F:Nat→Prop)(W:World):Ext F W W:=fun _ _ _ _ h=>h
theorem Ext.trans{F:Nat→Prop}{a b c:World}(h:Ext F a b)(k:Ext F b c):Ext F a c:=fun _ _ _ hf x=>k _ _ _ hf (h _ _ _ hf x)
theorem cell_lt{W:World}{b k:Nat}{v:Value}(hv:W.cell? ⟨b,k,none⟩=some v):b<W.heap.size:=by
 simp only[World.cell?]at hv
 split at hv
 ·rename_i hb;exact(Array.getElem?_eq_some_iff.1 hb).1
 cases hv
theorem cell_of{W W':World}{b k:Nat}{v:Value}(h:W'.heap[b]? = W.heap[b]?)(hv:W.cell? ⟨b,k,none⟩=some v):W'.cell? ⟨b,k,none⟩=some v:=by
 rw[←hv];simp only[World.cell?];rw[h]
theorem Sat.ext{A:AW}{W w:World}(h:Sat A w)(hi:A.σ[0]? = some (Ak W)):Ext Any W w:=fun b k v _ hv=>Aw hv w (h.at hi)
def mid(n:Nat)(ws:World):Ch:= .inv (fun b=>n≤b∧b<ws.heap.size) (fun w=>∀ b,n≤b→b<ws.heap.size→w.heap[b]? = ws.heap[b]?) false
theorem mid_stable(n:Nat)(ws:World):(mid n ws).stable:=fun w1 w2 h hw b h1 h2=>(h b ⟨h1,h2⟩).trans (hw b h1 h2)
theorem KI{n:Nat}{ws:World}{b k:Nat}{v:Value}(hF:n≤b)(h:ws.cell? ⟨b,k,none⟩=some v):∀ w',(mid n ws).holds w'→w'.cell? ⟨b,k,none⟩=some v:=fun w' hw=>cell_of (hw b hF (cell_lt h)) h
theorem Sat.U1{A:AW}{w w':World}(h:Sat A w)(hk:Ce (fun _=>False) w w'):Sat { A with n:=w'.heap.size,σ:=A.σ++[mid A.n w'] } w' :=
 h.keeps1 hk _ (fun _ _ _=>rfl) (mid_stable _ _) (fun b hb=>hb)
structure PW{α:Type}(cells:α→List Value)(sz:Nat)(F:Nat→Prop)(W:World)(s:Sl α):Prop where
 len:s.xs.length≤140737488351232
 le:s.xs.length≤s.cap
 cells:s.xs≠[]→∃ b off,s.a=some ⟨b,off,none⟩∧F b∧∀ i (h:i<s.xs.length),∀ k v,(cells s.xs[i])[k]? = some v→W.cell? ⟨b,off+Ee sz i+k,none⟩=some v
theorem PW.all{α:Type}[Inhabited α]{cells:α→List Value}{sz:Nat}{F:Nat→Prop}{W:World}{s:Sl α}(h:PW cells sz F W s)(hi:0<s.xs.length) :
   ∃ b off,s.a=some ⟨b,off,none⟩∧F b∧∀ i,i<s.xs.length→∀ k v,(cells (gd s.xs i))[k]? = some v→W.cell? ⟨b,off+Ee sz i+k,none⟩=some v:=by
 obtain⟨b,off,ha,hF,hc⟩:=h.cells (fun e=>by rw[e]at hi;simp at hi)
 exact⟨b,off,ha,hF,fun i hi k v hv=>hc i hi k v (by rw[←EW hi];exact hv)⟩
def Nh{α:Type}[Inhabited α](cells:α→List Value)(sz:Nat)(ok:(Nat→Prop)→World→α→Prop)(F:Nat→Prop)(W:World)(s:Sl α):Prop:=PW cells sz F W s∧∀ i,i<s.xs.length→ok F W (gd s.xs i)
theorem NY{α:Type}[Inhabited α]{cells:α→List Value}{sz:Nat}{ok:(Nat→Prop)→World→α→Prop}{F F':Nat→Prop}{W W':World}{s:Sl α}(he:Ext F W W')(hF:∀ b,F b→F' b)(h:Nh cells sz ok F W s)(hok:∀ x,ok F W x→ok F' W' x):Nh cells sz ok F' W' s:=by
 refine⟨⟨h.1.len,h.1.le,fun hne => ?_⟩,fun i hi=>hok _ (h.2 i hi)⟩
 obtain⟨b,off,ha,hb,hc⟩:=h.1.cells hne
 exact⟨b,off,ha,hF b hb,fun i hi k v hv=>he _ _ _ hb (hc i hi k v hv)⟩
theorem Zao{α:Type}{cells:α→List Value}{sz:Nat}(hsz:∀ x,(cells x).length=sz):∀ (xs:List α) (i:Nat) (h:i<xs.length) (k:Nat) (v:Value),(cells xs[i])[k]? = some v→(xs.flatMap cells)[Ee sz i+k]? = some v
 | x :: xs,0,_,k,v,hv=>by
  have hk:k<(cells x).length:=(List.getElem?_eq_some_iff.1 hv).1
  rw[Jy,Nat.zero_mul,Nat.zero_add,List.flatMap_cons,List.getElem?_append_left hk];exact hv
 | x :: xs,i+1,h,k,v,hv=>by
  have ih:=Zao hsz xs i (by simpa using h) k v (by simpa using hv)
  rw[Jy]at ih ⊢
  rw[List.flatMap_cons,List.getElem?_append_right (by rw[hsz,Nat.succ_mul];omega),hsz,show(i+1)*sz+k - sz=i*sz+k from by rw[Nat.succ_mul];omega]
  exact ih
theorem Tz{α:Type}{cells:α→List Value}{sz base:Nat}{e:TypeId}{w:World}{a:Option Addr}{cap:Nat}{xs:List α}(hsz:∀ x,(cells x).length=sz)(h:w.ownsRow base e sz (.slice a xs.length cap) xs.length (xs.flatMap cells))(hl:xs.length≤140737488351232):PW cells sz (New base) w ⟨a,cap,xs⟩:=by
 rcases h.2 with⟨h1,h2⟩ | ⟨g,cap',cur,h1,hb,hg,hnc,hcm,hcs,ht⟩
 ·refine⟨hl,by rw[h2];exact Nat.zero_le _,fun hne=>absurd (List.eq_nil_of_length_eq_zero h2) hne⟩
 cases h1
 refine⟨hl,hnc,fun hne=>⟨g,0,rfl,hb,fun i hi k v hv => ?_⟩⟩
 have hf:=Zao hsz xs i hi k v hv
 rw[←ht,List.getElem?_take]at hf
 split at hf
 ·simp only[World.cell?,hg,Nat.zero_add];simpa using hf
 cases hf
def BV{α:Type}(base:Nat)(e:TypeId)(size:Nat)(cells:α→List Value)(v:Value)(xs:List α):Ch:=Pq base e size v xs.length (xs.flatMap cells)
theorem XE{α:Type}(base:Nat)(e:TypeId)(size:Nat)(cells:α→List Value)(v:Value)(xs ys:List α):Pq base e size v (xs.length+ys.length) (xs.flatMap cells++ys.flatMap cells)=BV base e size cells v (xs++ys):=by
 simp[BV]
section
variable {P:Program}{N:Nat}{env:Env}{ds:List Deferred}{A:AW}{ops:Array Oper}{l:List Oper}{s:List Kt}{Q:Exit→Act→World→Prop}{c:Code}
theorem l_rowL{α:Type}(base:Nat)(e:TypeId)(size:Nat)(cells:α→List Value)(h:Lg P N env ds { A with σ:=A.σ++[BV base e size cells (.slice none 0 0) []] } ops l s Q):Lg P N env ds A ops l s Q:=l_row base e size h
theorem Un{α:Type}(base:Nat)(e:TypeId)(size:Nat)(cells:α→List Value)(h:G P N env ds { A with σ:=A.σ++[BV base e size cells (.slice none 0 0) []] } c s Q):G P N env ds A c s Q:=g_row base e size h
theorem PH{α:Type}(base i j:Nat)(xs ys:List α)(cells:α→List Value)(e:TypeId)(sz by':Nat)(v:Value)(b m cp:Nat)(cs:Array Value)(t:TypeId)(fr:Nat×Nat)(rw':Bool)(d:Option Nat)
   (h63:xs.length+ys.length≤1000000000000) (hbase:base≤A.n)
   (K:∀ a' cap' n',A.n≤n'→Lg P N (Ig env d (.slice a' (xs++ys).length cap')) ds { A with n:=n',σ:=A.σ.set i (BV base e sz cells (.slice a' (xs++ys).length cap') (xs++ys)) } ops (l.drop 1) s Q)
   (h:(match l with | o :: _=>(Wv P N ops env o).map (fun x=>(x,o.dst)) | []=>none)=some ((e,sz,by',v,⟨b,0,none⟩,m,cp),d):=by as_aux_lemma=>kernel_rfl) (hi:A.σ[i]? = some (BV base e sz cells v xs):=by rfl) (hj:A.σ[j]? = some (.blk b (.cells cs t fr) rw'):=by rfl) (hn:cs.toList=ys.flatMap cells:=by rfl) (hm:ys.length=m:=by rfl)
   (hl:Nat.beq (ys.flatMap cells).length (ys.length*sz)=true:=by as_aux_lemma=>kernel_rfl) (h1:(ys.flatMap cells).all Value.oneCell'=true:=by as_aux_lemma=>kernel_rfl) (hb:Nat.ble by' 140=true:=by as_aux_lemma=>kernel_rfl):Lg P N env ds A ops l s Q:=by
 have hb':=Nat.le_of_ble_eq_true hb
 subst hm
 refine l_append base i j xs.length (xs.flatMap cells) (ys.flatMap cells) e sz by' v b ys.length cp cs t fr rw' d h hi hj hn hl h1 (by unfold maxLen;omega) (Nat.le_trans (Nat.mul_le_mul h63 hb') (by decide)) hbase (fun a' cap' n' hn' => ?_)
 have:=K a' cap' n' hn'
 rw[←XE,List.length_append]at this
 exact this
theorem mul_bd{a b:Int}(h1:0≤a)(h2:a≤65536)(h3:0≤b)(h4:b≤65536):0≤a*b∧a*b≤4294967296 :=
 ⟨Int.mul_nonneg h1 h3,Int.le_trans (Int.mul_le_mul h2 h4 h3 (by decide)) (by decide)⟩
theorem Lj(env':Env)(h:env=env')(K:G P N env' ds A c s Q):G P N env ds A c s Q:=by subst h;exact K
theorem GH{x:Exit}(keep:List Nat)(env':Env)(h:LV keep env=env')(K:E P N env' ds A x s Q):E P N env ds A x s Q:=fun a w hs=>K a w (hs.sub (fun t v ht=>KR (by rw[h];exact ht)))
theorem w_one{σC:List Ch}{late fuel:Nat}{listed:List Bool}(i:Nat)(hr:Region.ready .any ops listed.toArray=[i])(hf:Nat.ble 1 fuel=true)(h:WO P N env ds A ops σC late (fuel - 1) listed s Q i):Wg P N env ds A ops σC late fuel listed s Q :=
 w_all [i] hr rfl hf (List.forall_mem_cons.2 ⟨h,fun _ h=>absurd h List.not_mem_nil⟩)
theorem Bq{σC:List Ch}{late fuel:Nat}{listed:List Bool}(i:Nat)(h:WO P N env ds A ops σC late (fuel - 1) listed s Q i)(hr:Region.ready .any ops listed.toArray=[i]:=by as_aux_lemma=>kernel_rfl)(hf:Nat.ble 1 fuel=true:=by rfl):Wg P N env ds A ops σC late fuel listed s Q:=w_one i hr hf h
theorem Uf{α:Type}{σC:List Ch}{late fuel:Nat}{listed:List Bool}{p:Nat}(base i j:Nat)(xs ys:List α)(cells:α→List Value)(e:TypeId)(sz by':Nat)(v:Value)(b m cp:Nat)(cs:Array Value)(t:TypeId)(fr:Nat×Nat)(rw':Bool)(d:Option Nat)(cix:List Nat)
   (h63:xs.length+ys.length≤1000000000000) (hbase:base≤A.n)
   (hC:Nat.beq p late=true∨(picks cix A.σ=some σC∧cix.contains i=false))
   (K:∀ a' cap' n',A.n≤n'→Wg P N (Ig env d (.slice a' (xs++ys).length cap')) ds { A with n:=n',σ:=A.σ.set i (BV base e sz cells (.slice a' (xs++ys).length cap') (xs++ys)) } ops σC late fuel (listed.set p true) s Q)
   (hp:Nat.blt p listed.length=true:=by rfl)
   (h:(match ops[p]? with | some o=>(Wv P N ops env o).map (fun x=>(x,o.dst)) | none=>none)=some ((e,sz,by',v,⟨b,0,none⟩,m,cp),d):=by as_aux_lemma=>kernel_rfl) (hi:A.σ[i]? = some (BV base e sz cells v xs):=by rfl) (hj:A.σ[j]? = some (.blk b (.cells cs t fr) rw'):=by rfl) (hn:cs.toList=ys.flatMap cells:=by rfl) (hm:ys.length=m:=by rfl)
   (hl:Nat.beq (ys.flatMap cells).length (ys.length*sz)=true:=by as_aux_lemma=>kernel_rfl) (h1:(ys.flatMap cells).all Value.oneCell'=true:=by as_aux_lemma=>kernel_rfl) (hb:Nat.ble by' 140=true:=by as_aux_lemma=>kernel_rfl):WO P N env ds A ops σC late fuel listed s Q p:=by
 intro a w hst hcl
 have hlt:p<listed.length:=by simpa using hp
 have hb':=Nat.le_of_ble_eq_true hb
 subst hm
 split at h
 · rename_i o ho
   simp only[Option.map_eq_some_iff]at h
   obtain⟨y,hy,h⟩:=h
   simp only[Prod.mk.injEq]at h
   obtain⟨rfl,rfl⟩:=h
   obtain⟨hw,hd,a',cap',w',hr,hsz,hs'⟩:=appA_run (xs:=xs.flatMap cells) (news:=ys.flatMap cells) hy hst hi (Nat.eq_of_beq_eq_true hl) h1 (Wj hst.mem hj hn) (by unfold maxLen;omega) (Nat.le_trans (Nat.mul_le_mul h63 hb') (by decide)) hbase
   rw[←List.length_append]at hr
   unfold wpOp
   simp only[ho]
   rw[if_pos hw]
   left
   unfold Oper.wp
   rw[hr]
   rw[XE,←List.length_append]at hs'
   have hcs:(listed.set p true).toArray.getD late false=false→Cs σC w':=by
     intro hl
     rcases hC with hC | ⟨hC,hci⟩
     · have:=Nat.eq_of_beq_eq_true hC
       subst this
       simp[hlt]at hl
     · intro c hc
       obtain⟨q,hq,hqs⟩:=LX hC c hc
       have hqi:i≠q:=fun e1=>by subst e1;simp[hq]at hci
       refine hs'.all c (List.mem_of_getElem? (i:=q) ?_)
       show(A.σ.set i _)[q]? = some c
       rw[List.getElem?_set_ne hqi];exact hqs
   exact⟨hcs,K a' cap' _ hsz _ _ (hst.put hs' _ hd _) hcl hcs⟩
 · cases h
theorem Xc{σC:List Ch}{late fuel:Nat}{listed:List Bool}(env':Env)(h:env=env')(K:Wg P N env' ds A ops σC late fuel listed s Q):Wg P N env ds A ops σC late fuel listed s Q:=by subst h;exact K
theorem CY{σC:List Ch}{late fuel:Nat}{listed:List Bool}(keep:List Nat)(env':Env)(K:Wg P N env' ds A ops σC late fuel listed s Q)(h:LV keep env=env':=by as_aux_lemma=>kernel_rfl):Wg P N env ds A ops σC late fuel listed s Q:=fun a w hs=>K a w (hs.sub (fun t v ht=>KR (by rw[h];exact ht)))
end
theorem C9{α:Type}[Inhabited α]{base:Nat}{e:TypeId}{sz:Nat}{cells:α→List Value}{g n cap:Nat}{xs:List α}{j k:Nat}{v:Value}(hsz:∀ x,(cells x).length=sz)(hj:j<xs.length)(hv:(cells (gd xs j))[k]? = some v) :
   ∀ w',Ch.holds (BV base e sz cells (.slice (some ⟨g,0,none⟩) n cap) xs) w'→w'.cell? ⟨g,0+Ee sz j+k,none⟩=some v:=by
 intro w' hw
 have hw':w'.ownsRow base e sz (.slice (some ⟨g,0,none⟩) n cap) xs.length (xs.flatMap cells):=hw
 rcases hw'.2 with⟨h1, -⟩ | ⟨g',cap',cur,h1,hb,hg,hnc,hcm,hcs,ht⟩
 · cases h1
 · cases h1
   have hf:=Zao hsz xs j hj k v (by rw[←EW hj];exact hv)
   rw[←ht,List.getElem?_take]at hf
   split at hf
   · simp only[World.cell?,hg,Nat.zero_add];simpa using hf
   · cases hf
theorem flat_set{α:Type}{cells:α→List Value}{sz:Nat}(hsz:∀ x,(cells x).length=sz):∀ (xs:List α) (j:Nat) (hj:j<xs.length) (k:Nat) (hk:k<sz) (v:Value) (y:α),cells y=(cells xs[j]).set k v→(xs.set j y).flatMap cells=(xs.flatMap cells).set (Ee sz j+k) v
 | x :: xs,0,_,k,hk,v,y,hy=>by
  rw[Jy,Nat.zero_mul,Nat.zero_add]
  simp only[List.set_cons_zero,List.flatMap_cons]
  rw[List.set_append_left _ _ (by rw[hsz];exact hk),hy];rfl
 | x :: xs,j+1,hj,k,hk,v,y,hy=>by
  have ih:=flat_set hsz xs j (by simpa using hj) k hk v y (by simpa using hy)
  rw[Jy]at ih ⊢
  simp only[List.set_cons_succ,List.flatMap_cons]
  rw[List.set_append_right _ _ (by rw[hsz,Nat.succ_mul];omega),hsz,show(j+1)*sz+k - sz=j*sz+k from by rw[Nat.succ_mul];omega,ih]
theorem Sat.rowset{α:Type}[Inhabited α]{A:AW}{w:World}(h:Sat A w){i base:Nat}{e:TypeId}{sz:Nat}{cells:α→List Value}{g n cap:Nat}{xs:List α}(hi:A.σ[i]? = some (BV base e sz cells (.slice (some ⟨g,0,none⟩) n cap) xs))
   (hsz:∀ x,(cells x).length=sz) {j k:Nat} (hj:j<xs.length) (hk:k<sz) {v:Value} {y:α} (hy:cells y=(cells (gd xs j)).set k v) :
   w.cell? ⟨g,0+Ee sz j+k,none⟩≠none∧w.frozen? ⟨g,0+Ee sz j+k,none⟩=false∧Sat { A with σ:=A.σ.set i (BV base e sz cells (.slice (some ⟨g,0,none⟩) n cap) (xs.set j y)) } (w.setCell ⟨g,0+Ee sz j+k,none⟩ v):=by
 have hown:w.ownsRow base e sz (.slice (some ⟨g,0,none⟩) n cap) xs.length (xs.flatMap cells):=h.at hi
 have hcell:=C9 (base:=base) (e:=e) (g:=g) (n:=n) (cap:=cap) hsz hj (k:=k) (v:=(cells (gd xs j))[k]'(by rw[hsz];exact hk)) (by simp) w (h.at hi)
 rcases hown.2 with⟨h1, -⟩ | ⟨g',cap',cur,h1,hb,hg,hnc,hcm,hcs,ht⟩
 · cases h1
 · cases h1
   refine⟨by rw[hcell];simp,by simp[World.frozen?,hg], ?_⟩
   refine h.put (w':=w.setCell ⟨g,0+Ee sz j+k,none⟩ v) hi rfl (c':=BV base e sz cells (.slice (some ⟨g,0,none⟩) xs.length cap) (xs.set j y)) rfl (MI _ _ _ _ _ _) rfl rfl rfl (by simp[World.setCell]) (fun q hq=>TE w _ v q (fun e1=>hq (by simp[BV,Pq,Ch.F,Value.ownBlock,e1]))) ?_
   show(w.setCell ⟨g,0+Ee sz j+k,none⟩ v).ownsRow base e sz (.slice (some ⟨g,0,none⟩) xs.length cap) (xs.set j y).length ((xs.set j y).flatMap cells)
   have hfs:=flat_set hsz xs j hj k hk v y (by rw[←EW hj];exact hy)
   have hlen:=hown.1
   refine⟨by rw[hfs,List.length_set,List.length_set];exact hlen,.inr ⟨g,cap,cur.setIfInBounds (0+Ee sz j+k) v,by rw[List.length_set],hb,Rn w ⟨g,0+Ee sz j+k,none⟩ v cur e _ rfl hg,by rw[List.length_set];exact hnc,hcm,by simp[hcs], ?_⟩⟩
   rw[List.length_set,hfs,←ht]
   simp only[Nat.zero_add,Array.toList_setIfInBounds]
   have hlt:Ee sz j+k<xs.length*sz:=by
     rw[Jy]
     have:=Nat.mul_le_mul_right sz hj
     rw[Nat.succ_mul]at this;omega
   rw[List.take_set]
section
variable {P:Program}{N:Nat}{env:Env}{ds:List Deferred}{A:AW}{ops:Array Oper}{l:List Oper}{s:List Kt}{Q:Exit→Act→World→Prop}{c:Code}
theorem row_where{α:Type}{base:Nat}{e:TypeId}{sz:Nat}{cells:α→List Value}{a:Option Addr}{n cap i:Nat}{xs:List α}{w:World}(hs:Sat A w)(hi:A.σ[i]? = some (BV base e sz cells (.slice a n cap) xs))(hp:0<xs.length):∃ g,a=some ⟨g,0,none⟩∧base≤g:=by
 have hown:w.ownsRow base e sz (.slice a n cap) xs.length (xs.flatMap cells):=hs.at hi
 rcases hown.2 with⟨h1,h2⟩ | ⟨g,cap',cur,h1,hb, -⟩
 ·omega
 cases h1;exact⟨g,rfl,hb⟩
theorem Nu{α:Type}{base:Nat}{e:TypeId}{sz:Nat}{cells:α→List Value}{a:Option Addr}{n cap:Nat}{xs:List α}(i:Nat)(hp:0<xs.length)(K:∀ g,a=some ⟨g,0,none⟩→base≤g→G P N env ds A c s Q)(hi:A.σ[i]? = some (BV base e sz cells (.slice a n cap) xs):=by rfl):G P N env ds A c s Q:=fun a w hs=>by
 obtain⟨g,hg,hb⟩:=row_where hs.mem hi hp
 exact K g hg hb a w hs
def stoA(P:Program)(N:Nat)(ops:Array Oper)(env:Env)(o:Oper):Option (Nat×Nat×Value):=match o.op,Oc ops env o,Ld env o,Oa N o.dst with
 | .store t a x,some true,true,true=>match IR env a,scalar (IR env x),P.info? t with
  | .pointer (some ⟨b,k,none⟩),true,some f=>match Nat.beq f.size 1 with
   | true=>some (b,k,IR env x)
   | false=>none
  | _,_,_=>none
 | _,_,_,_=>none
theorem cells_scalar{v:Value}(h:scalar v=true):v.cells = #[v]:=by cases v <;> first | rfl | cases h
theorem stoA_run{o:Oper}{b k:Nat}{v:Value}(h:stoA P N ops env o=some (b,k,v)){a:Act}{w:World}(hst:St N env ds A a w)(hc:w.cell? ⟨b,k,none⟩≠none)(hf:w.frozen? ⟨b,k,none⟩=false) :
   Region.wanted o (yielded ops a.tmps)=true∧Oa N o.dst=true∧(execOp a.eval o).run P w = .ok .skip (w.setCell ⟨b,k,none⟩ v):=by
 unfold stoA at h
 split at h
 · rename_i t x y hop hw hk hd
   split at h
   · rename_i b' k' f hx hsc hf'
     split at h
     · rename_i hsz
       simp only[Option.some.injEq,Prod.mk.injEq]at h
       obtain⟨rfl,rfl,rfl⟩:=h
       refine⟨FN hw hst,hd, ?_⟩
       rw[Ir hst hk]
       obtain⟨x0,hx0⟩:=Option.ne_none_iff_exists'.1 hc
       have hsz':=Nat.eq_of_beq_eq_true hsz
       have hstore:=run_store (P:=P) (m:= .plain) (k:=(Sem.pure ():Sem Unit)) hsc hx0 hf
       unfold execOp
       simp only[hop,hx]
       simp[Instr.storeAt,Instr.sureAddr,storeVar,cells_scalar hsc,sizeOf,typeInfo,program,Sem.run,hf',hsz',storeCells,Nb,store,hstore]
     · cases h
   · cases h
 · cases h
theorem G5{α:Type}[Inhabited α](i j k:Nat)(xs:List α)(y:α)(cells:α→List Value)(base:Nat)(e:TypeId)(sz g n cap:Nat)(v:Value)(d:Option Nat)
   (hj:j<xs.length) (hy:cells y=(cells (gd xs j)).set k v) (K:Lg P N (Ig env d undef) ds { A with σ:=A.σ.set i (BV base e sz cells (.slice (some ⟨g,0,none⟩) n cap) (xs.set j y)) } ops (l.drop 1) s Q)
   (h:(match l with | o :: _=>(stoA P N ops env o).map (fun x=>(x,o.dst)) | []=>none)=some ((g,0+Ee sz j+k,v),d):=by as_aux_lemma=>kernel_rfl) (hi:A.σ[i]? = some (BV base e sz cells (.slice (some ⟨g,0,none⟩) n cap) xs):=by rfl) (hsz:∀ x,(cells x).length=sz:=by intro _;rfl) (hk:k<sz:=by decide):Lg P N env ds A ops l s Q:=by
 intro a w hst
 cases l with
 | nil=>cases h
 | cons o l =>
   simp only[Option.map_eq_some_iff]at h
   obtain⟨q,hq,h⟩:=h
   simp only[Prod.mk.injEq]at h
   obtain⟨rfl,rfl⟩:=h
   obtain⟨h1,h2,hs'⟩:=hst.mem.rowset hi hsz hj hk hy
   obtain⟨hw,hd,hr⟩:=stoA_run hq hst h1 h2
   refine KE hw (.inr ⟨hr,rfl⟩) ?_
   exact K _ _ (hst.put hs' _ hd _)
theorem UW{α:Type}[Inhabited α]{σC:List Ch}{late fuel:Nat}{listed:List Bool}{p:Nat}(i j k:Nat)(xs:List α)(y:α)(cells:α→List Value)(base:Nat)(e:TypeId)(sz g n cap:Nat)(v:Value)(d:Option Nat)(cix:List Nat)
   (hj:j<xs.length) (hy:cells y=(cells (gd xs j)).set k v) (hC:Nat.beq p late=true∨(picks cix A.σ=some σC∧cix.contains i=false)) (K:Wg P N (Ig env d undef) ds { A with σ:=A.σ.set i (BV base e sz cells (.slice (some ⟨g,0,none⟩) n cap) (xs.set j y)) } ops σC late fuel (listed.set p true) s Q)
   (hp:Nat.blt p listed.length=true:=by rfl)
   (h:(match ops[p]? with | some o=>(stoA P N ops env o).map (fun x=>(x,o.dst)) | none=>none)=some ((g,0+Ee sz j+k,v),d):=by as_aux_lemma=>kernel_rfl) (hi:A.σ[i]? = some (BV base e sz cells (.slice (some ⟨g,0,none⟩) n cap) xs):=by rfl) (hsz:∀ x,(cells x).length=sz:=by intro _;rfl) (hk:k<sz:=by decide):WO P N env ds A ops σC late fuel listed s Q p:=by
 intro a w hst hcl
 have hlt:p<listed.length:=by simpa using hp
 split at h
 · rename_i o ho
   simp only[Option.map_eq_some_iff]at h
   obtain⟨q,hq,h⟩:=h
   simp only[Prod.mk.injEq]at h
   obtain⟨rfl,rfl⟩:=h
   obtain⟨h1,h2,hs'⟩:=hst.mem.rowset hi hsz hj hk hy
   obtain⟨hw,hd,hr⟩:=stoA_run hq hst h1 h2
   unfold wpOp
   simp only[ho]
   rw[if_pos hw]
   left
   unfold Oper.wp
   rw[hr]
   have hcs:(listed.set p true).toArray.getD late false=false→Cs σC (w.setCell ⟨g,0+Ee sz j+k,none⟩ v):=by
     intro hl
     rcases hC with hC | ⟨hC,hci⟩
     · have:=Nat.eq_of_beq_eq_true hC
       subst this
       simp[hlt]at hl
     · intro c hc
       obtain⟨q,hq,hqs⟩:=LX hC c hc
       have hqi:i≠q:=fun e1=>by subst e1;simp[hq]at hci
       refine hs'.all c (List.mem_of_getElem? (i:=q) ?_)
       show(A.σ.set i _)[q]? = some c
       rw[List.getElem?_set_ne hqi];exact hqs
   exact⟨hcs,K _ _ (hst.put hs' _ hd _) hcl hcs⟩
 · cases h
theorem Qo{σC:List Ch}{late fuel:Nat}{listed:List Bool}{X:Type}(J:X→Env×AW)(tree:(∀ x,E P N (J x).1 ds (J x).2 .normal s Q)→Wg P N env ds A ops σC late fuel listed s Q)(K:∀ x,E P N (J x).1 ds (J x).2 .normal s Q):Wg P N env ds A ops σC late fuel listed s Q:=tree K
end
theorem Sat.merge{A:AW}{w:World}(h:Sat A w)(i j:Nat)(is:List Nat)(c ci cj:Ch){kept:List Ch}(hi:A.σ[i]? = some ci)(hj:A.σ[j]? = some cj)(hri:ci.rw=true)(hrj:cj.rw=true)(hn:nodupB is=true)(hni:is.contains i=false)(hnj:is.contains j=false)(hp:picks is A.σ=some kept)
   (hF:∀ b,c.F b→ci.F b∨cj.F b) (hc:c.holds w) (hst:c.stable):Sat { A with σ:=kept++[c] } w:=by
 have hap:∀ d∈kept,∀ b,d.F b→¬ c.F b:=by
   intro d hd b hdb hcb
   obtain⟨q,hq,hqs⟩:=LX hp d hd
   rcases hF b hcb with h1 | h1
   · exact KH h.Jq (i:=i) (j:=q) (by rw[List.getElem?_map,hi];rfl) (by rw[List.getElem?_map,hqs];rfl) (fun e=>by subst e;simp[hq]at hni) hri b h1 hdb
   · exact KH h.Jq (i:=j) (j:=q) (by rw[List.getElem?_map,hj];rfl) (by rw[List.getElem?_map,hqs];rfl) (fun e=>by subst e;simp[hq]at hnj) hrj b h1 hdb
 have hbd:∀ b,c.F b→b<A.n:=fun b hb=>(hF b hb).elim (fun x=>h.bnd _ (List.mem_of_getElem? hi) b x) (fun x=>h.bnd _ (List.mem_of_getElem? hj) b x)
 have:=h.exch is hn hp (Ce.refl (fun _=>False) w) (fun _ _ _ _ x=>x) [c] (by
   intro d hd;simp only[List.mem_singleton]at hd;subst hd
   exact⟨hc,hst,fun b hb=>by rw[h.size];exact hbd b hb⟩) (by simp) (by
   intro d hd d' hd' _ b hb
   simp only[List.mem_singleton]at hd';subst hd'
   exact hap d hd b hb)
 rw[h.size]at this
 exact this
def Ja{α:Type}(base:Nat)(e:TypeId)(sz:Nat)(cells:α→List Value)(hs:List (Sl α)):Ch :=
 .inv (fun b=>∃ s∈hs,s.val.ownBlock=some b) (fun w=>(∀ s∈hs,w.ownsRow base e sz s.val s.xs.length (s.xs.flatMap cells))∧hs.Pairwise (fun s t=>∀ b,s.val.ownBlock=some b→t.val.ownBlock≠some b)) true
theorem owns_same{w w':World}{base:Nat}{e:TypeId}{sz n:Nat}{v:Value}{xs:List Value}(h:∀ b,v.ownBlock=some b→w'.heap[b]? = w.heap[b]?)(hw:w.ownsRow base e sz v n xs):w'.ownsRow base e sz v n xs:=MI base e sz v n xs w w' h hw
theorem TG{α:Type}(base:Nat)(e:TypeId)(sz:Nat)(cells:α→List Value)(hs:List (Sl α)):(Ja base e sz cells hs).stable :=
 fun w w' h hw=>⟨fun s hs'=>owns_same (fun b hb=>h b ⟨s,hs',hb⟩) (hw.1 s hs'),hw.2⟩
theorem Sat.fam{α:Type}{A:AW}{w:World}(h:Sat A w)(i j:Nat)(is:List Nat){base:Nat}{e:TypeId}{sz:Nat}{cells:α→List Value}{hs:List (Sl α)}{a:Option Addr}{cap:Nat}{xs:List α}{kept:List Ch}(hi:A.σ[i]? = some (Ja base e sz cells hs))(hj:A.σ[j]? = some (BV base e sz cells (.slice a xs.length cap) xs))(hij:i≠j)
   (hn:nodupB is=true) (hni:is.contains i=false) (hnj:is.contains j=false) (hp:picks is A.σ=some kept):Sat { A with σ:=kept++[Ja base e sz cells (hs++[⟨a,cap,xs⟩])] } w:=by
 have h1:(∀ s∈hs,w.ownsRow base e sz s.val s.xs.length (s.xs.flatMap cells))∧hs.Pairwise (fun s t=>∀ b,s.val.ownBlock=some b→t.val.ownBlock≠some b):=h.at hi
 have h2:w.ownsRow base e sz (.slice a xs.length cap) xs.length (xs.flatMap cells):=h.at hj
 refine h.merge i j is _ _ _ hi hj rfl rfl hn hni hnj hp ?_ ⟨?_, ?_⟩ (TG _ _ _ _ _)
 · rintro b ⟨s,hs',hb⟩
   rcases List.mem_append.1 hs' with hm | hm
   · exact .inl ⟨s,hm,hb⟩
   · simp only[List.mem_singleton]at hm;subst hm;exact .inr hb
 · intro s hs'
   rcases List.mem_append.1 hs' with hm | hm
   · exact h1.1 s hm
   · simp only[List.mem_singleton]at hm;subst hm;exact h2
 · rw[List.pairwise_append]
   refine⟨h1.2,by simp, ?_⟩
   intro s hm t ht b hb hb'
   simp only[List.mem_singleton]at ht;subst ht
   exact KH h.Jq (i:=i) (j:=j) (by rw[List.getElem?_map,hi];rfl) (by rw[List.getElem?_map,hj];rfl) hij rfl b (show(Ja base e sz cells hs).F b from⟨s,hm,hb⟩) hb'
theorem Sat.fam0{α:Type}{A:AW}{w:World}(h:Sat A w)(base:Nat)(e:TypeId)(sz:Nat)(cells:α→List Value):Sat { A with σ:=A.σ++[Ja base e sz cells []] } w :=
 h.more (Ja base e sz cells []) (show(∀ s∈([]:List (Sl α)),w.ownsRow base e sz s.val s.xs.length (s.xs.flatMap cells))∧([]:List (Sl α)).Pairwise (fun s t=>∀ b,s.val.ownBlock=some b→t.val.ownBlock≠some b)from⟨fun s hm=>absurd hm List.not_mem_nil,List.Pairwise.nil⟩) (TG _ _ _ _ _) (fun b hb=>by obtain⟨s,hm, -⟩:=hb;cases hm)
section
variable {P:Program}{N:Nat}{env:Env}{ds:List Deferred}{A:AW}{ops:Array Oper}{l:List Oper}{s:List Kt}{Q:Exit→Act→World→Prop}{c:Code}
theorem g_fam0{α:Type}(base:Nat)(e:TypeId)(sz:Nat)(cells:α→List Value)(h:G P N env ds { A with σ:=A.σ++[Ja base e sz cells []] } c s Q):G P N env ds A c s Q:=fun a w hs=>h a w ⟨hs.sz,hs.df,hs.kn,hs.mem.fam0 base e sz cells⟩
theorem e_fam{α:Type}{x:Exit}(i j:Nat)(is:List Nat){base:Nat}{e:TypeId}{sz:Nat}{cells:α→List Value}{hs:List (Sl α)}{a:Option Addr}{cap:Nat}{xs:List α}(kept:List Ch)
 (K:E P N env ds { A with σ:=kept++[Ja base e sz cells (hs++[⟨a,cap,xs⟩])] } x s Q) (hi:A.σ[i]? = some (Ja base e sz cells hs):=by rfl) (hj:A.σ[j]? = some (BV base e sz cells (.slice a xs.length cap) xs):=by rfl) (hij:i≠j:=by decide)
 (hn:nodupB is=true:=by rfl) (hni:is.contains i=false:=by rfl) (hnj:is.contains j=false:=by rfl) (hp:picks is A.σ=some kept:=by rfl):E P N env ds A x s Q:=fun a' w hst=>K a' w ⟨hst.sz,hst.df,hst.kn,hst.mem.fam i j is hi hj hij hn hni hnj hp⟩
end
open Go Go.ChangeShapes Go.WideShapes Go.Deep
theorem weightsAll_mem{H:Type}{P:Program}{e:TypeId}:∀ {l:List (DataW H)} {d:DataW H},d∈l→∀ n∈d.weights P e,n∈DataW.weightsAll P e l
 | a :: l,d,h,n,hn=>by
  simp only[DataW.weightsAll,List.mem_append]
  rcases List.mem_cons.1 h with rfl | h
  ·exact .inl hn
  exact .inr (weightsAll_mem h n hn)
def Rd(P:Program){α:Type}(t:TypeId)(cells:α→List Value)(ok:(Nat→Prop)→World→α→Prop):Prop :=
 ∀ (H:Type) (enc:TypeId×Value→H) (W:World) (fuel:Nat) (cs:List Value) (x:DataW H×List MemPlace),DataW.trod enc P W 0 (fun _=>true) true fuel t cs=some x→(∀ n∈x.1.weights P t,n≤reachBytes)→∃ a:α,cs=cells a∧ok Any W a
section
variable {P:Program}{t:TypeId}
theorem I7{k:IntKind}(ht:P.underlying t=some (.int k)):Rd P t (fun x:Int=>[Value.int k x]) (fun _ _ x=>IG k x):=by
 intro H enc W fuel cs x h _
 obtain⟨n,rfl,rfl,hw⟩:=DataW.trod_int ht h
 refine⟨n,rfl, ?_⟩
 simp only[Lit.wf,Bool.and_eq_true,decide_eq_true_eq]at hw
 cases k <;> simp only[IG] <;> simp[IntKind.min,IntKind.max,IntKind.bits,IntKind.signed]at hw <;> first | omega | exact⟨by omega,by omega⟩ | trivial
theorem Zaq(ht:P.underlying t=some .bool):Rd P t (fun x:Bool=>[Value.bool x]) (fun _ _ _=>True):=by
 intro H enc W fuel cs x h _
 obtain⟨b,rfl,rfl⟩:=DataW.trod_bool ht h
 exact⟨b,rfl,trivial⟩
theorem rd_string(ht:P.underlying t=some .string):Rd P t (fun x:ByteArray=>[Value.string x]) (fun _ _ x=>x.size≤140737488351232):=by
 intro H enc W fuel cs x h hw
 obtain⟨s,rfl,rfl, -⟩:=DataW.trod_string ht h
 refine⟨s,rfl, ?_⟩
 have:=hw s.data.toList.length (by simp[DataW.weights])
 simpa[reachBytes]using this
theorem rd_slice{α:Type}[Inhabited α]{cells:α→List Value}{ok:(Nat→Prop)→World→α→Prop}{e:TypeId}{sz:Nat}(ht:P.underlying t=some (.slice e))(hc:P.cellsOf e=sz)(hsz:∀ x,(cells x).length=sz)(hs0:0<sz)(hpos:Nat.blt 0 (P.bytesOf e)=true)(h:Rd P e cells ok) :
   Rd P t (fun s:Sl α=>[s.val]) (fun F W s=>Nh cells sz ok F W s):=by
 intro H enc W fuel cs x hx hw
 rcases open_slice ht hx with⟨rfl,rfl⟩ | ⟨a,len,cap,m,n,D,Pl,rfl,hb,hl,hm,hmm,rfl,hi⟩
 · exact⟨⟨none,0,[]⟩,rfl,⟨Nat.zero_le _,Nat.le_refl _,fun h=>absurd rfl h⟩,fun i hi=>absurd hi (Nat.not_lt_zero i)⟩
 · simp only[if_true]at hmm
   subst hmm
   rw[hc]at hi
   have hww:∀ q∈DataW.weightsAll P e ((List.range len).map D),q≤reachBytes:=fun q hq=>hw q (by simp only[DataW.weights,ht,List.mem_cons,List.mem_append];exact .inr (.inl hq))
   have hY:∀ i,i<len→∃ y:α,(W.cells? 0 (a.add (i*sz)) sz=some (cells y))∧ok Any W y:=by
     intro i hi'
     obtain⟨cs',h1,h2⟩:=hi i (by omega)
     obtain⟨y,rfl,hy⟩:=h H enc W n cs' _ h2 (fun q hq=>hww q (weightsAll_mem (d:=D i) (List.mem_map_of_mem (List.mem_range.2 hi')) q hq))
     exact⟨y,h1,hy⟩
   obtain⟨Y,hY⟩:=choose_lt hY
   have hbig:(len+(m - len))*P.bytesOf e≤reachBytes:=hw _ (by simp[DataW.weights,ht])
   have hlen:len+(m - len)≤140737488351232:=Nat.le_trans (Nat.le_mul_of_pos_right _ (by simpa using hpos)) hbig
   have hg:∀ i,i<len→gd ((List.range len).map Y) i=Y i:=fun i hi'=>by rw[EW (by simpa using hi')];simp
   refine⟨⟨some a,m,(List.range len).map Y⟩,by simp[Sl.val],⟨by simp;omega,by simpa using hl,fun hne => ?_⟩,fun i hi' => ?_⟩
   · have h0:0<len:=by
       rcases Nat.eq_zero_or_pos len with h | h
       · subst h;exact absurd rfl hne
       · exact h
     have hsp:a.spot=none:=by
       obtain⟨-, -,h3⟩:=World.cells?_some (hY 0 h0).1
       have h4:=h3 0 hs0
       rw[List.getElem?_eq_getElem (by rw[hsz];exact hs0)]at h4
       have:=World.cell?_spot h4
       simpa[Addr.add]using this
     obtain⟨b,off,sp⟩:=a
     simp only at hsp;subst hsp
     refine⟨b,off,rfl,trivial,fun i hi' k v hv => ?_⟩
     have hi2:i<len:=by simpa using hi'
     obtain⟨-, -,h3⟩:=World.cells?_some (hY i hi2).1
     have hv':(cells (Y i))[k]? = some v:=by simpa using hv
     have hk:k<sz:=by rw[←hsz (Y i)];exact(List.getElem?_eq_some_iff.1 hv').1
     have:=h3 k hk
     rw[hv']at this
     rw[Jy]
     have e1:(⟨b,off,none⟩:Addr).add (i*sz)=⟨b,off+i*sz,none⟩:=Nb rfl _
     have e2:(⟨b,off+i*sz,none⟩:Addr).add k=⟨b,off+i*sz+k,none⟩:=Nb rfl _
     rw[e1,e2]at this
     exact this
   · have hi2:i<len:=by simpa using hi'
     rw[hg i hi2];exact(hY i hi2).2
theorem EN{H:Type}{enc:TypeId×Value→H}{W:World}{α:Type}{cells:α→List Value}{ok:(Nat→Prop)→World→α→Prop}{fs:Array Field}{xs:List (DataW H×List MemPlace)}{n:Nat}{cs:List Value}(ht:P.underlying t=some (.struct fs))(hlen:xs.length=fs.size)
   (hf:∀ (i:Nat) (f:Field),fs[i]? = some f→DataW.trod enc P W 0 (fun _=>true) true n f.type ((cs.drop f.offset).take (P.cellsOf f.type))=xs[i]?) (hw:∀ n∈(DataW.agg (xs.map (·.1))).weights P t,n≤reachBytes)
   (i o c:Nat) (f:Field) (hi:fs[i]? = some f) (ho:f.offset=o) (hc:P.cellsOf f.type=c) (hr:Rd P f.type cells ok):∃ y:α,(cs.drop o).take c=cells y∧ok Any W y:=by
 subst ho;subst hc
 have hlt:i<xs.length:=by rw[hlen];exact(Array.getElem?_eq_some_iff.1 hi).1
 have h1:=hf i f hi
 rw[List.getElem?_eq_getElem hlt]at h1
 refine hr H enc W n _ _ h1 (fun q hq=>hw q ?_)
 simp only[DataW.weights,ht]
 exact DataW.weights_mem_each (j:=i) (t:=f.type) (d:=(xs[i]).1) (by rw[List.getElem?_map];simp only[Array.getElem?_toList,hi];rfl) (by simp[hlt]) q hq
theorem cs1{cs:List Value}(h:cs.length=1):∃ a,cs=[a]:=match cs,h with | [a],_=>⟨a,rfl⟩
theorem rd_arg{H:Type}{enc:TypeId×Value→H}{W:World}{base j:Nat}{α:Type}{cells:α→List Value}{ok:(Nat→Prop)→World→α→Prop}{fs:Array Field}{v:Value}{d:DataW H}{p:List MemPlace}{ts:List TypeId}{ds:List (DataW H)}
   (hr:Rd P t cells ok) (ht:P.underlying t=some (.struct fs)) (hv:Value.okWide P W .any base t v) (h:DataW.Trod enc P W 0 (fun _=>true) true t v d p) (hsz:(DataW.weightsEach P ts ds).all (· ≤ reachBytes)=true) (hj:ts[j]? = some t) (hd:ds[j]? = some d):∃ a:α,v = .agg (cells a).toArray∧ok Any W a:=by
 obtain⟨arr,rfl, -⟩:=okWide_struct ht hv
 obtain⟨fuel,h⟩:=h
 obtain⟨a,ha,hok⟩:=hr H enc W fuel _ _ h (fun n hn=>by have:=List.all_eq_true.1 hsz _ (DataW.weights_mem_each hj hd n hn);simpa using this)
 refine⟨a, ?_,hok⟩
 have ha':arr.toList=cells a:=ha
 rw[←ha']
theorem rd_arg1{H:Type}{enc:TypeId×Value→H}{W:World}{j:Nat}{α:Type}{V:α→Value}{ok:(Nat→Prop)→World→α→Prop}{v:Value}{d:DataW H}{p:List MemPlace}{ts:List TypeId}{ds:List (DataW H)}
   (hr:Rd P t (fun x=>[V x]) ok) (hna:v.cells = #[v]) (h:DataW.Trod enc P W 0 (fun _=>true) true t v d p) (hsz:(DataW.weightsEach P ts ds).all (· ≤ reachBytes)=true) (hj:ts[j]? = some t) (hd:ds[j]? = some d):∃ a:α,v=V a∧ok Any W a:=by
 obtain⟨fuel,h⟩:=h
 rw[hna]at h
 obtain⟨a,ha,hok⟩:=hr H enc W fuel _ _ h (fun n hn=>by have:=List.all_eq_true.1 hsz _ (DataW.weights_mem_each hj hd n hn);simpa using this)
 simp only[List.cons.injEq,and_true]at ha
 exact⟨a,ha,hok⟩
end
abbrev D7 : Type := Nat × Value
theorem Ae : True := trivial
abbrev Ac (n : Nat) : Value := .int .i64 (n : Int)
abbrev EM {α : Type} (k b o : Nat) (s : Sl α) : OC := ⟨.auto [.at k], some (.slice (some ⟨b, o, none⟩) s.xs.length s.cap)⟩
abbrev Ej {α : Type} (b o : Nat) (s : Sl α) : Prop := Value.slice s.a s.xs.length s.cap = Value.slice (some ⟨b, o, none⟩) s.xs.length s.cap
theorem Eg {a b : Option Addr} (h : a = b) {n c : Nat} : Value.slice a n c = Value.slice b n c := congrArg (fun a => Value.slice a n c) h
abbrev BM : Prop := (none : Option Nat) = none
abbrev Dc (k : Nat) : Prop := (k : Int) = (k : Int)
abbrev Dw (a b : Nat) : List Bool := List.replicate a true ++ List.replicate b false
end Go.Proofs.YtlccogilgegnfaaDoor.Eng
namespace Go.Proofs.YtlccogilgegnfaaDoor.Ly
open Go Go.Proofs.YtlccogilgegnfaaDoor.Eng Go.Proofs.YtlccogilgegnfaaDoor.Mem
set_option linter.unusedSimpArgs false
set_option linter.unusedVariables false
set_option maxRecDepth 100000
structure Fq where
 Partition:Int
 BN:Int
 AX:Int
 deriving Inhabited,DecidableEq
def Fq.cells(x:Fq):List Value:=[.int .i64 x.Partition,.int .i64 x.BN,.int .i64 x.AX]
abbrev Fq.arr(x:Fq):Array Value:= #[.int .i64 x.Partition,.int .i64 x.BN,.int .i64 x.AX]
structure Fq.ok(F:Nat→Prop)(W:World)(x:Fq):Prop where
 Partition:IG .i64 x.Partition
 BN:IG .i64 x.BN
 AX:IG .i64 x.AX
theorem Fq.ok.ext{F F':Nat→Prop}{W W':World}(he:Ext F W W')(hF:∀ b,F b→F' b){x:Fq}(h:Fq.ok F W x):Fq.ok F' W' x:=⟨h.Partition,h.BN,h.AX⟩
structure CS where
 Bl:Int
 AO:Int
 Frame:Int
 Io:Int
 deriving Inhabited,DecidableEq
def CS.cells(x:CS):List Value:=[.int .i64 x.Bl,.int .i64 x.AO,.int .i64 x.Frame,.int .i64 x.Io]
abbrev CS.arr(x:CS):Array Value:= #[.int .i64 x.Bl,.int .i64 x.AO,.int .i64 x.Frame,.int .i64 x.Io]
structure CS.ok(F:Nat→Prop)(W:World)(x:CS):Prop where
 Bl:IG .i64 x.Bl
 AO:IG .i64 x.AO
 Frame:IG .i64 x.Frame
 Io:IG .i64 x.Io
theorem CS.ok.ext{F F':Nat→Prop}{W W':World}(he:Ext F W W')(hF:∀ b,F b→F' b){x:CS}(h:CS.ok F W x):CS.ok F' W' x:=⟨h.Bl,h.AO,h.Frame,h.Io⟩
structure EE where
 Channel:Int
 Source:Bool
 deriving Inhabited,DecidableEq
def EE.cells(x:EE):List Value:=[.int .i64 x.Channel,.bool x.Source]
abbrev EE.arr(x:EE):Array Value:= #[.int .i64 x.Channel,.bool x.Source]
structure EE.ok(F:Nat→Prop)(W:World)(x:EE):Prop where
 Channel:IG .i64 x.Channel
 Source:True
theorem EE.ok.ext{F F':Nat→Prop}{W W':World}(he:Ext F W W')(hF:∀ b,F b→F' b){x:EE}(h:EE.ok F W x):EE.ok F' W' x:=⟨h.Channel,Ae⟩
structure Aq where
 Name:ByteArray
 Entry:Int
 Dx:Int
 A7:Int
 F7:Int
 AV:Int
 Ah:Sl CS
 Ap:Sl EE
 deriving Inhabited
def Aq.cells(x:Aq):List Value:=[.string x.Name,.int .i64 x.Entry,.int .i64 x.Dx,.int .i64 x.A7,.int .i64 x.F7,.int .i64 x.AV,x.Ah.val,x.Ap.val]
abbrev Aq.arr(x:Aq):Array Value:= #[.string x.Name,.int .i64 x.Entry,.int .i64 x.Dx,.int .i64 x.A7,.int .i64 x.F7,.int .i64 x.AV,.slice x.Ah.a x.Ah.xs.length x.Ah.cap,.slice x.Ap.a x.Ap.xs.length x.Ap.cap]
structure Aq.ok(F:Nat→Prop)(W:World)(x:Aq):Prop where
 Name:x.Name.size≤140737488351232
 Entry:IG .i64 x.Entry
 Dx:IG .i64 x.Dx
 A7:IG .i64 x.A7
 F7:IG .i64 x.F7
 AV:IG .i64 x.AV
 Ah:Nh CS.cells 4 CS.ok F W x.Ah
 Ap:Nh EE.cells 2 EE.ok F W x.Ap
theorem Aq.ok.ext{F F':Nat→Prop}{W W':World}(he:Ext F W W')(hF:∀ b,F b→F' b){x:Aq}(h:Aq.ok F W x):Aq.ok F' W' x:=⟨h.Name,h.Entry,h.Dx,h.A7,h.F7,h.AV,NY he hF (h.Ah) (fun _ h=>CS.ok.ext he hF h),NY he hF (h.Ap) (fun _ h=>EE.ok.ext he hF h)⟩
structure Be where
 Kind:Int
 Words:Int
 Dy:Int
 deriving Inhabited,DecidableEq
def Be.cells(x:Be):List Value:=[.int .i64 x.Kind,.int .i64 x.Words,.int .i64 x.Dy]
abbrev Be.arr(x:Be):Array Value:= #[.int .i64 x.Kind,.int .i64 x.Words,.int .i64 x.Dy]
structure Be.ok(F:Nat→Prop)(W:World)(x:Be):Prop where
 Kind:IG .i64 x.Kind
 Words:IG .i64 x.Words
 Dy:IG .i64 x.Dy
theorem Be.ok.ext{F F':Nat→Prop}{W W':World}(he:Ext F W W')(hF:∀ b,F b→F' b){x:Be}(h:Be.ok F W x):Be.ok F' W' x:=⟨h.Kind,h.Words,h.Dy⟩
structure Ai where
 Frames:Int
 Gg:Int
 Kernel:Int
 Room:Int
 Bc:Sl (Sl Fq)
 Aa:Sl Aq
 Aj:Sl Be
 deriving Inhabited
def Ai.cells(x:Ai):List Value:=[.int .i64 x.Frames,.int .i64 x.Gg,.int .i64 x.Kernel,.int .i64 x.Room,x.Bc.val,x.Aa.val,x.Aj.val]
abbrev Ai.arr(x:Ai):Array Value:= #[.int .i64 x.Frames,.int .i64 x.Gg,.int .i64 x.Kernel,.int .i64 x.Room,.slice x.Bc.a x.Bc.xs.length x.Bc.cap,.slice x.Aa.a x.Aa.xs.length x.Aa.cap,.slice x.Aj.a x.Aj.xs.length x.Aj.cap]
structure Ai.ok(F:Nat→Prop)(W:World)(x:Ai):Prop where
 Frames:IG .i64 x.Frames
 Gg:IG .i64 x.Gg
 Kernel:IG .i64 x.Kernel
 Room:IG .i64 x.Room
 Bc:Nh (fun x:Sl Fq=>[Sl.val x]) 1 (fun F W x=>Nh Fq.cells 3 Fq.ok F W x) F W x.Bc
 Aa:Nh Aq.cells 8 Aq.ok F W x.Aa
 Aj:Nh Be.cells 3 Be.ok F W x.Aj
theorem Ai.ok.ext{F F':Nat→Prop}{W W':World}(he:Ext F W W')(hF:∀ b,F b→F' b){x:Ai}(h:Ai.ok F W x):Ai.ok F' W' x:=⟨h.Frames,h.Gg,h.Kernel,h.Room,NY he hF (h.Bc) (fun _ h=>NY he hF h (fun _ h=>Fq.ok.ext he hF h)),NY he hF (h.Aa) (fun _ h=>Aq.ok.ext he hF h),NY he hF (h.Aj) (fun _ h=>Be.ok.ext he hF h)⟩
structure Gs where
 partition:Int
 port:Int
 deriving Inhabited,DecidableEq
def Gs.cells(x:Gs):List Value:=[.int .i64 x.partition,.int .i64 x.port]
abbrev Gs.arr(x:Gs):Array Value:= #[.int .i64 x.partition,.int .i64 x.port]
structure Gs.ok(F:Nat→Prop)(W:World)(x:Gs):Prop where
 partition:IG .i64 x.partition
 port:IG .i64 x.port
theorem Gs.ok.ext{F F':Nat→Prop}{W W':World}(he:Ext F W W')(hF:∀ b,F b→F' b){x:Gs}(h:Gs.ok F W x):Gs.ok F' W' x:=⟨h.partition,h.port⟩
structure Ar where
 Lock:Int
 Ju:Int
 State:Int
 Root:Int
 Tables:Sl Int
 deriving Inhabited
def Ar.cells(x:Ar):List Value:=[.int .i64 x.Lock,.int .i64 x.Ju,.int .i64 x.State,.int .i64 x.Root,x.Tables.val]
abbrev Ar.arr(x:Ar):Array Value:= #[.int .i64 x.Lock,.int .i64 x.Ju,.int .i64 x.State,.int .i64 x.Root,.slice x.Tables.a x.Tables.xs.length x.Tables.cap]
structure Ar.ok(F:Nat→Prop)(W:World)(x:Ar):Prop where
 Lock:IG .i64 x.Lock
 Ju:IG .i64 x.Ju
 State:IG .i64 x.State
 Root:IG .i64 x.Root
 Tables:Nh (fun x:Int=>[Value.int .i64 x]) 1 (fun _ _ x=>IG .i64 x) F W x.Tables
theorem Ar.ok.ext{F F':Nat→Prop}{W W':World}(he:Ext F W W')(hF:∀ b,F b→F' b){x:Ar}(h:Ar.ok F W x):Ar.ok F' W' x:=⟨h.Lock,h.Ju,h.State,h.Root,NY he hF (h.Tables) (fun _ h=>h)⟩
structure BH where
 Partition:Int
 Port:Int
 At:Int
 deriving Inhabited,DecidableEq
def BH.cells(x:BH):List Value:=[.int .i64 x.Partition,.int .i64 x.Port,.int .i64 x.At]
abbrev BH.arr(x:BH):Array Value:= #[.int .i64 x.Partition,.int .i64 x.Port,.int .i64 x.At]
structure BH.ok(F:Nat→Prop)(W:World)(x:BH):Prop where
 Partition:IG .i64 x.Partition
 Port:IG .i64 x.Port
 At:IG .i64 x.At
theorem BH.ok.ext{F F':Nat→Prop}{W W':World}(he:Ext F W W')(hF:∀ b,F b→F' b){x:BH}(h:BH.ok F W x):BH.ok F' W' x:=⟨h.Partition,h.Port,h.At⟩
structure AA where
 Lock:Int
 Pv:Int
 Partition:Int
 Port:Int
 DK:Sl BH
 deriving Inhabited
def AA.cells(x:AA):List Value:=[.int .i64 x.Lock,.int .i64 x.Pv,.int .i64 x.Partition,.int .i64 x.Port,x.DK.val]
abbrev AA.arr(x:AA):Array Value:= #[.int .i64 x.Lock,.int .i64 x.Pv,.int .i64 x.Partition,.int .i64 x.Port,.slice x.DK.a x.DK.xs.length x.DK.cap]
structure AA.ok(F:Nat→Prop)(W:World)(x:AA):Prop where
 Lock:IG .i64 x.Lock
 Pv:IG .i64 x.Pv
 Partition:IG .i64 x.Partition
 Port:IG .i64 x.Port
 DK:Nh BH.cells 3 BH.ok F W x.DK
theorem AA.ok.ext{F F':Nat→Prop}{W W':World}(he:Ext F W W')(hF:∀ b,F b→F' b){x:AA}(h:AA.ok F W x):AA.ok F' W' x:=⟨h.Lock,h.Pv,h.Partition,h.Port,NY he hF (h.DK) (fun _ h=>BH.ok.ext he hF h)⟩
structure Ha where
 SB:Int
 Aa:Sl Ar
 Aj:Sl AA
 End:Int
 deriving Inhabited
def Ha.cells(x:Ha):List Value:=[.int .i64 x.SB,x.Aa.val,x.Aj.val,.int .i64 x.End]
abbrev Ha.arr(x:Ha):Array Value:= #[.int .i64 x.SB,.slice x.Aa.a x.Aa.xs.length x.Aa.cap,.slice x.Aj.a x.Aj.xs.length x.Aj.cap,.int .i64 x.End]
structure Ha.ok(F:Nat→Prop)(W:World)(x:Ha):Prop where
 SB:IG .i64 x.SB
 Aa:Nh Ar.cells 5 Ar.ok F W x.Aa
 Aj:Nh AA.cells 5 AA.ok F W x.Aj
 End:IG .i64 x.End
theorem Ha.ok.ext{F F':Nat→Prop}{W W':World}(he:Ext F W W')(hF:∀ b,F b→F' b){x:Ha}(h:Ha.ok F W x):Ha.ok F' W' x:=⟨h.SB,NY he hF (h.Aa) (fun _ h=>Ar.ok.ext he hF h),NY he hF (h.Aj) (fun _ h=>AA.ok.ext he hF h),h.End⟩
structure CZ where
 Kind:Int
 Index:Int
 Port:Int
 deriving Inhabited,DecidableEq
def CZ.cells(x:CZ):List Value:=[.int .i64 x.Kind,.int .i64 x.Index,.int .i64 x.Port]
abbrev CZ.arr(x:CZ):Array Value:= #[.int .i64 x.Kind,.int .i64 x.Index,.int .i64 x.Port]
structure CZ.ok(F:Nat→Prop)(W:World)(x:CZ):Prop where
 Kind:IG .i64 x.Kind
 Index:IG .i64 x.Index
 Port:IG .i64 x.Port
theorem CZ.ok.ext{F F':Nat→Prop}{W W':World}(he:Ext F W W')(hF:∀ b,F b→F' b){x:CZ}(h:CZ.ok F W x):CZ.ok F' W' x:=⟨h.Kind,h.Index,h.Port⟩
end Go.Proofs.YtlccogilgegnfaaDoor.Ly
namespace Go.Proofs.YtlccogilgegnfaaDoor.Ad
open Go Go.Proofs.YtlccogilgegnfaaDoor.Eng Go.Proofs.YtlccogilgegnfaaDoor.Mem Go.Proofs.YtlccogilgegnfaaDoor.Ly
set_option linter.unusedSimpArgs false
set_option linter.unusedVariables false
set_option maxRecDepth 100000
structure L8 where
 First:Int
 Second:Int
 deriving Inhabited,DecidableEq
def L8.cells(x:L8):List Value:=[.int .i64 x.First,.int .i64 x.Second]
abbrev L8.arr(x:L8):Array Value:= #[.int .i64 x.First,.int .i64 x.Second]
structure L8.ok(F:Nat→Prop)(W:World)(x:L8):Prop where
 First:IG .i64 x.First
 Second:IG .i64 x.Second
theorem L8.ok.ext{F F':Nat→Prop}{W W':World}(he:Ext F W W')(hF:∀ b,F b→F' b){x:L8}(h:L8.ok F W x):L8.ok F' W' x:=⟨h.First,h.Second⟩
structure Am where
 e:Int
 Ag:L8
 deriving Inhabited,DecidableEq
def Am.cells(x:Am):List Value:=[.int .i64 x.e]++L8.cells x.Ag
abbrev Am.arr(x:Am):Array Value:= #[.int .i64 x.e,.int .i64 x.Ag.First,.int .i64 x.Ag.Second]
structure Am.ok(F:Nat→Prop)(W:World)(x:Am):Prop where
 e:IG .i64 x.e
 Ag:L8.ok F W x.Ag
theorem Am.ok.ext{F F':Nat→Prop}{W W':World}(he:Ext F W W')(hF:∀ b,F b→F' b){x:Am}(h:Am.ok F W x):Am.ok F' W' x:=⟨h.e,L8.ok.ext he hF h.Ag⟩
end Go.Proofs.YtlccogilgegnfaaDoor.Ad
namespace Go.Proofs.YtlccogilgegnfaaDoor.Eng
open Go Go.Proofs.YtlccogilgegnfaaDoor.Mem
set_option linter.unusedSimpArgs false
set_option linter.unusedVariables false
theorem Sat.conv{A:AW}{w:World}(h:Sat A w){i:Nat}{c c':Ch}(hi:A.σ[i]? = some c)(hk:c'.key=c.key)(hh:c.holds w→c'.holds w)(hst:c'.stable):Sat { A with σ:=A.σ.set i c' } w:=by
 have hlt:i<A.σ.length:=(List.getElem?_eq_some_iff.1 hi).1
 have hci:A.σ[i]=c:=(List.getElem?_eq_some_iff.1 hi).2
 have hin:∀ d∈A.σ.set i c',d∈A.σ∨d=c':=fun d hd=>List.mem_or_eq_of_mem_set hd
 have hcm:c∈A.σ:=List.mem_of_getElem? hi
 refine⟨h.os,h.tape,h.output,h.size,fun d hd => ?_,fun d hd b hb => ?_,fun d hd => ?_, ?_⟩
 ·rcases hin d hd with hd | rfl
  ·exact h.all d hd
  exact hh (h.all c hcm)
 ·rcases hin d hd with hd | rfl
  ·exact h.bnd d hd b hb
  have hF:d.F=c.F:=congrArg Prod.fst hk
  rw[hF]at hb
  exact h.bnd c hcm b hb
 ·rcases hin d hd with hd | rfl
  ·exact h.Kq d hd
  exact hst
 show((A.σ.set i c').map Ch.key).Pairwise Key.apart
 have:(A.σ.set i c').map Ch.key=A.σ.map Ch.key:=by
  rw[List.map_set,hk,←hci,←List.getElem_map (f:=Ch.key) (h:=by simpa using hlt),List.set_getElem_self]
 rw[this];exact h.Jq
theorem Sat.blkrow{α:Type}{A:AW}{w:World}(h:Sat A w){i b base:Nat}{e:TypeId}{sz:Nat}{cells:α→List Value}{xs:List α}{cs:Array Value}(hi:A.σ[i]? = some (.blk b (.cells cs e (0,0)) true))(hx:xs.flatMap cells=cs.toList)(hl:cs.size=xs.length*sz)(hb:base≤b)(hm:xs.length≤maxLen):Sat { A with σ:=A.σ.set i (BV base e sz cells (.slice (some ⟨b,0,none⟩) xs.length xs.length) xs) } w:=by
 refine h.conv hi ?_ (fun hw => ?_) (MI _ _ _ _ _ _)
 ·show(_,true)=(_,true)
  congr 1
  funext k
  apply propext
  show some b=some k↔k=b
  exact⟨fun e=>(Option.some.inj e).symm,fun e=>by rw[e]⟩
 have hw':w.heap[b]? = some (.cells cs e (0,0)):=hw
 show w.ownsRow base e sz (.slice (some ⟨b,0,none⟩) xs.length xs.length) xs.length (xs.flatMap cells)
 refine⟨by rw[hx];simpa using hl,.inr ⟨b,xs.length,cs,rfl,hb,hw',Nat.le_refl _,hm,hl, ?_⟩⟩
 rw[hx]
 exact List.take_of_length_le (Nat.le_of_eq (by rw[←hl,Array.length_toList]))
section
variable {P:Program}{N:Nat}{env:Env}{ds:List Deferred}{A:AW}{ops:Array Oper}{l:List Oper}{s:List Kt}{Q:Exit→Act→World→Prop}{c:Code}
theorem g_blkrow{α:Type}(i b base:Nat)(e:TypeId)(sz:Nat)(cells:α→List Value)(xs:List α)(cs:Array Value)(hb:base≤b)(K:G P N env ds { A with σ:=A.σ.set i (BV base e sz cells (.slice (some ⟨b,0,none⟩) xs.length xs.length) xs) } c s Q)(hi:A.σ[i]? = some (.blk b (.cells cs e (0,0)) true):=by rfl)(hx:xs.flatMap cells=cs.toList:=by rfl)(hl:cs.size=xs.length*sz:=by rfl)(hm:Nat.ble xs.length 1000=true:=by rfl):G P N env ds A c s Q :=
 fun a w hst=>K a w ⟨hst.sz,hst.df,hst.kn,hst.mem.blkrow hi hx hl hb (Nat.le_trans (Nat.le_of_ble_eq_true hm) (by decide))⟩
end
theorem Sat.grow{A:AW}{w w':World}(h:Sat A w){i:Nat}{c c':Ch}(hi:A.σ[i]? = some c)(hrw:c.rw=true)(hrw':c'.rw=true)(hk:Ce c.F w w')(hh:c'.holds w')(hst:c'.stable)
   (hF:∀ b,c'.F b→c.F b∨b=w.heap.size) (hb:∀ b,c'.F b→b<w'.heap.size):Sat { A with n:=w'.heap.size,σ:=A.σ.set i c' } w':=by
 obtain⟨hlt,hix⟩:=List.getElem?_eq_some_iff.1 hi
 have hsize:A.n≤w'.heap.size:=by have:=hk.size;rw[h.size]at this;exact this
 have hap:∀ j d,j≠i→A.σ[j]? = some d→∀ b,d.F b→¬ c.F b:=by
   intro j d hji hj b hd hb
   exact KH h.Jq (i:=i) (j:=j) (by rw[List.getElem?_map,hi];rfl) (by rw[List.getElem?_map,hj];rfl) (Ne.symm hji) hrw b hb hd
 refine⟨hk.os.trans h.os,hk.tape.trans h.tape,hk.output.trans h.output,rfl, ?_, ?_, ?_, ?_⟩
 · intro d hd
   obtain⟨j,hj⟩:=List.getElem?_of_mem hd
   by_cases hij:i=j
   · subst hij;rw[List.getElem?_set_self hlt]at hj;cases hj;exact hh
   · rw[List.getElem?_set_ne hij]at hj
     have hm:=List.mem_of_getElem? hj
     exact h.Kq d hm w w' (fun b hbd=>hk.block b (by rw[h.size];exact h.bnd d hm b hbd) (hap j d (Ne.symm hij) hj b hbd)) (h.all d hm)
 · intro d hd b hbd
   show b<w'.heap.size
   rcases List.mem_or_eq_of_mem_set hd with hd | rfl
   · have:=h.bnd d hd b hbd;omega
   · exact hb b hbd
 · intro d hd
   rcases List.mem_or_eq_of_mem_set hd with hd | rfl
   · exact h.Kq d hd
   · exact hst
 · show((A.σ.set i _).map Ch.key).Pairwise Key.apart
   rw[List.map_set,List.pairwise_iff_getElem]
   intro p q hp hq hpq
   simp only[List.length_set,List.length_map]at hp hq
   have key:∀ j (hj:j<A.σ.length),j≠i→Key.apart (Ch.key c') (Ch.key A.σ[j]):=by
     intro j hj hji _ b hbc hd
     have hjs:A.σ[j]? = some A.σ[j]:=by simp[hj]
     rcases hF b hbc with e1 | e1
     · exact hap j _ hji hjs b hd e1
     · have:=h.bnd _ (List.mem_of_getElem? hjs) b hd
       rw[←h.size]at this;omega
   simp only[List.getElem_set,List.getElem_map]
   by_cases h1:i=p
   · subst h1
     rw[if_pos rfl,if_neg (by omega)]
     exact key q hq (by omega)
   · rw[if_neg h1]
     by_cases h2:i=q
     · subst h2;rw[if_pos rfl];exact Key.TN (key p hp (by omega))
     · rw[if_neg h2]
       exact Ws h.Jq (i:=p) (j:=q) (by simp[hp]) (by simp[hq]) (by omega)
structure HdAt{α:Type}(cells:α→List Value)(w:World)(hd:Sl α):Prop where
 len:hd.xs.length≤140737488351232
 le:hd.xs.length≤hd.cap
 cells:hd.xs≠[]→∃ g,hd.a=some ⟨g,0,none⟩∧g<w.heap.size∧∀ (j:Nat) (u:Value),(hd.xs.flatMap cells)[j]? = some u→w.cell? ⟨g,j,none⟩=some u
theorem own_a{α:Type}{hd:Sl α}{g:Nat}(h:hd.a=some ⟨g,0,none⟩):hd.val.ownBlock=some g:=by
 obtain⟨a,cap,xs⟩:=hd;simp only at h;subst h;rfl
theorem HdAt.same{α:Type}{cells:α→List Value}{w w':World}{hd:Sl α}(h:HdAt cells w hd)(hb:∀ b,hd.val.ownBlock=some b→w'.heap[b]? = w.heap[b]?):HdAt cells w' hd :=
 ⟨h.len,h.le,fun hne=>by
  obtain⟨g,ha,hlt,hc⟩:=h.cells hne
  have hbg:=hb g (own_a ha)
  refine⟨g,ha, ?_,fun j u hu => ?_⟩
  ·rcases Nat.lt_or_ge g w'.heap.size with h1 | h1
   ·exact h1
   rw[Array.getElem?_eq_none h1,Array.getElem?_eq_getElem hlt]at hbg;cases hbg
  rw[←hc j u hu]
  simp only[World.cell?,hbg]⟩
theorem QA{α:Type}{cells:α→List Value}{sz base:Nat}{e:TypeId}{F:Nat→Prop}{w:World}{a:Option Addr}{cap:Nat}{xs:List α}(hsz:∀ x,(cells x).length=sz)(h:w.ownsRow base e sz (.slice a xs.length cap) xs.length (xs.flatMap cells))(hl:xs.length≤140737488351232)(hF:∀ b,(Value.slice a xs.length cap).ownBlock=some b→F b):PW cells sz F w ⟨a,cap,xs⟩:=by
 have:=Tz hsz h hl
 refine⟨this.len,this.le,fun hne => ?_⟩
 obtain⟨b,off,ha,hb,hc⟩:=this.cells hne
 exact⟨b,off,ha,hF b (by simp only at ha;subst ha;rfl),hc⟩
def JY(cs:List Ch):Nat→Prop:=fun b=>∃ c∈cs,c.F b
theorem O4{w w0:World}{n:Nat}{cs:List Ch}(h:Sat ⟨w0,n,cs⟩ w)(hrw:∀ c∈cs,c.rw=true):Sat ⟨w,n,old (JY cs) w :: cs⟩ w:=by
 refine⟨rfl,rfl,rfl,h.size, ?_, ?_, ?_, ?_⟩
 ·intro c hc
  rcases List.mem_cons.1 hc with rfl | hc
  ·exact fun _ _ _=>rfl
  exact h.all c hc
 ·intro c hc b hb
  rcases List.mem_cons.1 hc with rfl | hc
  ·have:=hb.1;rw[h.size]at this;exact this
  exact h.bnd c hc b hb
 ·intro c hc
  rcases List.mem_cons.1 hc with rfl | hc
  ·exact Zx _ _
  exact h.Kq c hc
 show((old (JY cs) w :: cs).map Ch.key).Pairwise Key.apart
 rw[List.map_cons,List.pairwise_cons]
 refine⟨fun k hk _ b hb hb' => ?_,h.Jq⟩
 obtain⟨c,hc,rfl⟩:=List.mem_map.1 hk
 exact hb.2 ⟨c,hc,hb'⟩
theorem Sat.XK{A:AW}{w w' w0:World}{cs:List Ch}(h:Sat A w)(hk:Ce (fun _=>False) w w')(hO:Sat ⟨w0,w'.heap.size,cs⟩ w')(hn:∀ c∈cs,∀ b,c.F b→A.n≤b):Sat { A with n:=w'.heap.size,σ:=A.σ++cs } w':=by
 have hsz:A.n≤w'.heap.size:=by have:=hk.size;rw[h.size]at this;exact this
 refine⟨hk.os.trans h.os,hk.tape.trans h.tape,hk.output.trans h.output,rfl, ?_, ?_, ?_, ?_⟩
 ·intro c hc
  rcases List.mem_append.1 hc with hc | hc
  ·exact h.Kq c hc w w' (fun b hb=>hk.block b (by rw[h.size];exact h.bnd c hc b hb) id) (h.all c hc)
  exact hO.all c hc
 ·intro c hc b hb
  rcases List.mem_append.1 hc with hc | hc
  ·exact Nat.lt_of_lt_of_le (h.bnd c hc b hb) hsz
  exact hO.bnd c hc b hb
 ·intro c hc
  rcases List.mem_append.1 hc with hc | hc
  ·exact h.Kq c hc
  exact hO.Kq c hc
 show((A.σ++cs).map Ch.key).Pairwise Key.apart
 rw[List.map_append,List.pairwise_append]
 refine⟨h.Jq,hO.Jq,fun k hk' k2 hk2 _ b hb hb' => ?_⟩
 obtain⟨c,hc,rfl⟩:=List.mem_map.1 hk'
 obtain⟨d,hd,rfl⟩:=List.mem_map.1 hk2
 have h1:=h.bnd c hc b hb
 have h2:=hn d hd b hb'
 omega
theorem take_put{α:Type}{l m:List α}{o n L:Nat}(ho:o+n≤L)(hm:m.length=n)(hl:L≤l.length):(l.take o++m++l.drop (o+n)).take L=(l.take L).take o++m++(l.take L).drop (o+n):=by
 rw[List.take_append,List.take_append,List.take_of_length_le (l:=l.take o) (by rw[List.length_take];omega),List.take_of_length_le (l:=m) (by rw[List.length_take];omega),List.take_take,Nat.min_eq_left (by omega),List.drop_take]
 congr 2
 rw[List.length_append,List.length_take,hm];omega
theorem flat_ix{α:Type}{cells:α→List Value}{sz:Nat}(hsz:∀ x,(cells x).length=sz):∀ (ys:List α) (j:Nat) (u:Value),(ys.flatMap cells)[j]? = some u→∃ i k,j=i*sz+k∧∃ h:i<ys.length,(cells ys[i])[k]? = some u
 | [],j,u,h=>by simp at h
 | y :: ys,j,u,h=>by
  rw[List.flatMap_cons]at h
  by_cases hj:j<(cells y).length
  ·rw[List.getElem?_append_left hj]at h
   exact⟨0,j,by omega,by simp,h⟩
  rw[List.getElem?_append_right (by omega),hsz]at h
  obtain⟨i,k,e,hi,hu⟩:=flat_ix hsz ys _ u h
  rw[hsz]at hj
  exact⟨i+1,k,by rw[Nat.succ_mul];omega,by simpa using hi,by simpa using hu⟩
theorem sl_news{α:Type}{cells:α→List Value}{sz:Nat}{F:Nat→Prop}{W:World}{s:Sl α}(hsz:∀ x,(cells x).length=sz)(h:PW cells sz F W s){b off:Nat}(ha:s.a=some ⟨b,off,none⟩):∀ j u,(s.xs.flatMap cells)[j]? = some u→W.cell? ((⟨b,off,none⟩:Addr).add j)=some u:=by
 intro j u hu
 obtain⟨i,k,rfl,hi,hc⟩:=flat_ix hsz s.xs j u hu
 obtain⟨b',off',ha', -,hh⟩:=h.cells (fun e=>by rw[e]at hi;simp at hi)
 rw[ha]at ha'
 simp only[Option.some.injEq,Addr.mk.injEq,and_true]at ha'
 obtain⟨rfl,rfl⟩:=ha'
 have:=hh i hi k u hc
 have e1:(⟨b,off,none⟩:Addr).add (i*sz+k)=⟨b,off+Ee sz i+k,none⟩:=by rw[Nb rfl,Jy,Nat.add_assoc]
 rw[e1];exact this
theorem XM{z:Array Value}(hz:0<z.size):∀ (n:Nat),(madeCells z (n*z.size)).toList=(List.replicate n z.toList).flatten
 | 0=>by simp[madeCells]
 | n+1=>by
  have ih:=XM hz n
  rw[Nat.succ_mul]
  simp only[madeCells,Array.toList_map,Array.toList_range]at ih ⊢
  rw[List.range_add,List.map_append,ih,List.replicate_succ',List.flatten_append]
  congr 1
  rw[List.map_map]
  apply List.ext_getElem (by simp)
  intro i h1 h2
  have h1':i<z.size:=by simpa using h1
  have e1:(n*z.size+i) % z.size=i:=by rw[Nat.add_comm,Nat.add_mul_mod_self_right,Nat.mod_eq_of_lt h1']
  simp[e1,h1']
theorem YX{α:Type}{cells:α→List Value}{zt:α}:∀ (n:Nat),(List.replicate n (cells zt)).flatten=(List.replicate n zt).flatMap cells
 | 0=>rfl
 | n+1=>by rw[List.replicate_succ,List.replicate_succ,List.flatten_cons,List.flatMap_cons,YX n]
section
variable {P:Program}{N:Nat}{env:Env}{ds:List Deferred}{A:AW}{ops:Array Oper}{l:List Oper}{s:List Kt}{Q:Exit→Act→World→Prop}
def makeA(P:Program)(N:Nat)(ops:Array Oper)(env:Env)(o:Oper):Option (TypeId×Nat×Nat×Value×Int×Int):=match o.op,Oc ops env o,Ld env o,Oa N o.dst with
 | .makeSlice t x y,some true,true,true=>match P.underlying t,IR env x,IR env y with
  | some (.slice e),.int _ i,.int _ j=>match P.info? e with
   | some f=>match f.zero with
    | some z=>match Nat.beq z.cells.size f.size&&Nat.blt 0 f.size with
     | true=>some (e,f.size,f.bytes,z,i,j)
     | false=>none
    | none=>none
   | none=>none
  | _,_,_=>none
 | _,_,_,_=>none
theorem makeA_run{α:Type}{base:Nat}{o:Oper}{e:TypeId}{sz by':Nat}{z:Value}{i j:Int}(h:makeA P N ops env o=some (e,sz,by',z,i,j)){n:Nat}{zt:α}{cells:α→List Value}(hi:i=(n:Int))(hj:j=(n:Int))(hz:z.cells.toList=cells zt)(hn:by' * n≤281474976710656)(hm:n≤maxLen)(hbase:base≤A.n){a:Act}{w:World}(hst:St N env ds A a w) :
   Region.wanted o (yielded ops a.tmps)=true∧Oa N o.dst=true∧∃ w',(execOp a.eval o).run P w = .ok (.value (.slice (some ⟨A.n,0,none⟩) n n)) w'∧A.n+1≤w'.heap.size∧Sat { A with n:=w'.heap.size,σ:=A.σ++[BV base e sz cells (.slice (some ⟨A.n,0,none⟩) n n) (List.replicate n zt)] } w':=by
 unfold makeA at h
 split at h
 · rename_i t x y hop hw hk hd
   split at h
   · rename_i e' k1 i' k2 j' ht hx hy
     split at h
     · rename_i f hf
       split at h
       · rename_i z' hz'
         split at h
         · rename_i hsz
           simp only[Option.some.injEq,Prod.mk.injEq]at h
           obtain⟨rfl,rfl,rfl,rfl,rfl,rfl⟩:=h
           rw[Bool.and_eq_true]at hsz
           have hs1:=Nat.eq_of_beq_eq_true hsz.1
           subst hi hj
           refine⟨FN hw hst,hd, ?_⟩
           rw[Ir hst hk]
           obtain⟨w',hr,ho,hg⟩:=run_make_full (P:=P) w base t e' f z' f.size ht hf hz' rfl k1 k2 n hn hm (by rw[hst.mem.size];exact hbase)
           rw[hst.mem.size]at hr ho
           have hkp:Ce (fun _=>False) w w':=by
             have:=Ce.of_grownBy hg
             exact⟨this.os,this.tape,this.output,this.size,fun k hk _=>this.block k hk (by simp)⟩
           have hlt:A.n<w'.heap.size:=by
             rcases ho.2 with⟨h1, -⟩ | ⟨g,cap,cur,h1, -,h2, -⟩
             · cases h1
             · cases h1;exact(Array.getElem?_eq_some_iff.1 h2).1
           rw[←hs1,XM (by rw[hs1];simpa using hsz.2),hz,YX,hs1]at ho
           refine⟨w',by simp[execOp,hop,hx,hy,hr,Sem.run,Result.andThen],hlt, ?_⟩
           refine hst.mem.keeps1 hkp (BV base e' f.size cells _ (List.replicate n zt)) ?_ (MI _ _ _ _ _ _) ?_
           · show w'.ownsRow base e' f.size _ (List.replicate n zt).length _
             rw[List.length_replicate];exact ho
           · intro b hb
             have hb':some A.n=some b:=hb
             cases hb'
             exact⟨Nat.le_refl _,hlt⟩
         · cases h
       · cases h
     · cases h
   · cases h
 · cases h
theorem Z9{α:Type}(base n:Nat)(zt:α)(cells:α→List Value)(e:TypeId)(sz by':Nat)(z:Value)(i j:Int)(d:Option Nat)(hi:i=(n:Int))(hj:j=(n:Int))(hn:n≤1000000000000)(hbase:base≤A.n)
   (K:∀ n',A.n+1≤n'→Lg P N (Ig env d (.slice (some ⟨A.n,0,none⟩) n n)) ds { A with n:=n',σ:=A.σ++[BV base e sz cells (.slice (some ⟨A.n,0,none⟩) n n) (List.replicate n zt)] } ops (l.drop 1) s Q)
   (h:(match l with | o :: _=>(makeA P N ops env o).map (fun x=>(x,o.dst)) | []=>none)=some ((e,sz,by',z,i,j),d):=by as_aux_lemma=>kernel_rfl) (hz:z.cells.toList=cells zt:=by rfl) (hb:Nat.ble by' 140=true:=by as_aux_lemma=>kernel_rfl):Lg P N env ds A ops l s Q:=by
 intro a w hst
 have hb':=Nat.le_of_ble_eq_true hb
 cases l with
 | nil=>cases h
 | cons o l =>
   simp only[Option.map_eq_some_iff]at h
   obtain⟨y,hy,h⟩:=h
   simp only[Prod.mk.injEq]at h
   obtain⟨rfl,rfl⟩:=h
   obtain⟨hw,hd,w',hr,hsz,hs'⟩:=makeA_run hy hi hj hz (Nat.le_trans (Nat.mul_le_mul hb' hn) (by decide)) (by unfold maxLen;omega) hbase hst
   refine KE hw (.inl hr) ?_
   exact K _ hsz _ _ (hst.put hs' _ hd _)
theorem Ph{α:Type}{σC:List Ch}{late fuel:Nat}{listed:List Bool}{p:Nat}(base n:Nat)(zt:α)(cells:α→List Value)(e:TypeId)(sz by':Nat)(z:Value)(i j:Int)(d:Option Nat)(cix:List Nat)(hi:i=(n:Int))(hj:j=(n:Int))(hn:n≤1000000000000)(hbase:base≤A.n)
   (hC:Nat.beq p late=true∨picks cix A.σ=some σC)
   (K:∀ n',A.n+1≤n'→Wg P N (Ig env d (.slice (some ⟨A.n,0,none⟩) n n)) ds { A with n:=n',σ:=A.σ++[BV base e sz cells (.slice (some ⟨A.n,0,none⟩) n n) (List.replicate n zt)] } ops σC late fuel (listed.set p true) s Q)
   (hp:Nat.blt p listed.length=true:=by rfl)
   (h:(match ops[p]? with | some o=>(makeA P N ops env o).map (fun x=>(x,o.dst)) | none=>none)=some ((e,sz,by',z,i,j),d):=by as_aux_lemma=>kernel_rfl) (hz:z.cells.toList=cells zt:=by rfl) (hb:Nat.ble by' 140=true:=by as_aux_lemma=>kernel_rfl):WO P N env ds A ops σC late fuel listed s Q p:=by
 intro a w hst hcl
 have hlt:p<listed.length:=by simpa using hp
 have hb':=Nat.le_of_ble_eq_true hb
 split at h
 · rename_i o ho
   simp only[Option.map_eq_some_iff]at h
   obtain⟨y,hy,h⟩:=h
   simp only[Prod.mk.injEq]at h
   obtain⟨rfl,rfl⟩:=h
   obtain⟨hw,hd,w',hr,hsz,hs'⟩:=makeA_run hy hi hj hz (Nat.le_trans (Nat.mul_le_mul hb' hn) (by decide)) (by unfold maxLen;omega) hbase hst
   unfold wpOp
   simp only[ho]
   rw[if_pos hw]
   left
   unfold Oper.wp
   rw[hr]
   have hcs:(listed.set p true).toArray.getD late false=false→Cs σC w':=by
     intro hl
     rcases hC with hC | hC
     · have:=Nat.eq_of_beq_eq_true hC
       subst this
       simp[hlt]at hl
     · intro c hc
       obtain⟨q,hq,hqs⟩:=LX hC c hc
       refine hs'.all c (List.mem_append_left _ (List.mem_of_getElem? hqs))
   exact⟨hcs,K _ hsz _ _ (hst.put hs' _ hd _) hcl hcs⟩
 · cases h
end
theorem Sat.famOut{α:Type}[Inhabited α]{A:AW}{w:World}(h:Sat A w)(i:Nat)(is:List Nat){base:Nat}{e:TypeId}{sz:Nat}{cells:α→List Value}{hs:List (Sl α)}(n:Nat)(hn:n<hs.length){kept:List Ch}(hi:A.σ[i]? = some (Ja base e sz cells hs))(hnd:nodupB is=true)(hni:is.contains i=false)(hp:picks is A.σ=some kept) :
   Sat { A with σ:=kept++[Ja base e sz cells (hs.eraseIdx n),BV base e sz cells (gd hs n).val (gd hs n).xs] } w:=by
 have h1:(∀ s∈hs,w.ownsRow base e sz s.val s.xs.length (s.xs.flatMap cells))∧hs.Pairwise (fun s t=>∀ b,s.val.ownBlock=some b→t.val.ownBlock≠some b):=h.at hi
 have hg:gd hs n=hs[n]:=EW hn
 have hperm:hs.Perm (hs[n] :: hs.eraseIdx n):=by
   have e1:hs=hs.take n++hs[n] :: hs.drop (n+1):=by rw[List.getElem_cons_drop,List.take_append_drop]
   rw[List.eraseIdx_eq_take_drop_succ]
   conv=>lhs;rw[e1]
   exact List.perm_middle
 have hpw:(hs[n] :: hs.eraseIdx n).Pairwise (fun s t=>∀ b,s.val.ownBlock=some b→t.val.ownBlock≠some b):=(hperm.pairwise_iff (fun{x y} hxy b hb hb'=>hxy b hb' hb)).1 h1.2
 rw[List.pairwise_cons]at hpw
 have hall:∀ s∈hs.eraseIdx n,s∈hs:=fun s hs'=>hperm.mem_iff.2 (List.mem_cons_of_mem _ hs')
 have:=h.exch is hnd hp (Ce.refl (fun _=>False) w) (fun _ _ _ _ x=>x) [Ja base e sz cells (hs.eraseIdx n),BV base e sz cells (gd hs n).val (gd hs n).xs] (by
   intro d hd
   simp only[List.mem_cons,List.not_mem_nil,or_false]at hd
   rcases hd with rfl | rfl
   · refine⟨⟨fun s hs'=>h1.1 s (hall s hs'),hpw.2⟩,TG _ _ _ _ _, ?_⟩
     rintro b ⟨s,hs',hb⟩
     rw[h.size];exact h.bnd _ (List.mem_of_getElem? hi) b ⟨s,hall s hs',hb⟩
   · refine⟨?_,MI _ _ _ _ _ _, ?_⟩
     · show w.ownsRow base e sz (gd hs n).val (gd hs n).xs.length ((gd hs n).xs.flatMap cells)
       rw[hg];exact h1.1 _ (List.getElem_mem hn)
     · intro b hb
       rw[h.size];exact h.bnd _ (List.mem_of_getElem? hi) b ⟨gd hs n,by rw[hg];exact List.getElem_mem hn,hb⟩) (by
   simp only[List.map_cons,List.map_nil,List.pairwise_cons,List.mem_singleton,List.not_mem_nil,false_imp_iff,implies_true,List.Pairwise.nil,and_true]
   rintro k rfl _ b ⟨s,hs',hb⟩ hb'
   have hb2:(gd hs n).val.ownBlock=some b:=hb'
   rw[hg]at hb2
   exact hpw.1 s hs' b hb2 hb) (by
   intro d hd d' hd' _ b hb
   obtain⟨q,hq,hqs⟩:=LX hp d hd
   have hap:=KH h.Jq (i:=i) (j:=q) (by rw[List.getElem?_map,hi];rfl) (by rw[List.getElem?_map,hqs];rfl) (fun e=>by subst e;simp[hq]at hni) rfl
   simp only[List.mem_cons,List.not_mem_nil,or_false]at hd'
   intro hb'
   rcases hd' with rfl | rfl
   · obtain⟨s,hs',hbb⟩:=hb'
     exact hap b ⟨s,hall s hs',hbb⟩ hb
   · exact hap b ⟨gd hs n,by rw[hg];exact List.getElem_mem hn,hb'⟩ hb)
 rw[h.size]at this
 exact this
theorem Sat.famIn{α:Type}[Inhabited α]{A:AW}{w:World}(h:Sat A w)(i j:Nat)(is:List Nat){base:Nat}{e:TypeId}{sz:Nat}{cells:α→List Value}{hs:List (Sl α)}(n:Nat)(hn:n<hs.length){a:Option Addr}{cap:Nat}{xs:List α}{kept:List Ch}(hi:A.σ[i]? = some (Ja base e sz cells (hs.eraseIdx n)))(hj:A.σ[j]? = some (BV base e sz cells (.slice a xs.length cap) xs))(hij:i≠j)
   (hnd:nodupB is=true) (hni:is.contains i=false) (hnj:is.contains j=false) (hp:picks is A.σ=some kept):Sat { A with σ:=kept++[Ja base e sz cells (hs.set n ⟨a,cap,xs⟩)] } w:=by
 have h1:=h.fam i j is hi hj hij hnd hni hnj hp
 have hperm:(hs.eraseIdx n++[(⟨a,cap,xs⟩:Sl α)]).Perm (hs.set n ⟨a,cap,xs⟩):=by
   rw[List.eraseIdx_eq_take_drop_succ,List.set_eq_take_append_cons_drop,if_pos hn]
   rw[List.append_assoc]
   exact List.Perm.append_left _ (List.perm_append_singleton _ _)
 have hF:Ja base e sz cells (hs.eraseIdx n++[(⟨a,cap,xs⟩:Sl α)])=Ja base e sz cells (hs.set n ⟨a,cap,xs⟩):=by
   unfold Ja
   congr 1
   · funext b
     apply propext
     exact⟨fun⟨s,hs',hb⟩=>⟨s,hperm.mem_iff.1 hs',hb⟩,fun⟨s,hs',hb⟩=>⟨s,hperm.mem_iff.2 hs',hb⟩⟩
   · funext w
     apply propext
     have hsym:∀ {x y:Sl α},(∀ b,x.val.ownBlock=some b→y.val.ownBlock≠some b)→(∀ b,y.val.ownBlock=some b→x.val.ownBlock≠some b):=fun hxy b hb hb'=>hxy b hb' hb
     exact⟨fun⟨p1,p2⟩=>⟨fun s hs'=>p1 s (hperm.mem_iff.2 hs'),(hperm.pairwise_iff hsym).1 p2⟩,fun⟨p1,p2⟩=>⟨fun s hs'=>p1 s (hperm.mem_iff.1 hs'),(hperm.pairwise_iff hsym).2 p2⟩⟩
 rw[hF]at h1
 exact h1
section
variable {P:Program}{N:Nat}{env:Env}{ds:List Deferred}{A:AW}{ops:Array Oper}{l:List Oper}{s:List Kt}{Q:Exit→Act→World→Prop}{c:Code}
theorem g_famOut{α:Type}[Inhabited α](i:Nat)(is:List Nat)(base:Nat)(e:TypeId)(sz:Nat)(cells:α→List Value)(hs:List (Sl α))(n:Nat)(x:Sl α)(hx:x=gd hs n)(hn:n<hs.length)(kept:List Ch)(K:G P N env ds { A with σ:=kept++[Ja base e sz cells (hs.eraseIdx n),BV base e sz cells (.slice x.a x.xs.length x.cap) x.xs] } c s Q)
   (hi:A.σ[i]? = some (Ja base e sz cells hs):=by rfl) (hnd:nodupB is=true:=by rfl) (hni:is.contains i=false:=by rfl) (hp:picks is A.σ=some kept:=by rfl):G P N env ds A c s Q:=by
 subst hx
 exact fun a' w hst=>K a' w ⟨hst.sz,hst.df,hst.kn,hst.mem.famOut i is n hn hi hnd hni hp⟩
theorem g_famNil{α:Type}(base:Nat)(e:TypeId)(sz:Nat)(cells:α→List Value)(n:Nat)(h:G P N env ds { A with σ:=A.σ++[Ja base e sz cells (List.replicate n ⟨none,0,[]⟩)] } c s Q):G P N env ds A c s Q:=fun a w hst=>h a w ⟨hst.sz,hst.df,hst.kn,hst.mem.more _ (show(∀ s∈List.replicate n (⟨none,0,[]⟩:Sl α),w.ownsRow base e sz s.val s.xs.length (s.xs.flatMap cells))∧(List.replicate n (⟨none,0,[]⟩:Sl α)).Pairwise (fun s t=>∀ b,s.val.ownBlock=some b→t.val.ownBlock≠some b)from
 ⟨fun s hs=>by obtain⟨-,rfl⟩:=List.mem_replicate.1 hs;exact⟨by simp,.inl ⟨rfl,rfl⟩⟩,List.pairwise_replicate.2 (.inr (fun b hb=>by cases hb))⟩) (TG _ _ _ _ _) (fun b hb=>by obtain⟨s,hm,hb⟩:=hb;obtain⟨-,rfl⟩:=List.mem_replicate.1 hm;cases hb)⟩
theorem e_famIn{α:Type}[Inhabited α]{x:Exit}(i j:Nat)(is:List Nat)(base:Nat)(e:TypeId)(sz:Nat)(cells:α→List Value)(hs:List (Sl α))(n:Nat)(hn:n<hs.length)(a:Option Addr)(cap:Nat)(xs:List α)(kept:List Ch)(K:E P N env ds { A with σ:=kept++[Ja base e sz cells (hs.set n ⟨a,cap,xs⟩)] } x s Q)
   (hi:A.σ[i]? = some (Ja base e sz cells (hs.eraseIdx n)):=by rfl) (hj:A.σ[j]? = some (BV base e sz cells (.slice a xs.length cap) xs):=by rfl) (hij:i≠j:=by decide) (hnd:nodupB is=true:=by rfl) (hni:is.contains i=false:=by rfl) (hnj:is.contains j=false:=by rfl) (hp:picks is A.σ=some kept:=by rfl):E P N env ds A x s Q :=
 fun a' w hst=>K a' w ⟨hst.sz,hst.df,hst.kn,hst.mem.famIn i j is n hn hi hj hij hnd hni hnj hp⟩
end
section
variable {P:Program}{N:Nat}{env:Env}{ds:List Deferred}{A:AW}{ops:Array Oper}{l:List Oper}{s:List Kt}{Q:Exit→Act→World→Prop}{c:Code}
theorem g_rowcap{α:Type}{base:Nat}{e:TypeId}{sz:Nat}{cells:α→List Value}{a:Option Addr}{n cap:Nat}{xs:List α}(i:Nat)(hx:xs.length=n)(K:n≤cap→G P N env ds A c s Q)(hi:A.σ[i]? = some (BV base e sz cells (.slice a n cap) xs):=by rfl):G P N env ds A c s Q:=fun a' w hs=>by
 refine K ?_ a' w hs
 have hown:w.ownsRow base e sz (.slice a n cap) xs.length (xs.flatMap cells):=hs.mem.at hi
 rcases hown.2 with⟨h1,h2⟩ | ⟨g,cap',cur,h1, -, -,hnc, -⟩
 ·omega
 cases h1;omega
theorem Y8{α:Type}(base i j:Nat)(xs ys:List α)(cells:α→List Value)(e:TypeId)(sz by':Nat)(v:Value)(b m cp:Nat)(cs:Array Value)(t:TypeId)(fr:Nat×Nat)(rw':Bool)(d:Option Nat)
   (h63:xs.length+ys.length≤281474976710656) (hbytes:(xs.length+ys.length)*by'≤140737488355328) (hbase:base≤A.n)
   (K:∀ a' cap' n',A.n≤n'→Lg P N (Ig env d (.slice a' (xs++ys).length cap')) ds { A with n:=n',σ:=A.σ.set i (BV base e sz cells (.slice a' (xs++ys).length cap') (xs++ys)) } ops (l.drop 1) s Q)
   (h:(match l with | o :: _=>(Wv P N ops env o).map (fun x=>(x,o.dst)) | []=>none)=some ((e,sz,by',v,⟨b,0,none⟩,m,cp),d):=by as_aux_lemma=>kernel_rfl) (hi:A.σ[i]? = some (BV base e sz cells v xs):=by rfl) (hj:A.σ[j]? = some (.blk b (.cells cs t fr) rw'):=by rfl) (hn:cs.toList=ys.flatMap cells:=by rfl) (hm:ys.length=m:=by rfl)
   (hl:Nat.beq (ys.flatMap cells).length (ys.length*sz)=true:=by as_aux_lemma=>kernel_rfl) (h1:(ys.flatMap cells).all Value.oneCell'=true:=by as_aux_lemma=>kernel_rfl):Lg P N env ds A ops l s Q:=by
 subst hm
 refine l_append base i j xs.length (xs.flatMap cells) (ys.flatMap cells) e sz by' v b ys.length cp cs t fr rw' d h hi hj hn hl h1 (by unfold maxLen;omega) hbytes hbase (fun a' cap' n' hn' => ?_)
 have:=K a' cap' n' hn'
 rw[←XE,List.length_append]at this
 exact this
end
theorem Sat.two{A:AW}{w:World}(h:Sat A w){i j:Nat}{c d:Ch}(hi:A.σ[i]? = some c)(hj:A.σ[j]? = some d)(hne:i≠j)(hr:c.rw=true):∀ b,c.F b→¬ d.F b :=
 fun b hcb hdb=>KH h.Jq (i:=i) (j:=j) (by rw[List.getElem?_map,hi];rfl) (by rw[List.getElem?_map,hj];rfl) hne hr b hcb hdb
theorem Sat.turn{A:AW}{w w':World}(h:Sat A w)(is js:List Nat){cs kept new:List Ch}(hn:nodupB is=true)(hp:picks is A.σ=some kept)(hjs:picks js A.σ=some cs)(hij:is.all (fun q => !js.contains q)=true)(hrw:∀ c∈cs,c.rw=true)(hk:Ce (JY cs) w w')
   (h1:∀ c∈new,c.holds w'∧c.stable∧∀ b,c.F b→b<w'.heap.size∧(JY cs b∨w.heap.size≤b)) (h2:(new.map Ch.key).Pairwise Key.apart):Sat { A with n:=w'.heap.size,σ:=kept++new } w':=by
 have hap:∀ d∈kept,∀ b,d.F b→¬ JY cs b:=by
   rintro d hd b hb ⟨c,hc,hcb⟩
   obtain⟨q,hq,hqs⟩:=LX hp d hd
   obtain⟨p,hp',hps⟩:=LX hjs c hc
   refine KH h.Jq (i:=p) (j:=q) (by rw[List.getElem?_map,hps];rfl) (by rw[List.getElem?_map,hqs];rfl) (fun e => ?_) (hrw c hc) b hcb hb
   subst e
   have:=List.all_eq_true.1 hij p hq
   simp[hp']at this
 refine h.exch is hn hp hk hap new (fun c hc=>⟨(h1 c hc).1,(h1 c hc).2.1,fun b hb=>((h1 c hc).2.2 b hb).1⟩) h2 ?_
 intro d hd c hc _ b hb hcb
 rcases((h1 c hc).2.2 b hcb).2 with h3 | h3
 · exact hap d hd b hb h3
 · have:=h.bnd d (DW hp d hd) b hb
   rw[←h.size]at this;omega
open Go Go.Lib Go.Proofs.YtlccogilgegnfaaDoor.Mem
theorem Sat.growN{A:AW}{w w':World}(h:Sat A w){i:Nat}{c c':Ch}(hi:A.σ[i]? = some c)(hrw:c.rw=true)(hrw':c'.rw=true)(hk:Ce c.F w w')(hh:c'.holds w')(hst:c'.stable)
   (hF:∀ b,c'.F b→c.F b∨w.heap.size≤b) (hb:∀ b,c'.F b→b<w'.heap.size):Sat { A with n:=w'.heap.size,σ:=A.σ.set i c' } w':=by
 obtain⟨hlt,hix⟩:=List.getElem?_eq_some_iff.1 hi
 have hsize:A.n≤w'.heap.size:=by have:=hk.size;rw[h.size]at this;exact this
 have hap:∀ j d,j≠i→A.σ[j]? = some d→∀ b,d.F b→¬ c.F b:=by
   intro j d hji hj b hd hb
   exact KH h.Jq (i:=i) (j:=j) (by rw[List.getElem?_map,hi];rfl) (by rw[List.getElem?_map,hj];rfl) (Ne.symm hji) hrw b hb hd
 refine⟨hk.os.trans h.os,hk.tape.trans h.tape,hk.output.trans h.output,rfl, ?_, ?_, ?_, ?_⟩
 · intro d hd
   obtain⟨j,hj⟩:=List.getElem?_of_mem hd
   by_cases hij:i=j
   · subst hij;rw[List.getElem?_set_self hlt]at hj;cases hj;exact hh
   · rw[List.getElem?_set_ne hij]at hj
     have hm:=List.mem_of_getElem? hj
     exact h.Kq d hm w w' (fun b hbd=>hk.block b (by rw[h.size];exact h.bnd d hm b hbd) (hap j d (Ne.symm hij) hj b hbd)) (h.all d hm)
 · intro d hd b hbd
   show b<w'.heap.size
   rcases List.mem_or_eq_of_mem_set hd with hd | rfl
   · have:=h.bnd d hd b hbd;omega
   · exact hb b hbd
 · intro d hd
   rcases List.mem_or_eq_of_mem_set hd with hd | rfl
   · exact h.Kq d hd
   · exact hst
 · show((A.σ.set i _).map Ch.key).Pairwise Key.apart
   rw[List.map_set,List.pairwise_iff_getElem]
   intro p q hp hq hpq
   simp only[List.length_set,List.length_map]at hp hq
   have key:∀ j (hj:j<A.σ.length),j≠i→Key.apart (Ch.key c') (Ch.key A.σ[j]):=by
     intro j hj hji _ b hbc hd
     have hjs:A.σ[j]? = some A.σ[j]:=by simp[hj]
     rcases hF b hbc with e1 | e1
     · exact hap j _ hji hjs b hd e1
     · have:=h.bnd _ (List.mem_of_getElem? hjs) b hd
       rw[←h.size]at this;omega
   simp only[List.getElem_set,List.getElem_map]
   by_cases h1:i=p
   · subst h1
     rw[if_pos rfl,if_neg (by omega)]
     exact key q hq (by omega)
   · rw[if_neg h1]
     by_cases h2:i=q
     · subst h2;rw[if_pos rfl];exact Key.TN (key p hp (by omega))
     · rw[if_neg h2]
       exact Ws h.Jq (i:=p) (j:=q) (by simp[hp]) (by simp[hq]) (by omega)
section
variable {P:Program}{N:Nat}{env:Env}{ds:List Deferred}{A:AW}{ops:Array Oper}{l:List Oper}{s:List Kt}{Q:Exit→Act→World→Prop}{c:Code}
def copyOf(o:Oper):Option (Operand×Operand×TypeId×TypeId):=match o.op with
 | .call c=>match c.callee,c.args.toList,c.argTypes.toList with
  | .builtin .copy,[x,y],[t,u]=>some (x,y,t,u)
  | _,_,_=>none
 | _=>none
theorem YS{o:Oper}{x y:Operand}{t u:TypeId}(h:copyOf o=some (x,y,t,u)):o.op = .call { callee:= .builtin .copy,args:= #[x,y],argTypes:= #[t,u] }:=by
 unfold copyOf at h
 split at h
 ·rename_i c hop
  split at h
  ·rename_i x' y' t' u' h1 h2 h3
   simp only[Option.some.injEq,Prod.mk.injEq]at h
   obtain⟨rfl,rfl,rfl,rfl⟩:=h
   obtain⟨c1,c2,c3⟩:=c
   simp only at h1 h2 h3
   rw[hop,h1]
   congr 2
   ·apply Array.ext';rw[h2]
   apply Array.ext';rw[h3]
  cases h
 cases h
end
section
variable {P:Program}{N:Nat}{env:Env}{ds:List Deferred}{A:AW}{s:List Kt}{Q:Exit→Act→World→Prop}
theorem UU{x y:Code}(J:Act→World→Prop)(hx:G P N env ds A x (.inv J :: s) Q)(hy:∀ a w,J a w→y.wp P (QQ P s Q) a w):G P N env ds A (.seq x y) s Q:=fun a w hs =>
 wp_seq (wp_mono (hx a w hs) fun e a w h=>by
  cases e
  case normal=>exact hy a w h
  all_goals exact h)
variable {ops:Array Oper}{σC:List Ch}{late fuel:Nat}{listed:List Bool}
theorem Oe{X:Type}(env':X→Env)(A':X→AW)(fuel':Nat)(listed':List Bool)(K:∀ x,Wg P N (env' x) ds (A' x) ops σC late fuel' listed' s Q)(tree:(∀ x,Wg P N (env' x) ds (A' x) ops σC late fuel' listed' s Q)→Wg P N env ds A ops σC late fuel listed s Q):Wg P N env ds A ops σC late fuel listed s Q:=tree K
theorem wo_con{i:Nat}(f:FuncId)(args:Array Value)(d:Option Nat)(v:Value)(keep:List Nat)(env':Env)(is:List Nat)(h:(match ops[i]? with | some o=>Vd P env A [] ops [o] | none=>none)=some ([],f,args,d))(hd:Oa N d=true)(hi:Nat.blt i listed.length=true)(hC:picks is A.σ=some σC)
   (hc:∀ w,Sat A w→Calls P f args w fun e w'=>e = .returned v∧Ce (fun _=>False) w w') (K:∀ n,A.n≤n→Wg P N env' ds { A with n:=n } ops σC late fuel (listed.set i true) s Q) (he:LV keep (Ig env d v)=env':=by as_aux_lemma=>kernel_rfl):WO P N env ds A ops σC late fuel listed s Q i :=
 FU [] [] f args d h hd hi Ae fun w hw=>(hc w hw).mono fun e w' ⟨he',hk⟩=>⟨v,{ A with n:=w'.heap.size },he',hw.keeps hk,.inr (fun c hcm=>(hw.keeps hk).all c (DW hC c hcm)),CY keep env' (K _ (Ef hw hk)) he⟩
theorem GZ{i:Nat}(f:FuncId)(args:Array Value)(d:Option Nat)(v:Value)(keep:List Nat)(env':Env)(is:List Nat)(hc:∀ w,Sat A w→Calls P f args w fun e w'=>e = .returned v∧Ce (fun _=>False) w w')(K:∀ n,A.n≤n→Wg P N env' ds { A with n:=n } ops σC late fuel (listed.set i true) s Q)(h:(match ops[i]? with | some o=>Vd P env A [] ops [o] | none=>none)=some ([],f,args,d):=by as_aux_lemma=>kernel_rfl)(hd:Oa N d=true:=by rfl)(hi:Nat.blt i listed.length=true:=by rfl)(hC:picks is A.σ=some σC:=by rfl)(he:LV keep (Ig env d v)=env':=by as_aux_lemma=>kernel_rfl):WO P N env ds A ops σC late fuel listed s Q i:=wo_con f args d v keep env' is h hd hi hC hc K he
theorem MF(is:List Nat)(σ':List Ch)(hn:nodupB is=true)(hp:picks is A.σ=some σ')(h:Wg P N env ds { A with σ:=σ' } ops σC late fuel listed s Q):Wg P N env ds A ops σC late fuel listed s Q:=fun a w hs=>h a w ⟨hs.sz,hs.df,hs.kn,hs.mem.pick is hn hp⟩
end
def Yo(P:Program){α:Type}:Sem α→Option α
 | .pure a=>some a
 | .program k=>Yo P (k P)
 | .mark _ k=>Yo P k
 | _=>none
theorem pureA_run{P:Program}{α:Type}(s:Sem α):∀ {x:α},Yo P s=some x→∀ w,s.run P w = .ok x w:=by
 induction s with
 | pure a=>intro x h w;simp[Yo]at h;subst h;rfl
 | program k ih=>intro x h w;exact ih P h w
 | mark m k ih=>intro x h w;exact ih h w
 | _=>intro x h;simp[Yo]at h
inductive Cst where
 | tk (i:Nat) (c:OC)
 | cl (i:Nat) (v:Value)
abbrev YA:=FuncId×Array Value×Value
def ZH(P:Program)(σC:List Ch):List YA→Prop
 | []=>True
 | (f,args,v) :: r=>(∀ w,Cs σC w→Calls P f args w fun e w'=>e = .returned v∧Ce (fun _=>False) w w')∧ZH P σC r
theorem Cs.ext{σC:List Ch}{W w:World}(h:Cs σC w)(hi:σC[0]? = some (Ak W)):Ext Any W w:=fun b k v _ hv=>Aw hv w (h _ (List.mem_of_getElem? hi))
def takeV(P:Program)(N:Nat)(ops:Array Oper)(σC:List Ch)(w0:World)(env:Env)(c:OC)(o:Oper):Option (List Prop×Value):=match Oa N o.dst,Oc ops env o with
 | true,some false=>some ([],undef)
 | true,some true=>match Ld env o,RU P true (IR env) o ⟨w0,0,σC⟩ c.k with
  | true,some (vs,v,_)=>match c.asv with
   | none=>some (vs,v)
   | some u=>some (vs++[v=u],u)
  | _,_=>none
 | _,_=>none
def callV(P:Program)(ops:Array Oper)(env:Env)(o:Oper):Option (FuncId×Array Value):=match Oc ops env o,Ld env o,Yo P (execOp (IR env) o)with
 | some true,true,some (.enter f args)=>some (f,args)
 | _,_,_=>none
def Zad(d:Nat):Option Nat→Bool
 | none=>true
 | some t => !Nat.beq t d
def UV:Option (Nat×Nat)→List Bool→List Bool
 | none,l=>l
 | some (f,_),l=>l.set f true
def flnot:Option (Nat×Nat)→Option Nat→Bool
 | none,_=>true
 | some (_,d),x=>Zad d x
def flready:Option (Nat×Nat)→Nat→List Nat→Bool
 | none,i,l=>l==[i]
 | some (f,_),i,l => !Nat.beq i f&&(l==[i,f]||l==[f,i])
def tkOk(ops:Array Oper)(late i:Nat)(l:List Bool):Bool:=ahead .any ops late i && !Nat.beq i late&&Region.free .any ops l.toArray i&&(Region.ready .any ops l.toArray).contains i
def OI(P:Program)(N:Nat)(ops:Array Oper)(σC:List Ch)(w0:World)(late:Nat)(fl:Option (Nat×Nat)):List Cst→List Bool→Env→Option (List Prop×List YA×List Bool×Env)
 | [],l,env=>some ([],[],l,env)
 | .tk i c :: r,l,env=>match tkOk ops late i l&&tkOk ops late i (UV fl l),ops[i]? with
  | true,some o=>match takeV P N ops σC w0 env c o,flnot fl o.dst with
   | some (vs,v),true=>match OI P N ops σC w0 late fl r (l.set i true) (Ig env o.dst v)with
    | some (us,x)=>some (vs++us,x)
    | none=>none
   | _,_=>none
  | _,_=>none
 | .cl i v :: r,l,env=>match Nat.blt i l.length && !Nat.beq i late&&flready fl i (Region.ready .any ops l.toArray)&&(Region.ready .any ops (UV fl l).toArray==[i]),ops[i]? with
  | true,some o=>match callV P ops env o,flnot fl o.dst&&Oa N o.dst with
   | some (f,args),true=>match OI P N ops σC w0 late fl r (l.set i true) (Ig env o.dst v)with
    | some (us,cs,x)=>some (us,(f,args,v) :: cs,x)
    | none=>none
   | _,_=>none
  | _,_=>none
theorem Vp{k t:Nat}(h:¬ k=t):Nat.beq k t=false:=by
 cases e:Nat.beq k t with
 | false=>rfl
 | true=>exact absurd (Nat.eq_of_beq_eq_true e) h
theorem SS{d t:Nat}{u:Value}(h:d≠t):∀ {env:Env},look env t=some u→look (Vl env d) t=some u
 | [],hu=>by simp[look]at hu
 | (k,v) :: r,hu=>by
  simp only[look]at hu
  simp only[Vl]
  by_cases hkd:k=d
  ·subst hkd
   rw[Vp h]at hu
   rw[Nat.beq_refl]
   exact SS h (by simpa using hu)
  rw[Vp hkd]
  simp only[cond_false,look]
  by_cases hkt:k=t
  ·subst hkt;rw[Nat.beq_refl]at hu ⊢;exact hu
  rw[Vp hkt]at hu ⊢
  exact SS h (by simpa using hu)
theorem WJ{d:Nat}{env:Env}{dst:Option Nat}{v:Value}(h:look env d=none)(hn:Zad d dst=true):look (Ig env dst v) d=none:=by
 cases dst with
 | none=>exact h
 | some t =>
  simp only[Zad,Bool.not_eq_true']at hn
  simp only[Ig,look,hn,cond_false]
  cases e:look (Vl env t) d with
  | none=>rfl
  | some x=>rw[(Ur e).2]at h;cases h
section
variable {P:Program}{N:Nat}{env:Env}{ds:List Deferred}{A:AW}{ops:Array Oper}{σC:List Ch}{late fuel:Nat}{listed:List Bool}{s:List Kt}{Q:Exit→Act→World→Prop}
def WR(R:Act→Prop)(P:Program)(N:Nat)(env:Env)(ds:List Deferred)(A:AW)(ops:Array Oper)(σC:List Ch)(late fuel:Nat)(listed:List Bool)(s:List Kt)(Q:Exit→Act→World→Prop):Prop :=
 ∀ a w,R a→St N env ds A a w→Closed .any ops listed.toArray→(listed.toArray.getD late false=false→Cs σC w)→Na P .any ops (Quiet (QQ P s Q)) late (Cs σC) fuel listed.toArray a w
theorem TV(l:List Bool)(i:Nat):l.toArray.setIfInBounds i true=(l.set i true).toArray:=by simp
theorem tk_one{R:Act→Prop}{i:Nat}{c:OC}{o:Oper}{vs:List Prop}{v:Value}(hs:Region.noSelect ops=true)(ht:tkOk ops late i listed=true)(hi:ops[i]? = some o)(hv:takeV P N ops σC A.w0 env c o=some (vs,v))(hall:IL vs)
   (hR:∀ a u,R a→R (a.put o.dst u)) (K:WR R P N (Ig env o.dst v) ds A ops σC late fuel (listed.set i true) s Q):WR R P N env ds A ops σC late (fuel+1) listed s Q:=by
 simp only[tkOk,Bool.and_eq_true,Bool.not_eq_true']at ht
 obtain⟨⟨⟨hah,hil0⟩,hfr⟩,hrd⟩:=ht
 intro a w hRa hst hcl hC
 have hil:i≠late:=fun e=>by subst e;rw[Nat.beq_refl]at hil0;cases hil0
 have hrd':i∈Region.ready .any ops listed.toArray:=by simpa using hrd
 have hC0:=hC (Wq hah hi hcl hrd')
 have hQ:∀ v c a w,Quiet (QQ P s Q) (.panic c) (a.put o.dst v) w→Quiet (QQ P s Q) (.panic c) a w:=fun _ _ _ _ h=>ZaZ h
 have hcl':Closed .any ops (listed.set i true).toArray:=by rw[←TV];exact O7 hcl hrd'
 have go:∀ u,YieldsIf P ops (Cs σC) o u a→Na P .any ops (Quiet (QQ P s Q)) late (Cs σC) fuel (listed.set i true).toArray (a.put o.dst u) w→Na P .any ops (Quiet (QQ P s Q)) late (Cs σC) (fuel+1) listed.toArray a w:=by
   intro u hy hw
   exact first (md:= .any) (late:=late) (C:=Cs σC) hah hi (Region.noSelect_spec hs) (hQ u) fuel listed.toArray a w hcl (Region.free_spec hi hfr) hrd' hy hC0 hil (by rw[TV];exact hw)
 unfold takeV at hv
 split at hv
 · rename_i hd hw
   simp only[Option.some.injEq,Prod.mk.injEq]at hv
   obtain⟨rfl,rfl⟩:=hv
   exact go undef (.inr ⟨FN hw hst,rfl⟩) (K _ _ (hR _ _ hRa) (hst.put hst.mem _ hd undef) hcl' (fun _=>hC0))
 · rename_i hd hw
   have hw':=FN hw hst
   split at hv
   · rename_i vs1 v1 A1 hk hx
     have hcg:=Ir hst hk
     have hy:IL vs1→YieldsIf P ops (Cs σC) o v1 a:=fun h1=> .inl ⟨hw',fun w1 hC1=>by rw[hcg];exact opX_read hx h1 hC1⟩
     split at hv
     · simp only[Option.some.injEq,Prod.mk.injEq]at hv
       obtain⟨rfl,rfl⟩:=hv
       exact go _ (hy hall) (K _ _ (hR _ _ hRa) (hst.put hst.mem _ hd _) hcl' (fun _=>hC0))
     · simp only[Option.some.injEq,Prod.mk.injEq]at hv
       obtain⟨rfl,rfl⟩:=hv
       rw[Eo]at hall
       obtain⟨h1,h2, -⟩:=hall
       have h2':v1=_:=h2
       subst h2'
       exact go _ (hy h1) (K _ _ (hR _ _ hRa) (hst.put hst.mem _ hd _) hcl' (fun _=>hC0))
   · cases hv
 · cases hv
theorem cl_op{R:Act→Prop}{i n:Nat}{o:Oper}{v:Value}{f:FuncId}{args:Array Value}{a:Act}{w:World}{σ:List Ch}(hi:ops[i]? = some o)(hc:callV P ops env o=some (f,args))(hd:Oa N o.dst=true)(hck:∀ w,Cs σC w→Calls P f args w fun e w'=>e = .returned v∧Ce (fun _=>False) w w')
   (hsub:∀ c∈σC,c∈σ) (hRa:R a) (hR:∀ a u,R a→R (a.put o.dst u)) (hst:St N env ds ⟨A.w0,n,σ⟩ a w) (hcl:Closed .any ops (listed.set i true).toArray)
   (K:∀ n',n≤n'→WR R P N (Ig env o.dst v) ds ⟨A.w0,n',σ⟩ ops σC late fuel (listed.set i true) s Q) :
   wpOp P ops (Quiet (QQ P s Q)) i (fun a' w'=>((listed.set i true).toArray.getD late false=false→Cs σC w')∧Na P .any ops (Quiet (QQ P s Q)) late (Cs σC) fuel (listed.set i true).toArray a' w') a w:=by
 unfold callV at hc
 split at hc
 · rename_i f' args' x hw hk hr
   simp only[Option.some.injEq,Prod.mk.injEq]at hc
   obtain⟨rfl,rfl⟩:=hc
   unfold wpOp
   simp only[hi]
   rw[if_pos (FN hw hst)]
   left
   unfold Oper.wp
   rw[Ir hst hk,pureA_run _ hr w]
   refine(hck w (fun c hc=>hst.mem.all c (hsub c hc))).mono ?_
   rintro e w' ⟨rfl,hkp⟩
   have hs1:=hst.mem.keeps hkp
   have hcs:Cs σC w':=fun c hc=>hs1.all c (hsub c hc)
   exact⟨fun _=>hcs,K _ (Ef hst.mem hkp) _ _ (hR _ _ hRa) (hst.put hs1 _ hd _) hcl (fun _=>hcs)⟩
 · cases hc
theorem flset_set{fl:Option (Nat×Nat)}{l:List Bool}{i:Nat}:(UV fl l).set i true=UV fl (l.set i true):=by
 cases fl with
 | none=>rfl
 | some x =>
  obtain⟨f,d⟩:=x
  show(l.set f true).set i true=(l.set i true).set f true
  by_cases h:f=i
  ·subst h;rfl
  exact List.set_comm _ _ h
theorem chain_T{R:Act→Prop}{fl:Option (Nat×Nat)}(hs:Region.noSelect ops=true){σ:List Ch}{w0:World}(hsub:∀ c∈σC,c∈σ)(hR:∀ a dst u,flnot fl dst=true→R a→R (a.put dst u)){m:Nat} :
   ∀ (steps:List Cst) (l:List Bool) (env:Env) (vs:List Prop) (cs:List YA) (l':List Bool) (env':Env) (n:Nat),OI P N ops σC w0 late fl steps l env=some (vs,cs,l',env')→IL vs→ZH P σC cs →
     (∀ n',n≤n'→WR R P N env' ds ⟨w0,n',σ⟩ ops σC late m (UV fl l') s Q)→WR R P N env ds ⟨w0,n,σ⟩ ops σC late (m+steps.length) (UV fl l) s Q:=by
 intro steps
 induction steps with
 | nil =>
   intro l env vs cs l' env' n h hv hc K
   simp only[OI,Option.some.injEq,Prod.mk.injEq]at h
   obtain⟨-, -,rfl,rfl⟩:=h
   exact K n (Nat.le_refl _)
 | cons x r ih =>
   intro l env vs cs l' env' n h hv hc K
   cases x with
   | tk i c =>
     simp only[OI]at h
     split at h
     · rename_i o hok hi
       rw[Bool.and_eq_true]at hok
       split at h
       · rename_i vs1 v hx hfl
         split at h
         · rename_i us y hy
           obtain⟨cs1,l1,e1⟩:=y
           simp only[Option.some.injEq,Prod.mk.injEq]at h
           obtain⟨rfl,rfl,rfl,rfl⟩:=h
           rw[Eo]at hv
           have:=ih (l.set i true) _ us _ _ _ n hy hv.2 hc K
           refine tk_one (A:=⟨w0,n,σ⟩) (fuel:=m+r.length) hs hok.2 hi hx hv.1 (fun a u=>hR a _ u hfl) ?_
           rw[flset_set];exact this
         · cases h
       · cases h
     · cases h
   | cl i v =>
     simp only[OI]at h
     split at h
     · rename_i o hok hi
       simp only[Bool.and_eq_true]at hok
       obtain⟨⟨⟨hlt,hlate⟩,hrd0⟩,hrd⟩:=hok
       split at h
       · rename_i f args hx hfl
         rw[Bool.and_eq_true]at hfl
         split at h
         · rename_i us cs1 y hy
           obtain⟨l1,e1⟩:=y
           simp only[Option.some.injEq,Prod.mk.injEq]at h
           obtain⟨rfl,rfl,rfl,rfl⟩:=h
           obtain⟨hc1,hc2⟩:=hc
           intro a w hRa hst hcl hC
           have hr:Region.ready .any ops (UV fl l).toArray=[i]:=by simpa using hrd
           refine⟨fun h0=>(by rw[hr]at h0;cases h0),fun j hj => ?_⟩
           have hcl':Closed .any ops ((UV fl l).set j true).toArray:=by rw[←TV];exact O7 hcl hj
           rw[hr]at hj
           obtain rfl:=List.mem_singleton.1 hj
           rw[TV]
           refine cl_op (A:=⟨w0,n,σ⟩) (R:=R) hi hx hfl.2 hc1 hsub hRa (fun a u=>hR a _ u hfl.1) hst hcl' (fun n' hn' => ?_)
           rw[flset_set]
           exact ih (l.set j true) _ us _ _ _ n' hy hv hc2 (fun n2 hn2=>K n2 (Nat.le_trans hn' hn2))
         · cases h
       · cases h
     · cases h
theorem chain_S{f d:Nat}{of_:Oper}{obj:Obj}(hs:Region.noSelect ops=true){σ:List Ch}{w0:World}(hsub:∀ c∈σC,c∈σ)(hof:ops[f]? = some of_)(hod:of_.dst=some d)(hdN:Nat.blt d N=true)(hog:of_.guard=none)(hfl:Nat.beq f late=false)
   (hop:∀ (n:Nat) (ρ:Operand→Value),RU P false ρ of_ ⟨w0,n,σ⟩ (.auto [])=some ([],.pointer (some ⟨n,0,none⟩),⟨w0,n+1,σ++[.blk n obj true]⟩)) {m:Nat} :
   ∀ (steps:List Cst) (l:List Bool) (env:Env) (vs:List Prop) (cs:List YA) (l':List Bool) (env':Env) (n:Nat),look env d=none→OI P N ops σC w0 late (some (f,d)) steps l env=some (vs,cs,l',env')→IL vs→ZH P σC cs →
     (∀ n' b,n≤n'→n≤b→Wg P N (Ig env' (some d) (.pointer (some ⟨b,0,none⟩))) ds ⟨w0,n',σ++[.blk b obj true]⟩ ops σC late m (l'.set f true) s Q) →
     (∀ n',n≤n'→Wg P N env' ds ⟨w0,n',σ⟩ ops σC late (m+1) l' s Q)→Wg P N env ds ⟨w0,n,σ⟩ ops σC late (m+1+steps.length) l s Q:=by
 have toR:∀ {env:Env} {A:AW} {fuel:Nat} {l:List Bool},Wg P N env ds A ops σC late fuel l s Q→WR (fun _=>True) P N env ds A ops σC late fuel l s Q:=fun h a w _=>h a w
 intro steps
 induction steps with
 | nil =>
   intro l env vs cs l' env' n hnew h hv hc KT KS
   simp only[OI,Option.some.injEq,Prod.mk.injEq]at h
   obtain⟨-, -,rfl,rfl⟩:=h
   exact KS n (Nat.le_refl _)
 | cons x r ih =>
   intro l env vs cs l' env' n hnew h hv hc KT KS
   have h00:=h
   cases x with
   | tk i c =>
     simp only[OI]at h
     split at h
     · rename_i o hok hi
       rw[Bool.and_eq_true]at hok
       split at h
       · rename_i vs1 v hx hfl
         split at h
         · rename_i us y hy
           obtain⟨cs1,l1,e1⟩:=y
           simp only[Option.some.injEq,Prod.mk.injEq]at h
           obtain⟨rfl,rfl,rfl,rfl⟩:=h
           rw[Eo]at hv
           have:=ih (l.set i true) _ us _ _ _ n (WJ hnew hfl) hy hv.2 hc KT KS
           exact fun a w hst hcl hC=>tk_one (R:=fun _=>True) (A:=⟨w0,n,σ⟩) (fuel:=m+1+r.length) hs hok.1 hi hx hv.1 (fun a u h=>h) (toR this) a w Ae hst hcl hC
         · cases h
       · cases h
     · cases h
   | cl i v =>
     simp only[OI]at h
     split at h
     · rename_i o hok hi
       simp only[Bool.and_eq_true]at hok
       obtain⟨⟨⟨hlt,hlate⟩,hrd0⟩,hrd⟩:=hok
       split at h
       · rename_i g args hx hfl'
         rw[Bool.and_eq_true]at hfl'
         split at h
         · rename_i us cs1 y hy
           obtain⟨l1,e1⟩:=y
           simp only[Option.some.injEq,Prod.mk.injEq]at h
           obtain⟨rfl,rfl,rfl,rfl⟩:=h
           have hcc:=hc
           obtain⟨hc1,hc2⟩:=hc
           intro a w hst hcl hC
           simp only[flready,Bool.and_eq_true,Bool.or_eq_true]at hrd0
           have hmem:∀ j∈Region.ready .any ops l.toArray,j=i∨j=f:=by
             intro j hj
             rcases hrd0.2 with e | e
             · rw[show Region.ready .any ops l.toArray=[i,f]by simpa using e]at hj;simpa using hj
             · rw[show Region.ready .any ops l.toArray=[f,i]by simpa using e]at hj
               rcases List.mem_cons.1 hj with rfl | hj
               · exact .inr rfl
               · exact .inl (List.mem_singleton.1 hj)
           have hne:Region.ready .any ops l.toArray≠[]:=by
             rcases hrd0.2 with e | e
             · rw[show Region.ready .any ops l.toArray=[i,f]by simpa using e];simp
             · rw[show Region.ready .any ops l.toArray=[f,i]by simpa using e];simp
           refine⟨fun h0=>absurd h0 hne,fun j hj => ?_⟩
           have hcl':Closed .any ops (l.set j true).toArray:=by rw[←TV];exact O7 hcl hj
           rw[TV]
           rcases hmem j hj with rfl | rfl
           · refine cl_op (A:=⟨w0,n,σ⟩) (R:=fun _=>True) hi hx hfl'.2 hc1 hsub Ae (fun _ _ h=>h) hst hcl' (fun n' hn' => ?_)
             exact toR (ih (l.set j true) _ us _ _ _ n' (WJ hnew hfl'.1) hy hv hc2 (fun n2 b hn2 hb=>KT n2 b (Nat.le_trans hn' hn2) (Nat.le_trans hn' hb)) (fun n2 hn2=>KS n2 (Nat.le_trans hn' hn2)))
           · obtain⟨w',hyl,hsat, -⟩:=Vb (hop n a.eval) Ae hst.mem
             have hlN:Oa N of_.dst=true:=by rw[hod];exact hdN
             have hst':=hst.put hsat of_.dst hlN (.pointer (some ⟨n,0,none⟩))
             have hcs:Cs σC w':=fun c hc=>hsat.all c (List.mem_append_left _ (hsub c hc))
             have hT:=chain_T (R:=fun a=>a.tmps.size=N∧a.tmps.getD d undef = .pointer (some ⟨n,0,none⟩)) (fl:=some (j,d)) (ds:=ds) (s:=s) (Q:=Q) (m:=m) hs (σ:=σ++[.blk n obj true]) (w0:=w0) (fun c hc=>List.mem_append_left _ (hsub c hc)) (by
               intro a dst u hnd hRa
               cases dst with
               | none=>exact hRa
               | some t =>
                 simp only[flnot,Zad,Bool.not_eq_true']at hnd
                 have htd:t≠d:=fun e=>by subst e;rw[Nat.beq_refl]at hnd;cases hnd
                 refine⟨by simp[Act.put,hRa.1], ?_⟩
                 rw[←hRa.2]
                 simp only[Act.put,Zc]
                 rw[if_neg (by intro e;exact htd (by first | exact e | exact e.1 | exact e.symm | exact e.1.symm))]) (.cl i v :: r) l env us ((g,args,v) :: cs1) l1 e1 (n+1) h00 hv hcc (fun n' hn' a' w2 hRa hst2 hcl2 hC2=>by
                 refine KT n' n (by omega) (Nat.le_refl _) a' w2 ⟨hst2.sz,hst2.df,fun t u hu => ?_,hst2.mem⟩ hcl2 hC2
                 simp only[Ig,look]at hu
                 by_cases htd:d=t
                 · subst htd
                   rw[Nat.beq_refl]at hu
                   simp only[cond_true,Option.some.injEq]at hu
                   rw[←hu];exact hRa.2
                 · rw[Vp htd]at hu
                   exact hst2.kn t u (Ur hu).2)
             have hRa:(a.put of_.dst (.pointer (some ⟨n,0,none⟩))).tmps.size=N∧(a.put of_.dst (.pointer (some ⟨n,0,none⟩))).tmps.getD d undef = .pointer (some ⟨n,0,none⟩):=⟨hst'.sz,hst'.kn d _ (by rw[hod];simp[Ig,look])⟩
             have hst2:St N env ds ⟨w0,n+1,σ++[.blk n obj true]⟩ (a.put of_.dst (.pointer (some ⟨n,0,none⟩))) w':=⟨hst'.sz,hst'.df,fun t u hu=>by
               by_cases htd:d=t
               · subst htd
                 exfalso
                 rw[hnew]at hu;cases hu
               · exact hst'.kn t u (by rw[hod];simp only[Ig,look];rw[Vp htd];simpa using SS htd hu),hst'.mem⟩
             have hfin:=hT _ _ hRa hst2 hcl' (fun _=>hcs)
             rw[show m+(Cst.cl i v :: r).length=m+1+r.length from by simp only[List.length_cons];omega]at hfin
             unfold wpOp
             simp only[hof]
             rw[if_pos (FN (b:=true) (by unfold Oc;rw[hog]) hst)]
             left
             unfold Oper.wp
             rcases hyl with hy | ⟨hy,he⟩
             · rw[hy];exact⟨fun _=>hcs,hfin⟩
             · cases he
         · cases h
       · cases h
     · cases h
theorem picks_sub{is:List Nat}{l cs:List Ch}(h:picks is l=some cs):∀ c∈cs,c∈l:=DW h
theorem P6(f d:Nat)(steps:List Cst)(keep:List Nat)(cs:List YA)(l':List Bool)(vs:List Prop)(env':Env)(obj:Obj)(cix:List Nat)
   (hv:IL vs) (hc:ZH P σC cs)
   (KT:∀ x:{p:Nat×Nat // A.n≤p.1∧A.n≤p.2},Wg P N (Ig env' (some d) (.pointer (some ⟨x.1.2,0,none⟩))) ds ⟨A.w0,x.1.1,A.σ++[.blk x.1.2 obj true]⟩ ops σC late (fuel - steps.length - 1) (l'.set f true) s Q)
   (KS:(∀ x:{p:Nat×Nat // A.n≤p.1∧A.n≤p.2},Wg P N (Ig env' (some d) (.pointer (some ⟨x.1.2,0,none⟩))) ds ⟨A.w0,x.1.1,A.σ++[.blk x.1.2 obj true]⟩ ops σC late (fuel - steps.length - 1) (l'.set f true) s Q)→∀ n,A.n≤n→Wg P N env' ds ⟨A.w0,n,A.σ⟩ ops σC late (fuel - steps.length) l' s Q)
   (h:(match OI P N ops σC A.w0 late (some (f,d)) steps listed env with | some (vs,cs,l,e)=>some (vs,cs,l,LV keep e) | none=>none)=some (vs,cs,l',env'):=by as_aux_lemma=>kernel_rfl)
   (hop:∀ (n:Nat) (ρ:Operand→Value),(match ops[f]? with | some o=>RU P false ρ o ⟨A.w0,n,A.σ⟩ (.auto []) | none=>none)=some ([],.pointer (some ⟨n,0,none⟩),⟨A.w0,n+1,A.σ++[.blk n obj true]⟩):=by(intros;as_aux_lemma=>kernel_rfl))
   (ho:(match ops[f]? with | some o=>(o.dst==some d)&&o.guard.isNone&&Nat.blt d N && !Nat.beq f late&&(look env d).isNone | none=>false)=true:=by as_aux_lemma=>kernel_rfl)
   (hC:picks cix A.σ=some σC:=by rfl) (hf:Nat.ble (steps.length+1) fuel=true:=by as_aux_lemma=>kernel_rfl) (hs:Region.noSelect ops=true:=by as_aux_lemma=>kernel_rfl):Wg P N env ds A ops σC late fuel listed s Q:=by
 split at h
 · rename_i vs1 cs1 l1 e1 h1
   simp only[Option.some.injEq,Prod.mk.injEq]at h
   obtain⟨rfl,rfl,rfl,rfl⟩:=h
   split at ho
   · rename_i of_ hof
     simp only[hof,Bool.and_eq_true,beq_iff_eq,Bool.not_eq_true',Option.isNone_iff_eq_none]at ho hop
     obtain⟨⟨⟨⟨hod,hog⟩,hdN⟩,hfl⟩,hnew⟩:=ho
     have hle:=Nat.le_of_ble_eq_true hf
     obtain⟨w0,n,σ⟩:=A
     have key:=chain_S (m:=fuel - steps.length - 1) (ds:=ds) (s:=s) (Q:=Q) hs (picks_sub hC) hof hod hdN hog hfl hop steps listed env _ _ _ _ n hnew h1 hv hc (fun n' b hn hb a w hst hcl hcc=>KT ⟨(n',b),hn,hb⟩ a w (hst.sub (fun t v ht=>by
       simp only[Ig,look]at ht ⊢
       by_cases e:d=t
       · subst e;rw[Nat.beq_refl]at ht ⊢;exact ht
       · rw[Vp e]at ht ⊢
         exact SS e (KR (Ur ht).2))) hcl hcc) (fun n' hn a w hst hcl hcc=>by
       have:=KS KT n' hn a w (hst.sub (fun t v=>KR)) hcl hcc
       rwa [show fuel - steps.length=fuel - steps.length - 1+1 from by omega]at this)
     rwa [show fuel - steps.length - 1+1+steps.length=fuel from by omega]at key
   · cases ho
 · cases h
theorem Ll(steps:List Cst)(keep:List Nat)(cs:List YA)(l':List Bool)(vs:List Prop)(env':Env)(cix:List Nat)
   (hv:IL vs) (hc:ZH P σC cs) (K:∀ n,A.n≤n→Wg P N env' ds ⟨A.w0,n,A.σ⟩ ops σC late (fuel - steps.length) l' s Q)
   (h:(match OI P N ops σC A.w0 late none steps listed env with | some (vs,cs,l,e)=>some (vs,cs,l,LV keep e) | none=>none)=some (vs,cs,l',env'):=by as_aux_lemma=>kernel_rfl)
   (hC:picks cix A.σ=some σC:=by rfl) (hf:Nat.ble steps.length fuel=true:=by as_aux_lemma=>kernel_rfl) (hs:Region.noSelect ops=true:=by as_aux_lemma=>kernel_rfl):Wg P N env ds A ops σC late fuel listed s Q:=by
 split at h
 · rename_i vs1 cs1 l1 e1 h1
   simp only[Option.some.injEq,Prod.mk.injEq]at h
   obtain⟨rfl,rfl,rfl,rfl⟩:=h
   have hle:=Nat.le_of_ble_eq_true hf
   obtain⟨w0,n,σ⟩:=A
   have key:=chain_T (R:=fun _=>True) (m:=fuel - steps.length) (ds:=ds) (s:=s) (Q:=Q) (fl:=none) hs (picks_sub hC) (fun _ _ _ _ h=>h) steps listed env _ _ _ _ n h1 hv hc (fun n' hn a w _ hst hcl hcc=>K n' hn a w (hst.sub (fun t v=>KR)) hcl hcc)
   rw[show fuel - steps.length+steps.length=fuel from by omega]at key
   exact fun a w=>key a w trivial
 · cases h
end
end Go.Proofs.YtlccogilgegnfaaDoor.Eng
namespace Go.Proofs.YtlccogilgegnfaaDoor.Ad
open Go Go.Proofs.YtlccogilgegnfaaDoor.Eng Go.Proofs.YtlccogilgegnfaaDoor.Mem Go.Proofs.YtlccogilgegnfaaDoor.Ly
set_option linter.unusedSimpArgs false
set_option linter.unusedVariables false
set_option maxRecDepth 100000
def Js(w:World):Prop:=(∀ (k:Nat) (v:Value),[Value.int .i64 (-1),.int .i64 (-1)][k]? = some v→w.cell? ⟨1,0+k,none⟩=some v)∧(∀ (k:Nat) (v:Value),[Value.int .i64 0,.int .i64 0,.int .i64 0][k]? = some v→w.cell? ⟨0,0+k,none⟩=some v)
theorem Js.ext{w w':World}(h:Js w)(he:Ext Any w w'):Js w':=⟨fun k v hk=>he _ _ _ Ae (h.1 k v hk),fun k v hk=>he _ _ _ Ae (h.2 k v hk)⟩
def win(n a b:Int):Bool:=decide (a≤n)&&decide (n≤b)
theorem Dz{n a b:Int}(h:win n a b=true):a≤n∧n≤b:=by
 unfold win at h;simpa using h
theorem FI{n a b:Int}(h:¬ win n a b=true):¬ (a≤n∧n≤b):=fun x=>h (by unfold win;simpa using x)
theorem E8{A:AW}{w:World}(h:Sat A w){i b:Nat}{t:TypeId}{cs:Array Value}(xs:List Am)(hi:A.σ[i]? = some (.blk b (.cells cs t (0,0)) true):=by rfl)(hx:xs.flatMap Am.cells=cs.toList:=by rfl)(hl:cs.size=xs.length*3:=by rfl)(hm:Nat.ble xs.length 1000=true:=by rfl):Nh Am.cells 3 (fun _ _ _=>True) Any w ⟨some ⟨b,0,none⟩,xs.length,xs⟩:=by
 have hle:=Nat.le_of_ble_eq_true hm
 have h1:=h.blkrow hi hx hl (Nat.zero_le b) (Nat.le_trans hle (by decide))
 have hlt:i<A.σ.length:=(List.getElem?_eq_some_iff.1 hi).1
 have h0:w.ownsRow 0 t 3 (.slice (some ⟨b,0,none⟩) xs.length xs.length) xs.length (xs.flatMap Am.cells):=h1.at (i:=i) (c:=BV 0 t 3 Am.cells (.slice (some ⟨b,0,none⟩) xs.length xs.length) xs) (by show(A.σ.set i _)[i]? = _;rw[List.getElem?_set_self hlt])
 have h2:=Tz (cells:=Am.cells) (sz:=3) (fun _=>rfl) h0 (Nat.le_trans hle (by decide))
 refine⟨⟨h2.len,h2.le,fun hne => ?_⟩,fun _ _=>trivial⟩
 obtain⟨b',off,ha, -,hh⟩:=h2.cells hne
 exact⟨b',off,ha,Ae,hh⟩
def AQ:Am:=⟨0,⟨0,0⟩⟩
def Af(h:Bool)(e:Int)(w:L8):Am:=bif h then AQ else⟨e,w⟩
theorem EP{p:Nat→Prop}{k:Nat}(h:∀ i,i<k→p i)(hk:p k):∀ i,i<k+1→p i:=fun i hi=>by
 by_cases e:i=k
 ·subst e;exact hk
 exact h i (by omega)
def AY:List Am→Am
 | []=>AQ
 | x :: r=>if x=AQ then AY r else x
theorem G9{x:Am}:(x.e==0&&((x.Ag.First==0&&(x.Ag.Second==0&&true))&&true))=true↔x=AQ:=by
 obtain⟨e,⟨a,b⟩⟩:=x
 simp[AQ]
theorem ZaI{xs:List Am}(h:∀ i,i<xs.length→gd xs i=AQ):AY xs=AQ:=by
 induction xs with
 | nil=>rfl
 | cons x r ih =>
  have h0:x=AQ:=h 0 (by simp)
  unfold AY
  rw[if_pos h0]
  exact ih fun i hi=>h (i+1) (by simp;omega)
theorem NM{xs:List Am}{k:Nat}(hk:k<xs.length)(h:∀ i,i<k→gd xs i=AQ)(hn:gd xs k≠AQ):AY xs=gd xs k:=by
 induction xs generalizing k with
 | nil=>simp at hk
 | cons x r ih =>
  unfold AY
  cases k with
  | zero=>rw[if_neg (show x≠AQ from hn)];rfl
  | succ k =>
   rw[if_pos (show x=AQ from h 0 (by omega))]
   exact ih (by simp at hk;omega) (fun i hi=>h (i+1) (by omega)) hn
theorem BZ(w:World)(n a b:Int):Calls Tryd.prog 64 #[.int .i64 n,.int .i64 a,.int .i64 b] w fun e w'=>e = .returned (.bool (win n a b))∧Ce (fun _=>False) w w':=by
 obtain⟨z,hz⟩:∃ z,z=w.heap.size:=⟨_,rfl⟩
 refine Bf (args:=[i6 n,i6 a,i6 b]) 15 ⟨w,z,[(Ak w)]⟩ Tryd.func64 rfl (by kernel_rfl) (by kernel_rfl) (Ed hz) ?_
 refine Di [0,1,2] [(0,i6 n),(1,i6 a),(2,i6 b)] ?_
 refine Au 5 0 [] [[o0]] [] [(0,i6 n),(1,i6 a),(2,i6 b)] rfl Ae ?_
 by_cases h1:(n:Int)<a
 ·refine Au 4 0 [] [[o0,o0,oF,o0,o0,o0]] [BF ((n:Int)≥a)] [(6,.bool false)] rfl ⟨bf,Ae⟩ ?_
  refine Az [] [] (.bool false) Ae ?_
  intro w2 hw2
  refine⟨congrArg Ending.returned (?_:Value.bool false = .bool (win n a b)),AB hw2⟩
  unfold win;congr 1;simp;omega
 by_cases h3:(b:Int)<n
 ·refine Au 4 0 [] [[o0,o0,oT,o0,o0,o0,oF,o0,o0]] [BT ((n:Int)≥a),BF ((n:Int)≤b)] [(6,.bool false)] rfl ⟨bt,bf,Ae⟩ ?_
  refine Az [] [] (.bool false) Ae ?_
  intro w4 hw4
  refine⟨congrArg Ending.returned (?_:Value.bool false = .bool (win n a b)),AB hw4⟩
  unfold win;congr 1;simp;omega
 refine Au 4 0 [] [[o0,o0,oT,o0,o0,o0,oT,o0,o0]] [BT ((n:Int)≥a),BT ((n:Int)≤b)] [(6,.bool true)] rfl ⟨bt,bt,Ae⟩ ?_
 refine Az [] [] (.bool true) Ae ?_
 intro w5 hw5
 refine⟨congrArg Ending.returned (?_:Value.bool true = .bool (win n a b)),AB hw5⟩
 unfold win;congr 1;simp;omega
theorem Bo(w:World)(hL:Js w)(h:Bool)(n a b:Int):Calls Tryd.prog 63 #[.bool h,.int .i64 n,.agg #[.int .i64 a,.int .i64 b]] w fun e w'=>e = .returned (.agg (Am.arr (Af h n ⟨a,b⟩)))∧Ce (fun _=>False) w w':=by
 obtain⟨z,hz⟩:∃ z,z=w.heap.size:=⟨_,rfl⟩
 refine Bf (args:=[.bool h,i6 n,.agg #[i6 a,i6 b]]) 12 ⟨w,z,[(Ak w)]⟩ Tryd.func63 rfl (by kernel_rfl) (by kernel_rfl) (Ed hz) ?_
 refine Di [0,1,2] [(0,.bool h),(1,i6 n),(2,.agg #[i6 a,i6 b])] ?_
 refine q_c 9 0 [] [[o0,o0],[o0]] [] [(1,i6 n),(5,pt z),(6,pt (z+1)),(7,.bool h)] ⟨w,z+2,[(Ak w),(bk z #[i6 a,i6 b] 108),(bk (z+1) #[i6 0,i6 0,i6 0] 132)]⟩ rfl Ae ?_
 by_cases h1:h=true
 ·refine Au 6 0 [3] [[(oa [.via 0 (i6 0),.via 0 (i6 0),.via 0 (i6 0)]),(an 3 2)]] [Value.bool h=Value.bool true,Old w 0 0 (i6 0),Old w 0 1 (i6 0),Old w 0 2 (i6 0),Qb (z+1),Qb (z+1),Qb (z+1)] [(6,pt (z+1))] rfl ⟨(congrArg Value.bool h1),Aw (hL.2 0 _ rfl),Aw (hL.2 1 _ rfl),Aw (hL.2 2 _ rfl),rfl,rfl,rfl,Ae⟩ ?_
  refine Az [.at 2,.at 2,.at 2] [Qb (z+1),Qb (z+1),Qb (z+1)] (.agg #[i6 0,i6 0,i6 0]) ⟨rfl,rfl,rfl,Ae⟩ ?_
  intro w2 hw2
  refine⟨congrArg Ending.returned (?_:Value.agg #[i6 0,i6 0,i6 0] = .agg (Am.arr (Af h n ⟨a,b⟩))),AB hw2⟩
  unfold Af AQ;cases h <;> first | rfl | contradiction
 refine q_c 8 0 [2] [[o0,(an 2 1),o0,(an 3 2)]] [Value.bool h=Value.bool false,Qb z,Qb z,Qb (z+1),Qb (z+1),Qb (z+1)] [(6,pt (z+1))] ⟨w,z+2,[(Ak w),(bk z #[i6 a,i6 b] 108),(bk (z+1) #[i6 n,i6 a,i6 b] 132)]⟩ rfl ⟨(congrArg Value.bool (Bool.eq_false_iff.2 h1)),rfl,rfl,rfl,rfl,rfl,Ae⟩ ?_
 refine Az [.at 2,.at 2,.at 2] [Qb (z+1),Qb (z+1),Qb (z+1)] (.agg #[i6 n,i6 a,i6 b]) ⟨rfl,rfl,rfl,Ae⟩ ?_
 intro w3 hw3
 refine⟨congrArg Ending.returned (?_:Value.agg #[i6 n,i6 a,i6 b] = .agg (Am.arr (Af h n ⟨a,b⟩))),AB hw3⟩
 unfold Af AQ;cases h <;> first | rfl | contradiction
theorem D6(w:World)(n:Int):Calls Tryd.prog 89 #[.int .i64 n] w fun e w'=>e = .returned (.agg #[.int .i64 n,.int .i64 (-1)])∧Ce (fun _=>False) w w':=by
 obtain⟨z,hz⟩:∃ z,z=w.heap.size:=⟨_,rfl⟩
 refine Bf (args:=[i6 n]) 5 ⟨w,z,[(Ak w)]⟩ Tryd.func89 rfl (by kernel_rfl) (by kernel_rfl) (Ed hz) ?_
 refine Di [0] [(0,i6 n)] ?_
 refine q_c 9 0 [] [[o0],[o0,o0,(an 2 1)]] [Qb z,Qb z] [(2,pt z)] ⟨w,z+1,[(Ak w),(bk z #[i6 n,i6 (-1)] 108)]⟩ rfl ⟨rfl,rfl,Ae⟩ ?_
 refine Az [.at 1,.at 1] [Qb z,Qb z] (.agg #[i6 n,i6 (-1)]) ⟨rfl,rfl,Ae⟩ ?_
 intro w1 hw1
 refine⟨congrArg Ending.returned (?_:Value.agg #[i6 n,i6 (-1)] = .agg #[i6 n,i6 (-1)]),AB hw1⟩
 rfl
theorem G7(w:World)(n m:Int):Calls Tryd.prog 92 #[.int .i64 n,.int .i64 m] w fun e w'=>e = .returned (.agg #[.int .i64 n,.int .i64 m])∧Ce (fun _=>False) w w':=by
 obtain⟨z,hz⟩:∃ z,z=w.heap.size:=⟨_,rfl⟩
 refine Bf (args:=[i6 n,i6 m]) 8 ⟨w,z,[(Ak w)]⟩ Tryd.func92 rfl (by kernel_rfl) (by kernel_rfl) (Ed hz) ?_
 refine Di [0,1] [(0,i6 n),(1,i6 m)] ?_
 refine q_c 9 0 [] [[o0],[o0,o0,o0,(an 2 1)]] [Qb z,Qb z] [(4,pt z)] ⟨w,z+1,[(Ak w),(bk z #[i6 n,i6 m] 108)]⟩ rfl ⟨rfl,rfl,Ae⟩ ?_
 refine Az [.at 1,.at 1] [Qb z,Qb z] (.agg #[i6 n,i6 m]) ⟨rfl,rfl,Ae⟩ ?_
 intro w1 hw1
 refine⟨congrArg Ending.returned (?_:Value.agg #[i6 n,i6 m] = .agg #[i6 n,i6 m]),AB hw1⟩
 rfl
def meet(a m b o:Int):Bool:=decide (a<b+o)&&decide (b<a+m)
theorem TM(w:World)(a m b o:Int)(h1 : -4611686018427387904≤a∧a≤4611686018427387903)(h2 : -4611686018427387904≤m∧m≤4611686018427387903)(h3 : -4611686018427387904≤b∧b≤4611686018427387903)(h4 : -4611686018427387904≤o∧o≤4611686018427387903):Calls Tryd.prog 95 #[.int .i64 a,.int .i64 m,.int .i64 b,.int .i64 o] w fun e w'=>e = .returned (.bool (meet a m b o))∧Ce (fun _=>False) w w':=by
 obtain⟨z,hz⟩:∃ z,z=w.heap.size:=⟨_,rfl⟩
 refine Bf (args:=[i6 a,i6 m,i6 b,i6 o]) 21 ⟨w,z,[(Ak w)]⟩ Tryd.func95 rfl (by kernel_rfl) (by kernel_rfl) (Ed hz) ?_
 refine Di [0,1,2,3] [(0,i6 a),(1,i6 m),(2,i6 b),(3,i6 o)] ?_
 refine Au 5 0 [] [[o0]] [] [(0,i6 a),(1,i6 m),(2,i6 b),(3,i6 o)] rfl Ae ?_
 by_cases h1:(a:Int)<b+o
 ·by_cases h2:(b:Int)<a+m
  ·refine Au 4 0 [] [[o0,o0,o0,(ov (i6 (b+o))),oT,o0,o0,o0,o0,(ov (i6 (a+m))),oT,o0,o0]] [Wr ((b:Int)+o) (b+o),BT ((a:Int)<(b+o)),Wr ((a:Int)+m) (a+m),BT ((b:Int)<(a+m))] [(8,.bool true)] rfl ⟨BP,bt,BP,bt,Ae⟩ ?_
   refine Az [] [] (.bool true) Ae ?_
   intro w3 hw3
   refine⟨congrArg Ending.returned (?_:Value.bool true = .bool (meet a m b o)),AB hw3⟩
   unfold meet;congr 1;simp;omega
  refine Au 4 0 [] [[o0,o0,o0,(ov (i6 (b+o))),oT,o0,o0,o0,o0,(ov (i6 (a+m))),oF,o0,o0]] [Wr ((b:Int)+o) (b+o),BT ((a:Int)<(b+o)),Wr ((a:Int)+m) (a+m),BF ((b:Int)<(a+m))] [(8,.bool false)] rfl ⟨BP,bt,BP,bf,Ae⟩ ?_
  refine Az [] [] (.bool false) Ae ?_
  intro w4 hw4
  refine⟨congrArg Ending.returned (?_:Value.bool false = .bool (meet a m b o)),AB hw4⟩
  unfold meet;congr 1;simp;omega
 refine Au 4 0 [] [[o0,o0,o0,(ov (i6 (b+o))),oF,o0,o0,o0]] [Wr ((b:Int)+o) (b+o),BF ((a:Int)<(b+o))] [(8,.bool false)] rfl ⟨BP,bf,Ae⟩ ?_
 refine Az [] [] (.bool false) Ae ?_
 intro w5 hw5
 refine⟨congrArg Ending.returned (?_:Value.bool false = .bool (meet a m b o)),AB hw5⟩
 unfold meet;congr 1;simp;omega
section
variable (z:Nat)(l:Sl Am)
abbrev UJ:=bk z #[i6 0,i6 0,i6 0] 132
abbrev Qp:=(6,Ac l.xs.length)
end
theorem DD(w:World)(hL:Js w)(l:Sl Am)(hl:Nh Am.cells 3 (fun _ _ _=>True) Any w l)(hn:l.xs.length≤1000):Calls Tryd.prog 87 #[.slice l.a l.xs.length l.cap] w fun e w'=>e = .returned (.agg (Am.arr (AY l.xs)))∧Ce (fun _=>False) w w':=by
 obtain⟨z,hz⟩:∃ z,z=w.heap.size:=⟨_,rfl⟩
 refine Bf (args:=[.slice l.a l.xs.length l.cap]) 17 ⟨w,z,[(Ak w)]⟩ Tryd.func87 rfl (by kernel_rfl) (by kernel_rfl) (Ed hz) ?_
 refine Di [0] [(0,.slice l.a l.xs.length l.cap)] ?_
 refine q_c 10 0 [] [[o0],[o0,o0,o0]] [] [(2,pt z),(5,.slice l.a l.xs.length l.cap),(Qp l),(7,i6 0)] ⟨w,z+1,[(Ak w),(UJ z)]⟩ rfl Ae ?_
 refine D8 (fun m a w'=>∃ (n2:Nat) (k:Nat),m=l.xs.length - k∧z+1≤n2∧(k≤l.xs.length)∧(∀ i,i<k→gd l.xs i=AQ)∧St 17 [(2,pt z),(5,.slice l.a l.xs.length l.cap),(Qp l),(7,Ac k)] [] ⟨w,n2,[(Ak w),(UJ z)]⟩ a w') (l.xs.length - 0) ?_ ?_
 ·intro a w' hs;exact⟨(z+1),0,rfl,Nat.le_refl _,Nat.zero_le _,fun i hi=>absurd hi (Nat.not_lt_zero i),hs⟩
 rintro m a w' ⟨n2,k,rfl,hn1,hkk,hf,hs⟩
 refine(?_:G Tryd.prog 17 [(2,pt z),(5,.slice l.a l.xs.length l.cap),(Qp l),(7,Ac k)] [] ⟨w,n2,[(Ak w),(UJ z)]⟩ _ _ _) a w' hs
 clear hs a w'
 refine CW ?_
 by_cases h3:(k:Int)<(l.xs.length:Int)
 ·refine Au 10 0 [1] [[oT]] [BT ((k:Int)<(l.xs.length:Int))] [(2,pt z),(5,.slice l.a l.xs.length l.cap),(Qp l),(7,Ac k),(8,.bool true)] rfl ⟨bt,Ae⟩ ?_
  obtain⟨b4,o5,ha6,hF8,hc7⟩:=(hl).1.all (show 0<l.xs.length by omega)
  replace ha6:l.a=some ⟨b4,o5,none⟩:=ha6
  refine Lj [(2,pt z),(5,.slice (some ⟨b4,o5,none⟩) l.xs.length l.cap),(Qp l),(7,Ac k),(8,.bool true)] (by(try dsimp only[UJ,Qp]);simp only[ha6]) ?_
  have hc9:=hc7 k (show k<l.xs.length by omega)
  have he10:=(hl).2 k (show k<l.xs.length by omega)
  obtain⟨y11,hy11⟩:∃ y_,y_=gd l.xs k:=⟨_,rfl⟩
  rw[←hy11]at he10 hc9
  refine q_c 4 0 [] [[(oi k),(ol 0 (Am.arr y11)),o0,(an 3 2)]] [Dc k,k<l.xs.length,BM,GN w b4 (o5+k*3) (Am.arr y11),Qb n2,Qb n2,Qb n2] [(2,pt z),(5,.slice (some ⟨b4,o5,none⟩) l.xs.length l.cap),(Qp l),(7,Ac k),(4,pt n2)] ⟨w,n2+1,[(Ak w),(UJ z),(bk n2 (Am.arr y11) 132)]⟩ rfl ⟨rfl,(by omega),rfl,Em hc9,rfl,rfl,rfl,Ae⟩ ?_
  by_cases h12:((y11.e:Int)==(0:Int)&&(((y11.Ag.First:Int)==(0:Int)&&((y11.Ag.Second:Int)==(0:Int)&&true))&&true))=true
  ·refine Au 9 0 [0] [[(an 3 2),(oa [.via 0 (i6 0),.via 0 (i6 0),.via 0 (i6 0)]),⟨.seq true,none⟩],[(ov (i6 ((k+1:Nat):Int))),o0]] [Qb n2,Qb n2,Qb n2,Old w 0 0 (i6 0),Old w 0 1 (i6 0),Old w 0 2 (i6 0),((y11.e:Int)==(0:Int)&&(((y11.Ag.First:Int)==(0:Int)&&((y11.Ag.Second:Int)==(0:Int)&&true))&&true))=true,Wr ((k:Int)+1) (((k+1:Nat):Int))] [(2,pt z),(5,.slice (some ⟨b4,o5,none⟩) l.xs.length l.cap),(Qp l),(7,i6 ((k+1:Nat):Int))] rfl ⟨rfl,rfl,rfl,Aw (hL.2 0 _ rfl),Aw (hL.2 1 _ rfl),Aw (hL.2 2 _ rfl),h12,BP,Ae⟩ ?_
   refine Cc [0,1] [(Ak w),(UJ z)] rfl rfl ?_
   refine GH [2,5,6,7] [(2,pt z),(5,.slice l.a l.xs.length l.cap),(Qp l),(7,i6 ((k+1:Nat):Int))] (by(try dsimp only[UJ,Qp]);simp only[ha6];rfl) ?_
   refine BR (fun a w' hs=>⟨l.xs.length - (k+1),by omega,(n2+1),(k+1),rfl,by omega,by omega,EP hf (by rw[←hy11];exact G9.1 h12),hs⟩)
  refine q_c 9 0 [1] [[(an 3 2),(oa [.via 0 (i6 0),.via 0 (i6 0),.via 0 (i6 0)]),⟨.seq false,none⟩],[(an 3 2),(an 3 1)]] [Qb n2,Qb n2,Qb n2,Old w 0 0 (i6 0),Old w 0 1 (i6 0),Old w 0 2 (i6 0),((y11.e:Int)==(0:Int)&&(((y11.Ag.First:Int)==(0:Int)&&((y11.Ag.Second:Int)==(0:Int)&&true))&&true))=false,Qb n2,Qb n2,Qb n2,Qb z,Qb z,Qb z] [(2,pt z)] ⟨w,n2+1,[(Ak w),(bk z (Am.arr y11) 132),(bk n2 (Am.arr y11) 132)]⟩ rfl ⟨rfl,rfl,rfl,Aw (hL.2 0 _ rfl),Aw (hL.2 1 _ rfl),Aw (hL.2 2 _ rfl),(Bool.eq_false_iff.2 h12),rfl,rfl,rfl,rfl,rfl,rfl,Ae⟩ ?_
  refine Az [.at 1,.at 1,.at 1] [Qb z,Qb z,Qb z] (.agg #[i6 y11.e,i6 y11.Ag.First,i6 y11.Ag.Second]) ⟨rfl,rfl,rfl,Ae⟩ ?_
  intro w13 hw13
  refine⟨congrArg Ending.returned (?_:Value.agg #[i6 y11.e,i6 y11.Ag.First,i6 y11.Ag.Second] = .agg (Am.arr (AY l.xs))),AB hw13⟩
  rw[NM (xs:=l.xs) (k:=k) (by omega) hf (by rw[←hy11];exact fun x=>h12 (G9.2 x)),←hy11]
 refine Au 15 0 [0] [[oF],[(oa [.via 0 (i6 0),.via 0 (i6 0),.via 0 (i6 0)]),(an 3 1)]] [BF ((k:Int)<(l.xs.length:Int)),Old w 0 0 (i6 0),Old w 0 1 (i6 0),Old w 0 2 (i6 0),Qb z,Qb z,Qb z] [(2,pt z)] rfl ⟨bf,Aw (hL.2 0 _ rfl),Aw (hL.2 1 _ rfl),Aw (hL.2 2 _ rfl),rfl,rfl,rfl,Ae⟩ ?_
 refine Az [.at 1,.at 1,.at 1] [Qb z,Qb z,Qb z] (.agg #[i6 0,i6 0,i6 0]) ⟨rfl,rfl,rfl,Ae⟩ ?_
 intro w14 hw14
 refine⟨congrArg Ending.returned (?_:Value.agg #[i6 0,i6 0,i6 0] = .agg (Am.arr (AY l.xs))),AB hw14⟩
 rw[ZaI (fun i hi=>hf i (by omega))];rfl
def DF(s:ByteArray)(i:Nat):UInt8:=(s[i]?).getD 0
theorem OD{s:ByteArray}{i:Int}{k:Nat}(h:i=(k:Int))(hk:k<s.size):s[i.toNat]? = some (DF s k):=by
 subst h
 show s[k]? = some (DF s k)
 unfold DF
 rw[getElem?_pos s k hk];rfl
def U0(c:UInt8):Bool:=win c.toNat 97 122
def nameB(c:UInt8):Bool:=win c.toNat 97 122||win c.toNat 48 57||decide ((c.toNat:Int)=45)
def Ez(s:ByteArray):Bool:=win s.size 1 16&&U0 (DF s 0)&&(List.range s.size).all (fun i=>nameB (DF s i))
theorem UY{p:Nat→Bool}{n:Nat}(h:∀ i,i<n→p i=true):(List.range n).all p=true:=by
 rw[List.all_eq_true];intro i hi;exact h i (List.mem_range.1 hi)
theorem ML{p:Nat→Bool}{n k:Nat}(hk:k<n)(h:p k=false):(List.range n).all p=false:=by
 rw[List.all_eq_false];exact⟨k,List.mem_range.2 hk,by simp[h]⟩
theorem range_any{p:Nat→Bool}{n k:Nat}(hk:k<n)(h:p k=true):(List.range n).any p=true:=by
 rw[List.any_eq_true];exact⟨k,List.mem_range.2 hk,h⟩
theorem Gv{p:Nat→Bool}{n:Nat}(h:∀ i,i<n→p i=false):(List.range n).any p=false:=by
 rw[List.any_eq_false];intro i hi;simp[h i (List.mem_range.1 hi)]
abbrev Es(c:Ai)(p:Nat):Aq:=gd c.Aa.xs p
abbrev DV(c:Ai)(p k:Nat):CS:=gd (gd c.Aa.xs p).Ah.xs k
def AP(c:Ai)(p:Nat):Bool:=(List.range p).all (fun q => !((Es c q).Name.toList==(Es c p).Name.toList))&&Ez (Es c p).Name
def YY(a b:Int):Int:=IntKind.i64.wrap ((BitVec.ofInt IntKind.i64.bits a &&& BitVec.ofInt IntKind.i64.bits b).toNat)
def Ro(x:Aq)(k:Nat):Bool:=win (x.Entry / 16) (gd x.Ah.xs k).Bl ((gd x.Ah.xs k).Bl+(gd x.Ah.xs k).AO - 1) && !decide (YY (gd x.Ah.xs k).Io 4=0)
def Gh(x:Aq):Bool:=(List.range x.Ah.xs.length).any (Ro x)
abbrev DU(c:Ai)(k:Nat):Sl Fq:=gd c.Bc.xs k
def Zd(c:Ai)(p:Int)(k:Nat):Bool:=(List.range (DU c k).xs.length).any (fun i=>decide (0≤p)&&decide ((gd (DU c k).xs i).Partition=p))
def Ip(c:Ai)(k:Nat)(p:Int):Bool:=(List.range k).any (Zd c p)
section
variable (s:ByteArray)(k:Nat)
abbrev P9:=(24,Ac s.size)
abbrev UF:=(25,i6 ((k+1:Nat):Int))
end
theorem isName_calls(w:World)(s:ByteArray)(hs:s.size≤140737488351232):Calls Tryd.prog 99 #[.string s] w fun e w'=>e = .returned (.bool (Ez s))∧Ce (fun _=>False) w w':=by
 obtain⟨z,hz⟩:∃ z,z=w.heap.size:=⟨_,rfl⟩
 refine Bf (args:=[.string s]) 50 ⟨w,z,[(Ak w)]⟩ Tryd.func99 rfl (by kernel_rfl) (by kernel_rfl) (Ed hz) ?_
 refine Di [0] [(0,.string s)] ?_
 refine Au 6 0 [] [[o0]] [] [(0,.string s)] rfl Ae ?_
 by_cases h1:(s.size:Int)<1
 ·refine Au 9 0 [1] [[o0,o0,oT,o0,o0,o0,o0,o0,o0],[o0]] [BT ((s.size:Int)<1)] [(2,.bool false)] rfl ⟨bt,Ae⟩ ?_
  refine Az [] [] (.bool false) Ae ?_
  intro w2 hw2
  refine⟨congrArg (fun b=>Ending.returned (Value.bool b)) (?_:false=Ez s),AB hw2⟩
  refine Eq.symm ?_
  unfold Ez U0 win
  rw[Bool.and_eq_false_iff];left;simp;omega
 by_cases h3:(16:Int)<(s.size:Int)
 ·refine Au 9 0 [1] [[o0,o0,oF,o0,o0,o0,oT,o0,o0,o0,o0,o0],[o0]] [BF ((s.size:Int)<1),BT ((s.size:Int) > 16)] [(2,.bool false)] rfl ⟨bf,bt,Ae⟩ ?_
  refine Az [] [] (.bool false) Ae ?_
  intro w4 hw4
  refine⟨congrArg (fun b=>Ending.returned (Value.bool b)) (?_:false=Ez s),AB hw4⟩
  refine Eq.symm ?_
  unfold Ez U0 win
  rw[Bool.and_eq_false_iff];left;simp;omega
 by_cases h5:(((DF s 0).toNat:Int):Int)<97
 ·refine Au 9 0 [1] [[o0,o0,oF,o0,o0,o0,oF,o0,o0,o0,⟨.sidx (DF s 0),none⟩,oT,o0,o0,o0],[o0]] [BF ((s.size:Int)<1),BF ((s.size:Int) > 16),0≤(0:Int),s[(0:Int).toNat]? = some (DF s 0),BT ((((DF s 0).toNat:Int):Int)<97)] [(2,.bool false)] rfl ⟨bf,bf,(by omega),OD rfl (by omega),bt,Ae⟩ ?_
  refine Az [] [] (.bool false) Ae ?_
  intro w6 hw6
  refine⟨congrArg (fun b=>Ending.returned (Value.bool b)) (?_:false=Ez s),AB hw6⟩
  refine Eq.symm ?_
  unfold Ez U0 win
  rw[Bool.and_eq_false_iff];left;simp;omega
 by_cases h7:(122:Int)<((DF s 0).toNat:Int)
 ·refine Au 9 0 [1] [[o0,o0,oF,o0,o0,o0,oF,o0,o0,o0,⟨.sidx (DF s 0),none⟩,oF,o0,o0,o0,⟨.sidx (DF s 0),none⟩,oT,o0],[o0]] [BF ((s.size:Int)<1),BF ((s.size:Int) > 16),0≤(0:Int),s[(0:Int).toNat]? = some (DF s 0),BF ((((DF s 0).toNat:Int):Int)<97),0≤(0:Int),s[(0:Int).toNat]? = some (DF s 0),BT ((((DF s 0).toNat:Int):Int) > 122)] [(2,.bool false)] rfl ⟨bf,bf,(by omega),OD rfl (by omega),bf,(by omega),OD rfl (by omega),bt,Ae⟩ ?_
  refine Az [] [] (.bool false) Ae ?_
  intro w8 hw8
  refine⟨congrArg (fun b=>Ending.returned (Value.bool b)) (?_:false=Ez s),AB hw8⟩
  refine Eq.symm ?_
  unfold Ez U0 win
  rw[Bool.and_eq_false_iff];left;simp;omega
 refine Au 12 0 [0] [[o0,o0,oF,o0,o0,o0,oF,o0,o0,o0,⟨.sidx (DF s 0),none⟩,oF,o0,o0,o0,⟨.sidx (DF s 0),none⟩,oF,o0],[o0,o0,o0]] [BF ((s.size:Int)<1),BF ((s.size:Int) > 16),0≤(0:Int),s[(0:Int).toNat]? = some (DF s 0),BF ((((DF s 0).toNat:Int):Int)<97),0≤(0:Int),s[(0:Int).toNat]? = some (DF s 0),BF ((((DF s 0).toNat:Int):Int) > 122)] [(0,.string s),(P9 s),(25,i6 0)] rfl ⟨bf,bf,(by omega),OD rfl (by omega),bf,(by omega),OD rfl (by omega),bf,Ae⟩ ?_
 refine D8 (fun m a w'=>∃ (n10:Nat) (k:Nat),m=s.size - k∧z≤n10∧(k≤s.size)∧(∀ i,i<k→nameB (DF s i)=true)∧St 50 [(0,.string s),(P9 s),(25,Ac k)] [] ⟨w,n10,[(Ak w)]⟩ a w') (s.size - 0) ?_ ?_
 ·intro a w' hs;exact⟨z,0,rfl,Nat.le_refl _,Nat.zero_le _,fun i hi=>absurd hi (Nat.not_lt_zero i),hs⟩
 rintro m a w' ⟨n10,k,rfl,hn9,hkk,hf,hs⟩
 refine(?_:G Tryd.prog 50 [(0,.string s),(P9 s),(25,Ac k)] [] ⟨w,n10,[(Ak w)]⟩ _ _ _) a w' hs
 clear hs a w'
 refine CW ?_
 by_cases h11:(k:Int)<(s.size:Int)
 ·refine Au 18 0 [1] [[oT],[o0,o0],[o0,o0,⟨.sidx (DF s k),none⟩,o0]] [BT ((k:Int)<(s.size:Int)),0≤(k:Int),s[(k:Int).toNat]? = some (DF s k)] [(0,.string s),(P9 s),(25,Ac k),(4,.int .u8 ((DF s k).toNat:Int))] rfl ⟨bt,(by omega),OD rfl (by omega),Ae⟩ ?_
  by_cases h12:(((DF s k).toNat:Int):Int)<97
  ·by_cases h13:(((DF s k).toNat:Int):Int)<48
   ·by_cases h14:(((DF s k).toNat:Int):Int)=45
    ·refine Au 9 0 [0] [[o0,oT,o0,o0,o0,o0,oT,o0,o0,o0,o0,o0,oF,o0],[(ov (i6 ((k+1:Nat):Int))),o0]] [BT ((((DF s k).toNat:Int):Int)<97),BT ((((DF s k).toNat:Int):Int)<48),NF ((DF s k).toNat:Int) 45,Wr ((k:Int)+1) (((k+1:Nat):Int))] [(0,.string s),(P9 s),(UF k)] rfl ⟨bt,bt,nf,BP,Ae⟩ ?_
     refine BR (fun a w' hs=>⟨s.size - (k+1),by omega,n10,(k+1),rfl,by omega,by omega,EP hf (by unfold nameB win;simp;omega),hs⟩)
    refine Au 9 0 [1] [[o0,oT,o0,o0,o0,o0,oT,o0,o0,o0,o0,o0,oT,o0],[o0]] [BT ((((DF s k).toNat:Int):Int)<97),BT ((((DF s k).toNat:Int):Int)<48),NT ((DF s k).toNat:Int) 45] [(2,.bool false)] rfl ⟨bt,bt,nt,Ae⟩ ?_
    refine Az [] [] (.bool false) Ae ?_
    intro w15 hw15
    refine⟨congrArg (fun b=>Ending.returned (Value.bool b)) (?_:false=Ez s),AB hw15⟩
    refine Eq.symm ?_
    unfold Ez
    rw[ML (k:=k) (by omega) (by unfold nameB win;simp;omega),Bool.and_false]
   by_cases h16:(57:Int)<((DF s k).toNat:Int)
   ·by_cases h17:(((DF s k).toNat:Int):Int)=45
    ·refine Au 9 0 [0] [[o0,oT,o0,o0,o0,o0,oF,o0,o0,oT,o0,o0,o0,o0,oF,o0],[(ov (i6 ((k+1:Nat):Int))),o0]] [BT ((((DF s k).toNat:Int):Int)<97),BF ((((DF s k).toNat:Int):Int)<48),BT ((((DF s k).toNat:Int):Int) > 57),NF ((DF s k).toNat:Int) 45,Wr ((k:Int)+1) (((k+1:Nat):Int))] [(0,.string s),(P9 s),(UF k)] rfl ⟨bt,bf,bt,nf,BP,Ae⟩ ?_
     refine BR (fun a w' hs=>⟨s.size - (k+1),by omega,n10,(k+1),rfl,by omega,by omega,EP hf (by unfold nameB win;simp;omega),hs⟩)
    refine Au 9 0 [1] [[o0,oT,o0,o0,o0,o0,oF,o0,o0,oT,o0,o0,o0,o0,oT,o0],[o0]] [BT ((((DF s k).toNat:Int):Int)<97),BF ((((DF s k).toNat:Int):Int)<48),BT ((((DF s k).toNat:Int):Int) > 57),NT ((DF s k).toNat:Int) 45] [(2,.bool false)] rfl ⟨bt,bf,bt,nt,Ae⟩ ?_
    refine Az [] [] (.bool false) Ae ?_
    intro w18 hw18
    refine⟨congrArg (fun b=>Ending.returned (Value.bool b)) (?_:false=Ez s),AB hw18⟩
    refine Eq.symm ?_
    unfold Ez
    rw[ML (k:=k) (by omega) (by unfold nameB win;simp;omega),Bool.and_false]
   refine Au 9 0 [0] [[o0,oT,o0,o0,o0,o0,oF,o0,o0,oF,o0,o0,o0,o0],[(ov (i6 ((k+1:Nat):Int))),o0]] [BT ((((DF s k).toNat:Int):Int)<97),BF ((((DF s k).toNat:Int):Int)<48),BF ((((DF s k).toNat:Int):Int) > 57),Wr ((k:Int)+1) (((k+1:Nat):Int))] [(0,.string s),(P9 s),(UF k)] rfl ⟨bt,bf,bf,BP,Ae⟩ ?_
   refine BR (fun a w' hs=>⟨s.size - (k+1),by omega,n10,(k+1),rfl,by omega,by omega,EP hf (by unfold nameB win;simp;omega),hs⟩)
  by_cases h19:(122:Int)<((DF s k).toNat:Int)
  ·by_cases h20:(((DF s k).toNat:Int):Int)<48
   ·by_cases h21:(((DF s k).toNat:Int):Int)=45
    ·refine Au 9 0 [0] [[o0,oF,o0,o0,oT,o0,o0,o0,oT,o0,o0,o0,o0,o0,oF,o0],[(ov (i6 ((k+1:Nat):Int))),o0]] [BF ((((DF s k).toNat:Int):Int)<97),BT ((((DF s k).toNat:Int):Int) > 122),BT ((((DF s k).toNat:Int):Int)<48),NF ((DF s k).toNat:Int) 45,Wr ((k:Int)+1) (((k+1:Nat):Int))] [(0,.string s),(P9 s),(UF k)] rfl ⟨bf,bt,bt,nf,BP,Ae⟩ ?_
     refine BR (fun a w' hs=>⟨s.size - (k+1),by omega,n10,(k+1),rfl,by omega,by omega,EP hf (by unfold nameB win;simp;omega),hs⟩)
    refine Au 9 0 [1] [[o0,oF,o0,o0,oT,o0,o0,o0,oT,o0,o0,o0,o0,o0,oT,o0],[o0]] [BF ((((DF s k).toNat:Int):Int)<97),BT ((((DF s k).toNat:Int):Int) > 122),BT ((((DF s k).toNat:Int):Int)<48),NT ((DF s k).toNat:Int) 45] [(2,.bool false)] rfl ⟨bf,bt,bt,nt,Ae⟩ ?_
    refine Az [] [] (.bool false) Ae ?_
    intro w22 hw22
    refine⟨congrArg (fun b=>Ending.returned (Value.bool b)) (?_:false=Ez s),AB hw22⟩
    refine Eq.symm ?_
    unfold Ez
    rw[ML (k:=k) (by omega) (by unfold nameB win;simp;omega),Bool.and_false]
   by_cases h23:(57:Int)<((DF s k).toNat:Int)
   ·by_cases h24:(((DF s k).toNat:Int):Int)=45
    ·refine Au 9 0 [0] [[o0,oF,o0,o0,oT,o0,o0,o0,oF,o0,o0,oT,o0,o0,o0,o0,oF,o0],[(ov (i6 ((k+1:Nat):Int))),o0]] [BF ((((DF s k).toNat:Int):Int)<97),BT ((((DF s k).toNat:Int):Int) > 122),BF ((((DF s k).toNat:Int):Int)<48),BT ((((DF s k).toNat:Int):Int) > 57),NF ((DF s k).toNat:Int) 45,Wr ((k:Int)+1) (((k+1:Nat):Int))] [(0,.string s),(P9 s),(UF k)] rfl ⟨bf,bt,bf,bt,nf,BP,Ae⟩ ?_
     refine BR (fun a w' hs=>⟨s.size - (k+1),by omega,n10,(k+1),rfl,by omega,by omega,EP hf (by unfold nameB win;simp;omega),hs⟩)
    refine Au 9 0 [1] [[o0,oF,o0,o0,oT,o0,o0,o0,oF,o0,o0,oT,o0,o0,o0,o0,oT,o0],[o0]] [BF ((((DF s k).toNat:Int):Int)<97),BT ((((DF s k).toNat:Int):Int) > 122),BF ((((DF s k).toNat:Int):Int)<48),BT ((((DF s k).toNat:Int):Int) > 57),NT ((DF s k).toNat:Int) 45] [(2,.bool false)] rfl ⟨bf,bt,bf,bt,nt,Ae⟩ ?_
    refine Az [] [] (.bool false) Ae ?_
    intro w25 hw25
    refine⟨congrArg (fun b=>Ending.returned (Value.bool b)) (?_:false=Ez s),AB hw25⟩
    refine Eq.symm ?_
    unfold Ez
    rw[ML (k:=k) (by omega) (by unfold nameB win;simp;omega),Bool.and_false]
   refine Au 9 0 [0] [[o0,oF,o0,o0,oT,o0,o0,o0,oF,o0,o0,oF,o0,o0,o0,o0],[(ov (i6 ((k+1:Nat):Int))),o0]] [BF ((((DF s k).toNat:Int):Int)<97),BT ((((DF s k).toNat:Int):Int) > 122),BF ((((DF s k).toNat:Int):Int)<48),BF ((((DF s k).toNat:Int):Int) > 57),Wr ((k:Int)+1) (((k+1:Nat):Int))] [(0,.string s),(P9 s),(UF k)] rfl ⟨bf,bt,bf,bf,BP,Ae⟩ ?_
   refine BR (fun a w' hs=>⟨s.size - (k+1),by omega,n10,(k+1),rfl,by omega,by omega,EP hf (by unfold nameB win;simp;omega),hs⟩)
  refine Au 9 0 [0] [[o0,oF,o0,o0,oF,o0,o0,o0,o0,o0],[(ov (i6 ((k+1:Nat):Int))),o0]] [BF ((((DF s k).toNat:Int):Int)<97),BF ((((DF s k).toNat:Int):Int) > 122),Wr ((k:Int)+1) (((k+1:Nat):Int))] [(0,.string s),(P9 s),(UF k)] rfl ⟨bf,bf,BP,Ae⟩ ?_
  refine BR (fun a w' hs=>⟨s.size - (k+1),by omega,n10,(k+1),rfl,by omega,by omega,EP hf (by unfold nameB win;simp;omega),hs⟩)
 refine Au 15 0 [0] [[oF],[o0]] [BF ((k:Int)<(s.size:Int))] [(2,.bool true)] rfl ⟨bf,Ae⟩ ?_
 refine Az [] [] (.bool true) Ae ?_
 intro w26 hw26
 refine⟨congrArg (fun b=>Ending.returned (Value.bool b)) (?_:true=Ez s),AB hw26⟩
 refine Eq.symm ?_
 unfold Ez
 rw[UY (fun i hi=>hf i (by omega))]
 unfold U0 win;simp;omega
section
variable (z:Nat)(c:Ai)(b4 o5 p:Nat)
abbrev Qn:=bk z (Ai.arr c) 26
abbrev TD:D7:=(10,.slice (some ⟨b4,o5,none⟩) (p - 0) (c.Aa.cap - 0))
abbrev RN:D7:=(10,.slice c.Aa.a (p - 0) (c.Aa.cap - 0))
abbrev MX:=(11,i6 ((p - 0:Nat):Int))
end
theorem SV(w:World)(c:Ai)(hc:Ai.ok Any w c)(p:Nat)(hp:p<c.Aa.xs.length):Calls Tryd.prog 88 #[.agg (Ai.arr c),.int .i64 (p:Int)] w fun e w'=>e = .returned (.bool (AP c p))∧Ce (fun _=>False) w w':=by
 obtain⟨z,hz⟩:∃ z,z=w.heap.size:=⟨_,rfl⟩
 refine Bf (args:=[.agg (Ai.arr c),Ac p]) 33 ⟨w,z,[(Ak w)]⟩ Tryd.func88 rfl (by kernel_rfl) (by kernel_rfl) (Ed hz) ?_
 have hpl:=hc.Aa.1.len;have hpc:=hc.Aa.1.le
 refine Di [0,1] [(0,.agg (Ai.arr c)),(1,Ac p)] ?_
 refine q_c 10 0 [] [[o0,o0],[o0,(a1 1),o0,⟨.slc 0 p false,none⟩,o0,o0]] [Qb z,(0:Int)=((0:Nat):Int),Dc p,0≤p,p≤c.Aa.cap,c.Aa.cap=0∨(0:Nat)=0] [(1,Ac p),(2,pt z),(RN c p),(MX p),(12,i6 0)] ⟨w,z+1,[(Ak w),(Qn z c)]⟩ rfl ⟨rfl,rfl,rfl,(by omega),(by omega),.inr rfl,Ae⟩ ?_
 refine D8 (fun m a w'=>∃ (n2:Nat) (k:Nat),m=p - k∧z+1≤n2∧(k≤p)∧(∀ i,i<k→(!((Es c i).Name.toList==(Es c p).Name.toList))=true)∧St 33 [(1,Ac p),(2,pt z),(RN c p),(MX p),(12,Ac k)] [] ⟨w,n2,[(Ak w),(Qn z c)]⟩ a w') (p - 0) ?_ ?_
 ·intro a w' hs;exact⟨(z+1),0,rfl,Nat.le_refl _,Nat.zero_le _,fun i hi=>absurd hi (Nat.not_lt_zero i),hs⟩
 rintro m a w' ⟨n2,k,rfl,hn1,hkk,hf,hs⟩
 refine(?_:G Tryd.prog 33 [(1,Ac p),(2,pt z),(RN c p),(MX p),(12,Ac k)] [] ⟨w,n2,[(Ak w),(Qn z c)]⟩ _ _ _) a w' hs
 clear hs a w'
 refine CW ?_
 by_cases h3:(k:Int)<((p - 0:Nat):Int)
 ·refine Au 10 0 [1] [[oT]] [BT ((k:Int)<((p - 0:Nat):Int))] [(1,Ac p),(2,pt z),(RN c p),(MX p),(12,Ac k),(13,.bool true)] rfl ⟨bt,Ae⟩ ?_
  obtain⟨b4,o5,ha6,hF8,hc7⟩:=(hc.Aa).1.all (show 0<c.Aa.xs.length by omega)
  replace ha6:c.Aa.a=some ⟨b4,o5,none⟩:=ha6
  refine Lj [(1,Ac p),(2,pt z),(TD c b4 o5 p),(MX p),(12,Ac k),(13,.bool true)] (by(try dsimp only[Qn,TD,RN,MX]);simp only[ha6]) ?_
  have hc9:=hc7 k (show k<c.Aa.xs.length by omega)
  have he10:=(hc.Aa).2 k (show k<c.Aa.xs.length by omega)
  obtain⟨y11,hy11⟩:∃ y_,y_=gd c.Aa.xs k:=⟨_,rfl⟩
  rw[←hy11]at he10 hc9
  refine q_c 4 0 [] [[(oi k),(ol 0 (Aq.arr y11)),o0,(an 8 2)]] [Dc k,k<p - 0,BM,GN w b4 (o5+k*8) (Aq.arr y11),Qb n2,Qb n2,Qb n2,Qb n2,Qb n2,Qb n2,Qb n2,Qb n2] [(1,Ac p),(2,pt z),(TD c b4 o5 p),(MX p),(12,Ac k),(6,pt n2)] ⟨w,n2+1,[(Ak w),(Qn z c),(bk n2 (Aq.arr y11) 35)]⟩ rfl ⟨rfl,(by omega),rfl,Em hc9,rfl,rfl,rfl,rfl,rfl,rfl,rfl,rfl,Ae⟩ ?_
  have hc12:=hc7 p (show p<c.Aa.xs.length by omega)
  have he13:=(hc.Aa).2 p (show p<c.Aa.xs.length by omega)
  obtain⟨y14,hy14⟩:∃ y_,y_=gd c.Aa.xs p:=⟨_,rfl⟩
  rw[←hy14]at he13 hc12
  by_cases h15:y11.Name.toList=y14.Name.toList
  ·refine DZ 9 [0,1,2] [(Ak w),(Qn z c),(bk n2 (Aq.arr y11) 35)] rfl rfl ?_
   refine Ci [(0,o0),(1,(a1 2)),(2,o0),(3,(EM 1 b4 o5 c.Aa)),(4,o0),(5,(oi p)),(6,o0),(7,(oa [.via 0 (.string y14.Name)])),(8,(ov (.bool true)))] [1,2,10,11,12,24] [Qb n2,Qb z,Ej b4 o5 c.Aa,Dc p,p<c.Aa.xs.length,BM,Old w b4 (o5+p*8) (.string y14.Name),Value.bool ((y11.Name.toList==y14.Name.toList))=Value.bool true] (Dw 9 0) [(1,Ac p),(2,pt z),(TD c b4 o5 p),(MX p),(12,Ac k),(24,.bool true)] ⟨rfl,rfl,Eg ha6,rfl,(by omega),rfl,Aw (hc12 0 _ rfl),congrArg (fun t=>Value.bool (t)) (beq_iff_eq.2 h15),Ae⟩ ?_
   refine CE ?_
   refine NU 7 0 [1] [[o0]] [] [(4,.bool false)] rfl Ae ?_
   refine Az [] [] (.bool false) Ae ?_
   intro w16 hw16
   refine⟨congrArg (fun b=>Ending.returned (Value.bool b)) (?_:false=AP c p),AB hw16⟩
   refine Eq.symm ?_
   unfold AP
   rw[ML (k:=k) (by omega) (by dsimp only[Es];rw[←hy11,←hy14,beq_iff_eq.2 h15];rfl),Bool.false_and]
  refine DZ 9 [0,1,2] [(Ak w),(Qn z c),(bk n2 (Aq.arr y11) 35)] rfl rfl ?_
  refine Ci [(0,o0),(1,(a1 2)),(2,o0),(3,(EM 1 b4 o5 c.Aa)),(4,o0),(5,(oi p)),(6,o0),(7,(oa [.via 0 (.string y14.Name)])),(8,(ov (.bool false)))] [1,2,10,11,12,24] [Qb n2,Qb z,Ej b4 o5 c.Aa,Dc p,p<c.Aa.xs.length,BM,Old w b4 (o5+p*8) (.string y14.Name),Value.bool ((y11.Name.toList==y14.Name.toList))=Value.bool false] (Dw 9 0) [(1,Ac p),(2,pt z),(TD c b4 o5 p),(MX p),(12,Ac k),(24,.bool false)] ⟨rfl,rfl,Eg ha6,rfl,(by omega),rfl,Aw (hc12 0 _ rfl),congrArg (fun t=>Value.bool (t)) (beq_eq_false_iff_ne.2 h15),Ae⟩ ?_
  refine CE ?_
  refine NU 7 0 [0] [[(ov (i6 ((k+1:Nat):Int))),o0]] [Wr ((k:Int)+1) (((k+1:Nat):Int))] [(1,Ac p),(2,pt z),(TD c b4 o5 p),(MX p),(12,i6 ((k+1:Nat):Int))] rfl ⟨BP,Ae⟩ ?_
  refine Cc [0,1] [(Ak w),(Qn z c)] rfl rfl ?_
  refine GH [1,2,10,11,12] [(1,Ac p),(2,pt z),(RN c p),(MX p),(12,i6 ((k+1:Nat):Int))] (by(try dsimp only[Qn,TD,RN,MX]);simp only[ha6];rfl) ?_
  refine BR (fun a w' hs=>⟨p - (k+1),by omega,(n2+1),(k+1),rfl,by omega,by omega,EP hf (by dsimp only[Es];rw[←hy11,←hy14,beq_eq_false_iff_ne.2 h15];rfl),hs⟩)
 refine Au 11 0 [0] [[oF]] [BF ((k:Int)<((p - 0:Nat):Int))] [(1,Ac p),(2,pt z),(RN c p),(MX p),(12,Ac k),(13,.bool false)] rfl ⟨bf,Ae⟩ ?_
 obtain⟨b17,o18,ha19,hF21,hc20⟩:=(hc.Aa).1.all (show 0<c.Aa.xs.length by omega)
 replace ha19:c.Aa.a=some ⟨b17,o18,none⟩:=ha19
 refine Lj [(1,Ac p),(2,pt z),(10,.slice (some ⟨b17,o18,none⟩) (p - 0) (c.Aa.cap - 0)),(MX p),(12,Ac k),(13,.bool false)] (by(try dsimp only[Qn,TD,RN,MX]);simp only[ha19]) ?_
 have hc22:=hc20 p (show p<c.Aa.xs.length by omega)
 have he23:=(hc.Aa).2 p (show p<c.Aa.xs.length by omega)
 obtain⟨y24,hy24⟩:∃ y_,y_=gd c.Aa.xs p:=⟨_,rfl⟩
 rw[←hy24]at he23 hc22
 refine Au 1 6 [] [[o0,(EM 1 b17 o18 c.Aa),o0,(oi p),o0,(oa [.via 0 (.string y24.Name)])]] [Qb z,Ej b17 o18 c.Aa,Dc p,p<c.Aa.xs.length,BM,Old w b17 (o18+p*8) (.string y24.Name)] [(31,.string y24.Name)] rfl ⟨rfl,Eg ha19,rfl,(by omega),rfl,Aw (hc22 0 _ rfl),Ae⟩ ?_
 refine Ba 99 #[.string y24.Name] (some 32) (.bool (Ez y24.Name)) (fun w25 hw25=>isName_calls w25 y24.Name he23.Name) (fun n26 (hn27:n2≤n26) => ?_)
 refine AZ 3 0 [] [[o0]] [] [(4,.bool (Ez y24.Name))] rfl Ae ?_
 refine Az [] [] (.bool (Ez y24.Name)) Ae ?_
 intro w28 hw28
 refine⟨congrArg (fun b=>Ending.returned (Value.bool b)) (?_:Ez y24.Name=AP c p),AB hw28⟩
 refine Eq.symm ?_
 unfold AP
 rw[UY (fun i hi=>hf i (by omega)),Bool.true_and];dsimp only[Es];rw[←hy24]
section
variable (z:Nat)(x:Aq)(b4 o5:Nat)
abbrev Rt:=bk z (Aq.arr x) 35
abbrev Tv:D7:=(6,.slice (some ⟨b4,o5,none⟩) x.Ah.xs.length x.Ah.cap)
abbrev Rz:D7:=(6,.slice x.Ah.a x.Ah.xs.length x.Ah.cap)
abbrev NS:=(7,Ac x.Ah.xs.length)
end
theorem Zw(w:World)(x:Aq)(hx:Aq.ok Any w x)(he:0≤x.Entry)(hr:∀ k,k<x.Ah.xs.length→(0≤(gd x.Ah.xs k).Bl∧(gd x.Ah.xs k).Bl≤255)∧(1≤(gd x.Ah.xs k).AO∧(gd x.Ah.xs k).AO≤256)):Calls Tryd.prog 91 #[.agg (Aq.arr x)] w fun e w'=>e = .returned (.bool (Gh x))∧Ce (fun _=>False) w w':=by
 obtain⟨z,hz⟩:∃ z,z=w.heap.size:=⟨_,rfl⟩
 refine Bf (args:=[.agg (Aq.arr x)]) 31 ⟨w,z,[(Ak w)]⟩ Tryd.func91 rfl (by kernel_rfl) (by kernel_rfl) (Ed hz) ?_
 have hpl:=hx.Ah.1.len;have hxe:(-9223372036854775808:Int)≤x.Entry∧x.Entry≤9223372036854775807:=hx.Entry
 refine Di [0] [(0,.agg (Aq.arr x))] ?_
 refine q_c 10 0 [] [[o0,o0],[o0,(a1 1),o0,o0]] [Qb z] [(1,pt z),(Rz x),(NS x),(8,i6 0)] ⟨w,z+1,[(Ak w),(Rt z x)]⟩ rfl ⟨rfl,Ae⟩ ?_
 refine D8 (fun m a w'=>∃ (n2:Nat) (k:Nat),m=x.Ah.xs.length - k∧z+1≤n2∧(k≤x.Ah.xs.length)∧(∀ i,i<k→Ro x i=false)∧St 31 [(1,pt z),(Rz x),(NS x),(8,Ac k)] [] ⟨w,n2,[(Ak w),(Rt z x)]⟩ a w') (x.Ah.xs.length - 0) ?_ ?_
 ·intro a w' hs;exact⟨(z+1),0,rfl,Nat.le_refl _,Nat.zero_le _,fun i hi=>absurd hi (Nat.not_lt_zero i),hs⟩
 rintro m a w' ⟨n2,k,rfl,hn1,hkk,hf,hs⟩
 refine(?_:G Tryd.prog 31 [(1,pt z),(Rz x),(NS x),(8,Ac k)] [] ⟨w,n2,[(Ak w),(Rt z x)]⟩ _ _ _) a w' hs
 clear hs a w'
 refine CW ?_
 by_cases h3:(k:Int)<(x.Ah.xs.length:Int)
 ·refine Au 10 0 [1] [[oT]] [BT ((k:Int)<(x.Ah.xs.length:Int))] [(1,pt z),(Rz x),(NS x),(8,Ac k),(9,.bool true)] rfl ⟨bt,Ae⟩ ?_
  obtain⟨b4,o5,ha6,hF8,hc7⟩:=(hx.Ah).1.all (show 0<x.Ah.xs.length by omega)
  replace ha6:x.Ah.a=some ⟨b4,o5,none⟩:=ha6
  refine Lj [(1,pt z),(Tv x b4 o5),(NS x),(8,Ac k),(9,.bool true)] (by(try dsimp only[Rt,Tv,Rz,NS]);simp only[ha6]) ?_
  have hc9:=hc7 k (show k<x.Ah.xs.length by omega)
  have he10:=(hx.Ah).2 k (show k<x.Ah.xs.length by omega)
  obtain⟨y11,hy11⟩:∃ y_,y_=gd x.Ah.xs k:=⟨_,rfl⟩
  rw[←hy11]at he10 hc9
  have hb12:=hr k (by omega);rw[←hy11]at hb12
  refine q_c 5 11 [] [[(oi k),(ol 0 (CS.arr y11)),o0,(an 4 2)],[o0,(a1 1),(ov (i6 (x.Entry / 16))),o0,(a1 2),o0,(a1 2),o0,(a1 2),(ov (i6 (y11.Bl+y11.AO))),(ov (i6 ((y11.Bl+y11.AO) - 1)))]] [Dc k,k<x.Ah.xs.length,BM,GN w b4 (o5+k*4) (CS.arr y11),Qb n2,Qb n2,Qb n2,Qb n2,Qb z,Wr (Int.tdiv (x.Entry) 16) (x.Entry / 16),Qb n2,Qb n2,Qb n2,Wr ((y11.Bl:Int)+y11.AO) (y11.Bl+y11.AO),Wr ((y11.Bl+y11.AO:Int) - 1) ((y11.Bl+y11.AO) - 1)] [(1,pt z),(Tv x b4 o5),(NS x),(8,Ac k),(4,pt n2),(14,i6 (x.Entry / 16)),(16,i6 y11.Bl),(22,i6 ((y11.Bl+y11.AO) - 1))] ⟨w,n2+1,[(Ak w),(Rt z x),(bk n2 (CS.arr y11) 147)]⟩ rfl ⟨rfl,(by omega),rfl,Em hc9,rfl,rfl,rfl,rfl,rfl,congrArg (Value.int .i64) (Me (by omega) (by omega) (by omega)),rfl,rfl,rfl,BP,BP,Ae⟩ ?_
  refine Ba 64 #[i6 (x.Entry / 16),i6 y11.Bl,i6 ((y11.Bl+y11.AO) - 1)] (some 23) (.bool (win (x.Entry / 16) y11.Bl ((y11.Bl+y11.AO) - 1))) (fun w13 hw13=>BZ w13 (x.Entry / 16) y11.Bl ((y11.Bl+y11.AO) - 1)) (fun n14 (hn15:n2+1≤n14) => ?_)
  refine Dh [1,6,7,8,4,23] [(1,pt z),(Tv x b4 o5),(NS x),(8,Ac k),(4,pt n2),(23,.bool (win (x.Entry / 16) y11.Bl ((y11.Bl+y11.AO) - 1)))] ?_
  by_cases h16:(win (x.Entry / 16) y11.Bl ((y11.Bl+y11.AO) - 1))=true
  ·have hd17:=Dz h16
   by_cases h18:((YY y11.Io 4):Int)=0
   ·refine AZ 8 0 [0] [[(ov (.bool true)),o0,(a1 2),o0,oF,o0],[(ov (i6 ((k+1:Nat):Int))),o0]] [Value.bool (win (x.Entry / 16) y11.Bl ((y11.Bl+y11.AO) - 1))=Value.bool true,Qb n2,NF (YY y11.Io 4) 0,Wr ((k:Int)+1) (((k+1:Nat):Int))] [(1,pt z),(Tv x b4 o5),(NS x),(8,i6 ((k+1:Nat):Int))] rfl ⟨(congrArg Value.bool h16),rfl,nf,BP,Ae⟩ ?_
    refine Cc [0,1] [(Ak w),(Rt z x)] rfl rfl ?_
    refine GH [1,6,7,8] [(1,pt z),(Rz x),(NS x),(8,i6 ((k+1:Nat):Int))] (by(try dsimp only[Rt,Tv,Rz,NS]);simp only[ha6];rfl) ?_
    refine BR (fun a w' hs=>⟨x.Ah.xs.length - (k+1),by omega,n14,(k+1),rfl,by omega,by omega,EP hf (by unfold Ro;rw[←hy11];simp[h16,h18]),hs⟩)
   refine AZ 8 0 [1] [[(ov (.bool true)),o0,(a1 2),o0,oT,o0],[o0]] [Value.bool (win (x.Entry / 16) y11.Bl ((y11.Bl+y11.AO) - 1))=Value.bool true,Qb n2,NT (YY y11.Io 4) 0] [(2,.bool true)] rfl ⟨(congrArg Value.bool h16),rfl,nt,Ae⟩ ?_
   refine Az [] [] (.bool true) Ae ?_
   intro w19 hw19
   refine⟨congrArg (fun b=>Ending.returned (Value.bool b)) (?_:true=Gh x),AB hw19⟩
   refine Eq.symm (range_any (k:=k) (by omega) ?_)
   unfold Ro
   rw[←hy11];simp[h16,h18]
  have hd20:=FI h16
  refine AZ 8 0 [0] [[(ov (.bool false)),o0],[(ov (i6 ((k+1:Nat):Int))),o0]] [Value.bool (win (x.Entry / 16) y11.Bl ((y11.Bl+y11.AO) - 1))=Value.bool false,Wr ((k:Int)+1) (((k+1:Nat):Int))] [(1,pt z),(Tv x b4 o5),(NS x),(8,i6 ((k+1:Nat):Int))] rfl ⟨(congrArg Value.bool (Bool.eq_false_iff.2 h16)),BP,Ae⟩ ?_
  refine Cc [0,1] [(Ak w),(Rt z x)] rfl rfl ?_
  refine GH [1,6,7,8] [(1,pt z),(Rz x),(NS x),(8,i6 ((k+1:Nat):Int))] (by(try dsimp only[Rt,Tv,Rz,NS]);simp only[ha6];rfl) ?_
  refine BR (fun a w' hs=>⟨x.Ah.xs.length - (k+1),by omega,n14,(k+1),rfl,by omega,by omega,EP hf (by unfold Ro;rw[←hy11];simp[h16]),hs⟩)
 refine Au 15 0 [0] [[oF],[o0]] [BF ((k:Int)<(x.Ah.xs.length:Int))] [(2,.bool false)] rfl ⟨bf,Ae⟩ ?_
 refine Az [] [] (.bool false) Ae ?_
 intro w21 hw21
 refine⟨congrArg (fun b=>Ending.returned (Value.bool b)) (?_:false=Gh x),AB hw21⟩
 exact(Gv (fun i hi=>hf i (by omega))).symm
end Go.Proofs.YtlccogilgegnfaaDoor.Ad
