/- Packed: EngA, EngB, EngC, EngU, EngD, Mem, EngE, EngF, Ty, EngG, EngI, EngJ, EngK, EngL, EngM, EngN, EngP, EngQ, EngY, EngH, EngR. No conditions. -/
import Derived.WalkKit
import Derived.KernelRfl
import Derived.Deep.LoopGhost
import Derived.ProofKit
import Derived.ChangeKeysEq
import Derived.Laws.StructEq
import Derived.OrdersHeld
import Derived.Test.YtjmcjekhgpakoaaProg
import Derived.WalkLawsBesides
import Derived.WalkSpells
import Derived.Lib.Hide
import Derived.BigQuiet
import Derived.BigRegion
import Derived.Deep.QuietTactic
import Derived.Deep.RegionWith
import Derived.RangeFuncRecord
import Derived.Maps.OwnOps
import Derived.Maps.AppendAt
import Derived.Laws.OwnMore
import Derived.Defers
import Derived.Recover
import Derived.Lib.AppendStr
import Derived.Laws.IdiomCopy
import Derived.Laws.CopyRow
import Derived.Laws.IdiomStrings
import Derived.Deep.Slices
import Derived.SizedLaws
import Derived.WideShapes
import Derived.DataReads
import Derived.Lib.SlBytesConst
namespace Go.Proofs.Ytjmcjekhgpakoaa.Eng
open Go
set_option linter.unusedSimpArgs false
set_option linter.unusedVariables false
inductive Ch where
 | blk (b:Nat) (o:Obj) (rw:Bool)
 | inv (F:Nat→Prop) (Φ:World→Prop) (rw:Bool)
def Ch.F:Ch→Nat→Prop
 | .blk b _ _=>fun k=>k=b
 | .inv F _ _=>F
def Ch.rw:Ch→Bool
 | .blk _ _ r=>r
 | .inv _ _ r=>r
def Ch.holds:Ch→World→Prop
 | .blk b o _=>fun w=>w.heap[b]? = some o
 | .inv _ Φ _=>Φ
def Ch.stable(c:Ch):Prop:=∀ w w':World,(∀ b,c.F b→w'.heap[b]? = w.heap[b]?)→c.holds w→c.holds w'
theorem Ch.DI(b:Nat)(o:Obj)(r:Bool):(Ch.blk b o r).stable:=fun w w' h hw=>(h b rfl).trans hw
abbrev Key:=(Nat→Prop)×Bool
def Ch.key(c:Ch):Key:=(c.F,c.rw)
def Key.apart(c d:Key):Prop:=(c.2=true∨d.2=true)→∀ b,c.1 b→¬ d.1 b
structure AW where
 w0:World
 n:Nat
 σ:List Ch
structure Sat(A:AW)(w:World):Prop where
 os:w.os=A.w0.os
 tape:w.tape=A.w0.tape
 output:w.output=A.w0.output
 size:w.heap.size=A.n
 all:∀ c∈A.σ,c.holds w
 bnd:∀ c∈A.σ,∀ b,c.F b→b<A.n
 KQ:∀ c∈A.σ,c.stable
 Js:(A.σ.map Ch.key).Pairwise Key.apart
theorem Sat.at{A:AW}{w:World}(h:Sat A w){i:Nat}{c:Ch}(hc:A.σ[i]? = some c):c.holds w:=h.all _ (List.mem_of_getElem? hc)
theorem Sat.drew{A:AW}{w:World}(h:Sat A w):Sat A w.drew := 
 ⟨h.os,h.tape,h.output,h.size,fun c hc=>h.KQ c hc w w.drew (fun _ _=>rfl) (h.all c hc),h.bnd,h.KQ,h.Js⟩
theorem Ir{l:List Key}(h:l.Pairwise Key.apart){i j:Nat}{c d:Key}(hi:l[i]? = some c)(hj:l[j]? = some d)(hij:i≠j)(hr:c.2=true):∀ b,c.1 b→¬ d.1 b:=by
 obtain⟨hi',rfl⟩:=List.getElem?_eq_some_iff.1 hi
 obtain⟨hj',rfl⟩:=List.getElem?_eq_some_iff.1 hj
 rcases Nat.lt_or_gt_of_ne hij with hlt | hlt
 ·exact List.pairwise_iff_getElem.1 h i j hi' hj' hlt (.inl hr)
 intro b hb hd
 exact List.pairwise_iff_getElem.1 h j i hj' hi' hlt (.inr hr) b hd hb
theorem Sat.put{A:AW}{w w':World}(h:Sat A w){i:Nat}{c c':Ch}(hc:A.σ[i]? = some c)(hrw:c.rw=true)(hk:c'.key=c.key)(hst:c'.stable)
   (hos:w'.os=w.os) (htp:w'.tape=w.tape) (hout:w'.output=w.output) (hsz:w'.heap.size=w.heap.size)
   (hb:∀ b,¬ c.F b→w'.heap[b]? = w.heap[b]?) (hh:c'.holds w'):Sat { A with σ:=A.σ.set i c' } w':=by
 have hF:c'.F=c.F:=congrArg Prod.fst hk
 obtain⟨hi,hci⟩:=List.getElem?_eq_some_iff.1 hc
 have hmap:(A.σ.set i c').map Ch.key=A.σ.map Ch.key:=by
   rw[List.map_set,hk]
   apply List.ext_getElem?
   intro j
   rw[List.getElem?_set]
   split
   · rename_i hij;subst hij;simp[hc,hi,hci]
   · rfl
 refine⟨hos.trans h.os,htp.trans h.tape,hout.trans h.output,hsz.trans h.size, ?_, ?_, ?_, ?_⟩
 · intro d hd
   obtain⟨j,hj⟩:=List.getElem?_of_mem hd
   by_cases hij:i=j
   · subst hij;rw[List.getElem?_set_self hi]at hj;cases hj;exact hh
   · rw[List.getElem?_set_ne hij]at hj
     refine h.KQ d (List.mem_of_getElem? hj) w w' (fun b hbd=>hb b (fun hcb => ?_)) (h.at hj)
     exact Ir h.Js (i:=i) (j:=j) (by rw[List.getElem?_map,hc];rfl) (by rw[List.getElem?_map,hj];rfl) hij hrw b hcb hbd
 · intro d hd b hbd
   rcases List.mem_or_eq_of_mem_set hd with hd | rfl
   · exact h.bnd d hd b hbd
   · exact h.bnd c (List.mem_of_getElem? hc) b (by rw[←hF];exact hbd)
 · intro d hd
   rcases List.mem_or_eq_of_mem_set hd with hd | rfl
   · exact h.KQ d hd
   · exact hst
 · rw[hmap];exact h.Js
theorem Sat.new{A:AW}{w:World}(h:Sat A w)(o:Obj):Sat { A with n:=A.n+1,σ:=A.σ++[.blk A.n o true] } { w with heap:=w.heap.push o }:=by
 have hget:∀ b,b<A.n→(w.heap.push o)[b]? = w.heap[b]? := fun b hb=>by
  rw[Array.getElem?_push,if_neg (by rw[h.size];omega)]
 refine⟨h.os,h.tape,h.output,by simp[h.size], ?_, ?_, ?_, ?_⟩
 ·intro c hc
  rcases List.mem_append.1 hc with hc | hc
  ·exact h.KQ c hc w _ (fun b hb=>hget b (h.bnd c hc b hb)) (h.all c hc)
  simp only[List.mem_singleton]at hc;subst hc
  show(w.heap.push o)[A.n]? = some o
  rw[Array.getElem?_push,if_pos h.size.symm]
 ·intro c hc b hb
  show b<A.n+1
  rcases List.mem_append.1 hc with hc | hc
  ·have:=h.bnd c hc b hb;omega
  simp only[List.mem_singleton]at hc;subst hc;cases hb;omega
 ·intro c hc
  rcases List.mem_append.1 hc with hc | hc
  ·exact h.KQ c hc
  simp only[List.mem_singleton]at hc;subst hc;exact Ch.DI _ _ _
 show((A.σ++[Ch.blk A.n o true]).map Ch.key).Pairwise Key.apart
 rw[List.map_append,List.pairwise_append]
 refine⟨h.Js,by simp, ?_⟩
 intro k hk k' hk' _ b hb hb'
 simp only[List.map_cons,List.map_nil,List.mem_singleton]at hk'
 subst hk'
 obtain⟨c,hc,rfl⟩:=List.mem_map.1 hk
 have h1:=h.bnd c hc b hb
 have h2:b=A.n:=hb'
 omega
inductive LC where
 | at (i:Nat)
 | atv (i:Nat) (v:Value)
 | via (i:Nat) (v:Value)
 | shp (i:Nat) (t n:Nat)
def Fv:List Prop→Prop
 | []=>True
 | p :: l=>p∧Fv l
theorem CS{l m:List Prop}:Fv (l++m)↔Fv l∧Fv m:=by
 induction l with
 | nil=>simp[Fv]
 | cons p l ih=>simp[Fv,ih,and_assoc]
def scalar:Value→Bool
 | .agg _=>false
 | .tuple _=>false
 | _=>true
abbrev Lt(α:Type):=Option (List Prop×List LC×α×AW)
def Lt.and{α:Type}(ps:List Prop)(r:Lt α):Lt α:=match r with
 | some (qs,x)=>some (ps++qs,x)
 | none=>none
theorem Lt.EL{α:Type}{ps vs:List Prop}{r:Lt α}{x:List LC×α×AW}(h:Lt.and ps r=some (vs,x)):∃ qs,r=some (qs,x)∧vs=ps++qs:=by
 unfold Lt.and at h
 split at h
 ·rename_i qs y;simp at h;exact⟨qs,by rw[h.2],h.1.symm⟩
 cases h
def CE(P:Program)(ro:Bool){α:Type}:Sem α→List LC→AW→Lt α
 | .pure a,cs,A=>some ([],cs,a,A)
 | .load _ a k,.at i :: cs,A=>match A.σ[i]? with
  | some (.blk b (.cells c _ _) _)=>match a.spot,c[a.off]? with
   | none,some v=>(CE P ro (k v) cs A).and [a.block=b]
   | _,_=>none
  | _=>none
 | .load _ a k,.atv i v :: cs,A=>match A.σ[i]? with
  | some (.blk b (.cells c _ _) _)=>(CE P ro (k v) cs A).and [a.spot=none,a.block=b,c[a.off]? = some v]
  | _=>none
 | .load _ a k,.via i v :: cs,A=>match A.σ[i]? with
  | some c=>(CE P ro (k v) cs A).and [∀ w,c.holds w→w.cell? a=some v]
  | _=>none
 | .load _ _ _,_,_=>none
 | .store _ a v k,.at i :: cs,A=>match A.σ[i]? with
  | some (.blk b (.cells c t (0,0)) true)=>match ro,scalar v,c[a.off]?,a.spot with
   | false,true,some _,none=>(CE P ro k cs { A with σ:=A.σ.set i (.blk b (.cells (c.setIfInBounds a.off v) t (0,0)) true) }).and [a.block=b]
   | _,_,_,_=>none
  | _=>none
 | .store _ a v k,.atv i _ :: cs,A=>match A.σ[i]? with
  | some (.blk b (.cells c t (0,0)) true)=>match ro,scalar v with
   | false,true=>(CE P ro k cs { A with σ:=A.σ.set i (.blk b (.cells (c.setIfInBounds a.off v) t (0,0)) true) }).and [a.spot=none,a.block=b,a.off<c.size]
   | _,_=>none
  | _=>none
 | .store _ _ _ _,_,_=>none
 | .new o k,cs,A=>match ro with
  | false=>CE P ro (k A.n) cs { A with n:=A.n+1,σ:=A.σ++[.blk A.n o true] }
  | true=>none
 | .shape r k,.at i :: cs,A=>match A.σ[i]? with
  | some (.blk b (.cells c t _) _)=>(CE P ro (k (some (t,c.size))) cs A).and [r=b]
  | some (.blk b (.map _ _) _)=>(CE P ro (k none) cs A).and [r=b]
  | _=>none
 | .shape r k,.shp i t n :: cs,A=>match A.σ[i]? with
  | some c=>(CE P ro (k (some (t,n))) cs A).and [∀ w,c.holds w→w.shape? r=some (t,n)]
  | _=>none
 | .shape _ _,_,_=>none
 | .freeze _ _ _,_,_=>none
 | .frozen a k,.at i :: cs,A=>match A.σ[i]? with
  | some (.blk b (.cells _ _ (0,0)) _)=>(CE P ro (k false) cs A).and [a.block=b]
  | _=>none
 | .frozen _ _,_,_=>none
 | .getObj r k,.at i :: cs,A=>match A.σ[i]? with
  | some (.blk b (.map es c) _)=>(CE P ro (k (.map es c)) cs A).and [r=b]
  | _=>none
 | .getObj _ _,_,_=>none
 | .setObj r o k,.at i :: cs,A=>match A.σ[i]? with
  | some (.blk b (.map _ _) true)=>match ro with
   | false=>(CE P ro k cs { A with σ:=A.σ.set i (.blk b o true) }).and [r=b]
   | true=>none
  | _=>none
 | .setObj _ _ _,_,_=>none
 | .choose _ _,_,_=>none
 | .sys _ _,_,_=>none
 | .program k,cs,A=>CE P ro (k P) cs A
 | .mark _ k,cs,A=>CE P ro k cs A
 | .halt _,_,_=>none
theorem Q8(w:World)(a:Addr)(v:Value)(b:Nat)(h:¬ b=a.block):(w.setCell a v).heap[b]? = w.heap[b]? := by
 simp only[World.setCell,Array.getElem?_modify]
 rw[if_neg (fun e=>h e.symm)]
theorem Pi(w:World)(a:Addr)(v:Value)(c:Array Value)(t:TypeId)(f:Nat×Nat)(hs:a.spot=none)(h:w.heap[a.block]? = some (.cells c t f)) :
   (w.setCell a v).heap[a.block]? = some (.cells (c.setIfInBounds a.off v) t f):=by
 simp only[World.setCell,Array.getElem?_modify,if_true,h,Option.map_some,hs,Option.isSome_none,Bool.false_eq_true,if_false]
theorem run_store{P:Program}{α:Type}{m:_root_.Go.Mode}{a:Addr}{v:Value}{k:Sem α}{w:World}(hs:scalar v=true){x:Value}(hc:w.cell? a=some x)(hf:w.frozen? a=false) :
   (Sem.store m a v k).run P w=k.run P (w.setCell a v):=by
 cases v <;> first | (simp[scalar]at hs;done) | simp[Sem.run,hc,hf]
theorem XF{P:Program}{ro:Bool}{α:Type}(s:Sem α):∀ (cs:List LC) (A:AW) (vs:List Prop) (cs':List LC) (x:α) (A':AW),CE P ro s cs A=some (vs,cs',x,A')→Fv vs→∀ w,Sat A w→∃ w',s.run P w = .ok x w'∧Sat A' w'∧A'.w0=A.w0:=by
 induction s with
 | pure a =>
  intro cs A vs cs' x A' h hv w hw
  simp only[CE,Option.some.injEq,Prod.mk.injEq]at h
  obtain⟨-, -,rfl,rfl⟩:=h
  exact⟨w,rfl,hw,rfl⟩
 | load m a k ih =>
  intro cs A vs cs' x A' h hv w hw
  cases cs with
  | nil=>simp[CE]at h
  | cons c cs =>
   cases c with
   | «at» i =>
    simp only[CE]at h
    split at h
    ·rename_i b c t f r hi
     split at h
     ·rename_i v h1 hc
      obtain⟨qs,h',rfl⟩:=Lt.EL h
      rw[CS]at hv
      obtain⟨⟨h2, -⟩,hv⟩:=hv
      have hb:w.heap[a.block]? = some (.cells c t f):=h2 ▸ hw.at hi
      have hcell:w.cell? a=some v:=by simp[World.cell?,hb,h1,hc]
      obtain⟨w',hr,hs⟩:=ih v cs A qs cs' x A' h' hv w hw
      exact⟨w',by simp[Sem.run,hcell,hr],hs⟩
     cases h
    cases h
   | atv i v =>
    simp only[CE]at h
    split at h
    ·rename_i b c t f r hi
     obtain⟨qs,h',rfl⟩:=Lt.EL h
     rw[CS]at hv
     obtain⟨⟨h1,h2,h3, -⟩,hv⟩:=hv
     have hb:w.heap[a.block]? = some (.cells c t f):=h2 ▸ hw.at hi
     have hcell:w.cell? a=some v:=by simp[World.cell?,hb,h1,h3]
     obtain⟨w',hr,hs⟩:=ih v cs A qs cs' x A' h' hv w hw
     exact⟨w',by simp[Sem.run,hcell,hr],hs⟩
    cases h
   | via i v =>
    simp only[CE]at h
    split at h
    ·rename_i c hi
     obtain⟨qs,h',rfl⟩:=Lt.EL h
     rw[CS]at hv
     obtain⟨⟨h1, -⟩,hv⟩:=hv
     have hcell:w.cell? a=some v:=h1 w (hw.at hi)
     obtain⟨w',hr,hs⟩:=ih v cs A qs cs' x A' h' hv w hw
     exact⟨w',by simp[Sem.run,hcell,hr],hs⟩
    cases h
   | shp i t n=>simp[CE]at h
 | store m a v k ih =>
  intro cs A vs cs' x A' h hv w hw
  cases cs with
  | nil=>simp[CE]at h
  | cons c cs =>
   cases c with
   | «at» i =>
    simp only[CE]at h
    split at h
    ·rename_i b c t hi
     split at h
     ·rename_i y hsc hc h1
      obtain⟨qs,h',rfl⟩:=Lt.EL h
      rw[CS]at hv
      obtain⟨⟨h2, -⟩,hv⟩:=hv
      have hb:w.heap[a.block]? = some (.cells c t (0,0)):=h2 ▸ hw.at hi
      have hcell:w.cell? a=some y:=by simp[World.cell?,hb,h1,hc]
      have hfz:w.frozen? a=false:=by simp[World.frozen?,hb]
      have hs':=hw.put (w':=w.setCell a v) hi rfl (c':= .blk b (.cells (c.setIfInBounds a.off v) t (0,0)) true) rfl (Ch.DI _ _ _) rfl rfl rfl (by simp[World.setCell]) (fun k hk=>Q8 w a v k (fun e=>hk (e.trans h2))) (by subst h2;exact Pi w a v c t _ h1 hb)
      obtain⟨w',hr,hs⟩:=ih cs _ qs cs' x A' h' hv _ hs'
      exact⟨w',by rw[run_store hsc hcell hfz];exact hr,hs⟩
     cases h
    cases h
   | atv i _ =>
    simp only[CE]at h
    split at h
    ·rename_i b c t hi
     split at h
     ·rename_i _ hsc
      obtain⟨qs,h',rfl⟩:=Lt.EL h
      rw[CS]at hv
      obtain⟨⟨h1,h2,h3, -⟩,hv⟩:=hv
      have hb:w.heap[a.block]? = some (.cells c t (0,0)):=h2 ▸ hw.at hi
      have hcell:w.cell? a=some c[a.off]:=by simp[World.cell?,hb,h1,h3]
      have hfz:w.frozen? a=false:=by simp[World.frozen?,hb]
      have hs':=hw.put (w':=w.setCell a v) hi rfl (c':= .blk b (.cells (c.setIfInBounds a.off v) t (0,0)) true) rfl (Ch.DI _ _ _) rfl rfl rfl (by simp[World.setCell]) (fun k hk=>Q8 w a v k (fun e=>hk (e.trans h2))) (by subst h2;exact Pi w a v c t _ h1 hb)
      obtain⟨w',hr,hs⟩:=ih cs _ qs cs' x A' h' hv _ hs'
      exact⟨w',by rw[run_store hsc hcell hfz];exact hr,hs⟩
     cases h
    cases h
   | via i v=>simp[CE]at h
   | shp i t n=>simp[CE]at h
 | new o k ih =>
  intro cs A vs cs' x A' h hv w hw
  simp only[CE]at h
  split at h
  ·obtain⟨w',hr,hs⟩:=ih A.n cs _ vs cs' x A' h hv _ (hw.new o)
   exact⟨w',by simp only[Sem.run,hw.size];exact hr,hs⟩
  cases h
 | shape r k ih =>
  intro cs A vs cs' x A' h hv w hw
  cases cs with
  | nil=>simp[CE]at h
  | cons c cs =>
   cases c with
   | «at» i =>
    simp only[CE]at h
    split at h
    ·rename_i b c t f rw hi
     obtain⟨qs,h',rfl⟩:=Lt.EL h
     rw[CS]at hv
     obtain⟨⟨h1, -⟩,hv⟩:=hv
     have hb:w.heap[r]? = some (.cells c t f):=h1 ▸ hw.at hi
     obtain⟨w',hr,hs⟩:=ih _ cs A qs cs' x A' h' hv w hw
     exact⟨w',by simp[Sem.run,World.shape?,hb,hr],hs⟩
    ·rename_i b es c rw hi
     obtain⟨qs,h',rfl⟩:=Lt.EL h
     rw[CS]at hv
     obtain⟨⟨h1, -⟩,hv⟩:=hv
     have hb:w.heap[r]? = some (.map es c):=h1 ▸ hw.at hi
     obtain⟨w',hr,hs⟩:=ih _ cs A qs cs' x A' h' hv w hw
     exact⟨w',by simp[Sem.run,World.shape?,hb,hr],hs⟩
    cases h
   | atv i v=>simp[CE]at h
   | via i v=>simp[CE]at h
   | shp i t n =>
    simp only[CE]at h
    split at h
    ·rename_i c hi
     obtain⟨qs,h',rfl⟩:=Lt.EL h
     rw[CS]at hv
     obtain⟨⟨h1, -⟩,hv⟩:=hv
     obtain⟨w',hr,hs⟩:=ih _ cs A qs cs' x A' h' hv w hw
     exact⟨w',by simp[Sem.run,h1 w (hw.at hi),hr],hs⟩
    cases h
 | freeze a n k ih=>intro cs A vs cs' x A' h;simp[CE]at h
 | frozen a k ih =>
  intro cs A vs cs' x A' h hv w hw
  cases cs with
  | nil=>simp[CE]at h
  | cons c cs =>
   cases c with
   | «at» i =>
    simp only[CE]at h
    split at h
    ·rename_i b c t rw hi
     obtain⟨qs,h',rfl⟩:=Lt.EL h
     rw[CS]at hv
     obtain⟨⟨h1, -⟩,hv⟩:=hv
     have hb:w.heap[a.block]? = some (.cells c t (0,0)):=h1 ▸ hw.at hi
     have hfz:w.frozen? a=false:=by simp[World.frozen?,hb]
     obtain⟨w',hr,hs⟩:=ih _ cs A qs cs' x A' h' hv w hw
     exact⟨w',by simp[Sem.run,hfz,hr],hs⟩
    cases h
   | atv i v=>simp[CE]at h
   | via i v=>simp[CE]at h
   | shp i t n=>simp[CE]at h
 | getObj r k ih =>
  intro cs A vs cs' x A' h hv w hw
  cases cs with
  | nil=>simp[CE]at h
  | cons c cs =>
   cases c with
   | «at» i =>
    simp only[CE]at h
    split at h
    ·rename_i b es c rw hi
     obtain⟨qs,h',rfl⟩:=Lt.EL h
     rw[CS]at hv
     obtain⟨⟨h1, -⟩,hv⟩:=hv
     have hb:w.heap[r]? = some (.map es c):=h1 ▸ hw.at hi
     obtain⟨w',hr,hs⟩:=ih _ cs A qs cs' x A' h' hv w hw
     exact⟨w',by simp[Sem.run,hb,hr],hs⟩
    cases h
   | atv i v=>simp[CE]at h
   | via i v=>simp[CE]at h
   | shp i t n=>simp[CE]at h
 | setObj r o k ih =>
  intro cs A vs cs' x A' h hv w hw
  cases cs with
  | nil=>simp[CE]at h
  | cons c cs =>
   cases c with
   | «at» i =>
    simp only[CE]at h
    split at h
    ·rename_i b es c hi
     split at h
     case h_2=>cases h
     obtain⟨qs,h',rfl⟩:=Lt.EL h
     rw[CS]at hv
     obtain⟨⟨h1, -⟩,hv⟩:=hv
     have hb:w.heap[r]? = some (.map es c):=h1 ▸ hw.at hi
     have hlt:r<w.heap.size:=(Array.getElem?_eq_some_iff.1 hb).1
     have hs':=hw.put (w':={ w with heap:=w.heap.setIfInBounds r o }) hi rfl (c':= .blk b o true) rfl (Ch.DI _ _ _) rfl rfl rfl (by simp) (fun k hk=>by
      have hne:r≠k:=fun e=>hk (show k=b from e ▸ h1)
      simp[Array.getElem?_setIfInBounds_ne hne]) (by subst h1;simp[Ch.holds,hlt])
     obtain⟨w',hr,hs⟩:=ih cs _ qs cs' x A' h' hv _ hs'
     exact⟨w',by simp[Sem.run,hb];exact hr,hs⟩
    cases h
   | atv i v=>simp[CE]at h
   | via i v=>simp[CE]at h
   | shp i t n=>simp[CE]at h
 | choose q k ih=>intro cs A vs cs' x A' h;simp[CE]at h
 | sys c k ih=>intro cs A vs cs' x A' h;simp[CE]at h
 | program k ih =>
  intro cs A vs cs' x A' h hv w hw
  simp only[CE]at h
  obtain⟨w',hr,hs⟩:=ih P cs _ vs cs' x A' h hv _ hw
  exact⟨w',by simp only[Sem.run];exact hr,hs⟩
 | mark m k ih =>
  intro cs A vs cs' x A' h hv w hw
  simp only[CE]at h
  obtain⟨w',hr,hs⟩:=ih cs _ vs cs' x A' h hv _ hw
  exact⟨w',by simp only[Sem.run];exact hr,hs⟩
 | halt h'=>intro cs A vs cs' x A' h;simp[CE]at h
theorem LU{P:Program}{α:Type}(s:Sem α):∀ (cs:List LC) (A:AW) (vs:List Prop) (cs':List LC) (x:α) (A':AW),CE P true s cs A=some (vs,cs',x,A')→Fv vs→∀ w:World,(∀ c∈A.σ,c.holds w)→s.run P w = .ok x w∧A'=A:=by
 induction s with
 | pure a =>
  intro cs A vs cs' x A' h hv w hw
  simp only[CE,Option.some.injEq,Prod.mk.injEq]at h
  obtain⟨-, -,rfl,rfl⟩:=h
  exact⟨rfl,rfl⟩
 | load m a k ih =>
  intro cs A vs cs' x A' h hv w hw
  cases cs with
  | nil=>simp[CE]at h
  | cons c cs =>
   cases c with
   | «at» i =>
    simp only[CE]at h
    split at h
    ·rename_i b c t f r hi
     split at h
     ·rename_i v h1 hc
      obtain⟨qs,h',rfl⟩:=Lt.EL h
      rw[CS]at hv
      obtain⟨⟨h2, -⟩,hv⟩:=hv
      have hb:w.heap[a.block]? = some (.cells c t f):=h2 ▸ hw _ (List.mem_of_getElem? hi)
      have hcell:w.cell? a=some v:=by simp[World.cell?,hb,h1,hc]
      obtain⟨hr,hs⟩:=ih v cs A qs cs' x A' h' hv w hw
      exact⟨by simp[Sem.run,hcell,hr],hs⟩
     cases h
    cases h
   | atv i v =>
    simp only[CE]at h
    split at h
    ·rename_i b c t f r hi
     obtain⟨qs,h',rfl⟩:=Lt.EL h
     rw[CS]at hv
     obtain⟨⟨h1,h2,h3, -⟩,hv⟩:=hv
     have hb:w.heap[a.block]? = some (.cells c t f):=h2 ▸ hw _ (List.mem_of_getElem? hi)
     have hcell:w.cell? a=some v:=by simp[World.cell?,hb,h1,h3]
     obtain⟨hr,hs⟩:=ih v cs A qs cs' x A' h' hv w hw
     exact⟨by simp[Sem.run,hcell,hr],hs⟩
    cases h
   | via i v =>
    simp only[CE]at h
    split at h
    ·rename_i c hi
     obtain⟨qs,h',rfl⟩:=Lt.EL h
     rw[CS]at hv
     obtain⟨⟨h1, -⟩,hv⟩:=hv
     have hcell:w.cell? a=some v:=h1 w (hw _ (List.mem_of_getElem? hi))
     obtain⟨hr,hs⟩:=ih v cs A qs cs' x A' h' hv w hw
     exact⟨by simp[Sem.run,hcell,hr],hs⟩
    cases h
   | shp i t n=>simp[CE]at h
 | store m a v k ih =>
  intro cs A vs cs' x A' h
  cases cs with
  | nil=>simp[CE]at h
  | cons c cs=>cases c <;> (simp only[CE]at h;repeat (split at h)) <;> simp_all
 | new o k ih=>intro cs A vs cs' x A' h;simp[CE]at h
 | shape r k ih =>
  intro cs A vs cs' x A' h hv w hw
  cases cs with
  | nil=>simp[CE]at h
  | cons c cs =>
   cases c with
   | «at» i =>
    simp only[CE]at h
    split at h
    ·rename_i b c t f rw hi
     obtain⟨qs,h',rfl⟩:=Lt.EL h
     rw[CS]at hv
     obtain⟨⟨h1, -⟩,hv⟩:=hv
     have hb:w.heap[r]? = some (.cells c t f):=h1 ▸ hw _ (List.mem_of_getElem? hi)
     obtain⟨hr,hs⟩:=ih _ cs A qs cs' x A' h' hv w hw
     exact⟨by simp[Sem.run,World.shape?,hb,hr],hs⟩
    ·rename_i b es c rw hi
     obtain⟨qs,h',rfl⟩:=Lt.EL h
     rw[CS]at hv
     obtain⟨⟨h1, -⟩,hv⟩:=hv
     have hb:w.heap[r]? = some (.map es c):=h1 ▸ hw _ (List.mem_of_getElem? hi)
     obtain⟨hr,hs⟩:=ih _ cs A qs cs' x A' h' hv w hw
     exact⟨by simp[Sem.run,World.shape?,hb,hr],hs⟩
    cases h
   | atv i v=>simp[CE]at h
   | via i v=>simp[CE]at h
   | shp i t n =>
    simp only[CE]at h
    split at h
    ·rename_i c hi
     obtain⟨qs,h',rfl⟩:=Lt.EL h
     rw[CS]at hv
     obtain⟨⟨h1, -⟩,hv⟩:=hv
     obtain⟨hr,hs⟩:=ih _ cs A qs cs' x A' h' hv w hw
     exact⟨by simp[Sem.run,h1 w (hw _ (List.mem_of_getElem? hi)),hr],hs⟩
    cases h
 | freeze a n k ih=>intro cs A vs cs' x A' h;simp[CE]at h
 | frozen a k ih =>
  intro cs A vs cs' x A' h hv w hw
  cases cs with
  | nil=>simp[CE]at h
  | cons c cs =>
   cases c with
   | «at» i =>
    simp only[CE]at h
    split at h
    ·rename_i b c t rw hi
     obtain⟨qs,h',rfl⟩:=Lt.EL h
     rw[CS]at hv
     obtain⟨⟨h1, -⟩,hv⟩:=hv
     have hb:w.heap[a.block]? = some (.cells c t (0,0)):=h1 ▸ hw _ (List.mem_of_getElem? hi)
     have hfz:w.frozen? a=false:=by simp[World.frozen?,hb]
     obtain⟨hr,hs⟩:=ih _ cs A qs cs' x A' h' hv w hw
     exact⟨by simp[Sem.run,hfz,hr],hs⟩
    cases h
   | atv i v=>simp[CE]at h
   | via i v=>simp[CE]at h
   | shp i t n=>simp[CE]at h
 | getObj r k ih =>
  intro cs A vs cs' x A' h hv w hw
  cases cs with
  | nil=>simp[CE]at h
  | cons c cs =>
   cases c with
   | «at» i =>
    simp only[CE]at h
    split at h
    ·rename_i b es c rw hi
     obtain⟨qs,h',rfl⟩:=Lt.EL h
     rw[CS]at hv
     obtain⟨⟨h1, -⟩,hv⟩:=hv
     have hb:w.heap[r]? = some (.map es c):=h1 ▸ hw _ (List.mem_of_getElem? hi)
     obtain⟨hr,hs⟩:=ih _ cs A qs cs' x A' h' hv w hw
     exact⟨by simp[Sem.run,hb,hr],hs⟩
    cases h
   | atv i v=>simp[CE]at h
   | via i v=>simp[CE]at h
   | shp i t n=>simp[CE]at h
 | setObj r o k ih =>
  intro cs A vs cs' x A' h
  cases cs with
  | nil=>simp[CE]at h
  | cons c cs=>cases c <;> (simp only[CE]at h;repeat (split at h)) <;> simp_all
 | choose q k ih=>intro cs A vs cs' x A' h;simp[CE]at h
 | sys c k ih=>intro cs A vs cs' x A' h;simp[CE]at h
 | program k ih =>
  intro cs A vs cs' x A' h hv w hw
  simp only[CE]at h
  obtain⟨hr,hs⟩:=ih P cs _ vs cs' x A' h hv _ hw
  exact⟨by simp only[Sem.run];exact hr,hs⟩
 | mark m k ih =>
  intro cs A vs cs' x A' h hv w hw
  simp only[CE]at h
  obtain⟨hr,hs⟩:=ih cs _ vs cs' x A' h hv _ hw
  exact⟨by simp only[Sem.run];exact hr,hs⟩
 | halt h'=>intro cs A vs cs' x A' h;simp[CE]at h
abbrev Env:=List (Nat×Value)
def look:Env→Nat→Option Value
 | [],_=>none
 | (k,v) :: r,t=>bif Nat.beq k t then some v else look r t
def WZ:Env→Nat→Env
 | [],_=>[]
 | (k,v) :: r,t=>bif Nat.beq k t then WZ r t else(k,v) :: WZ r t
def Gy(env:Env)(d:Option Nat)(v:Value):Env:=match d with
 | none=>env
 | some t=>(t,v) :: WZ env t
def dropE(env:Env)(d:Option Nat):Env:=match d with
 | none=>env
 | some t=>WZ env t
def JZ:List Nat→Env→Env
 | [],_=>[]
 | t :: ts,env=>match look env t with
  | some v=>(t,v) :: JZ ts env
  | none=>JZ ts env
theorem look_del{env:Env}{t u:Nat}{v:Value}(h:look (WZ env t) u=some v):u≠t∧look env u=some v:=by
 induction env with
 | nil=>simp[WZ,look]at h
 | cons p r ih =>
  obtain⟨k,x⟩:=p
  simp only[WZ]at h
  cases hk:Nat.beq k t with
  | true =>
   simp only[hk,cond_true]at h
   obtain⟨h1,h2⟩:=ih h
   have hkt:k=t:=Nat.eq_of_beq_eq_true hk
   refine⟨h1, ?_⟩
   simp only[look]
   have:Nat.beq k u=false:=by
    cases hb:Nat.beq k u with
    | false=>rfl
    | true=>exact absurd ((Nat.eq_of_beq_eq_true hb).symm.trans hkt) h1
   rw[this];exact h2
  | false =>
   simp only[hk,cond_false,look]at h
   simp only[look]
   cases hb:Nat.beq k u with
   | true =>
    rw[hb]at h
    refine⟨fun e => ?_,h⟩
    have h1:=Nat.eq_of_beq_eq_true hb
    rw[h1,e]at hk
    rw[Nat.beq_refl]at hk;cases hk
   | false=>rw[hb]at h;exact ih h
theorem Jg{ts:List Nat}{env:Env}{u:Nat}{v:Value}(h:look (JZ ts env) u=some v):look env u=some v:=by
 induction ts with
 | nil=>simp[JZ,look]at h
 | cons t ts ih =>
  simp only[JZ]at h
  split at h
  ·rename_i x hx
   simp only[look]at h
   cases hb:Nat.beq t u with
   | true=>rw[hb]at h;have:=Nat.eq_of_beq_eq_true hb;subst this;simp at h;rw[hx,h]
   | false=>rw[hb]at h;exact ih h
  exact ih h
structure St(N:Nat)(env:Env)(ds:List Deferred)(A:AW)(a:Act)(w:World):Prop where
 sz:a.tmps.size=N
 df:a.defers=ds
 kn:∀ t v,look env t=some v→a.tmps.getD t undef=v
 mem:Sat A w
def known(env:Env):Operand→Bool
 | .tmp t=>(look env t).isSome
 | _=>true
def DL(env:Env):Operand→Value
 | .tmp t=>(look env t).getD undef
 | .const v=>v
 | .global g=> .pointer (some ⟨g,0,none⟩)
 | .func f=> .func (.func f) #[] #[]
theorem St.eval{N:Nat}{env:Env}{ds:List Deferred}{A:AW}{a:Act}{w:World}(h:St N env ds A a w){x:Operand}(hx:known env x=true):a.eval x=DL env x:=by
 cases x with
 | tmp t =>
  simp only[known,Option.isSome_iff_exists]at hx
  obtain⟨v,hv⟩:=hx
  simp only[Act.eval,DL,hv,Option.getD_some]
  exact h.kn t v hv
 | _=>rfl
theorem Zag(a:Array Value)(d t:Nat)(v:Value):(a.setIfInBounds d v).getD t undef=if d=t∧d<a.size then v else a.getD t undef:=by
 simp only[Array.getD_eq_getD_getElem?,Array.getElem?_setIfInBounds]
 by_cases h:d=t
 ·subst h
  by_cases h2:d<a.size
  ·simp[h2]
  simp[h2,Array.getElem?_eq_none (Nat.not_lt.1 h2)]
 simp[h]
def Jy(N:Nat):Option Nat→Bool
 | none=>true
 | some d=>Nat.blt d N
theorem St.put{N:Nat}{env:Env}{ds:List Deferred}{A A':AW}{a:Act}{w w':World}(h:St N env ds A a w)(hs:Sat A' w')(d:Option Nat)(hd:Jy N d=true)(v:Value):St N (Gy env d v) ds A' (a.put d v) w':=by
 cases d with
 | none=>exact⟨h.sz,h.df,h.kn,hs⟩
 | some d =>
  have hlt:d<N:=by simpa[Jy]using hd
  refine⟨by simp[Act.put,h.sz],h.df,fun t x hx => ?_,hs⟩
  simp only[Act.put,Zag,h.sz]
  simp only[Gy,look]at hx
  cases hb:Nat.beq d t with
  | true =>
   rw[hb]at hx
   simp only[cond_true,Option.some.injEq]at hx
   rw[if_pos ⟨Nat.eq_of_beq_eq_true hb,hlt⟩];exact hx
  | false =>
   rw[hb]at hx
   simp only[cond_false]at hx
   have:=look_del hx
   rw[if_neg (fun e=>this.1 e.1.symm)]
   exact h.kn t x this.2
theorem St.drop{N:Nat}{env:Env}{ds:List Deferred}{A:AW}{a:Act}{w:World}(h:St N env ds A a w)(d:Option Nat)(v:Value):St N (dropE env d) ds A (a.put d v) w:=by
 cases d with
 | none=>exact h
 | some d =>
  refine⟨by simp[Act.put,h.sz],h.df,fun t x hx => ?_,h.mem⟩
  simp only[Act.put,Zag,h.sz]
  have:=look_del hx
  rw[if_neg (fun e=>this.1 e.1.symm)]
  exact h.kn t x this.2
theorem St.sub{N:Nat}{env env':Env}{ds:List Deferred}{A:AW}{a:Act}{w:World}(h:St N env ds A a w)(he:∀ t v,look env' t=some v→look env t=some v):St N env' ds A a w :=
 ⟨h.sz,h.df,fun t v ht=>h.kn t v (he t v ht),h.mem⟩
def noSel:Op→Bool
 | .select _ _=>false
 | _=>true
theorem execOp_congr{ρ ρ':Operand→Value}{o:Oper}(hs:noSel o.op=true)(h:∀ x∈o.op.operands,ρ x=ρ' x):execOp ρ o=execOp ρ' o:=by
 have hcall:∀ (c:Call) (t:TypeId),(∀ x∈c.operands,ρ x=ρ' x)→resolve ρ c t=resolve ρ' c t:=by
  intro c t hc
  have hargs:c.args.map ρ=c.args.map ρ':=by
   apply Array.map_congr_left
   intro x hx
   exact hc x (by simp[Call.operands,hx])
  unfold resolve
  rw[hargs]
  cases hcal:c.callee with
  | value f=>simp only[hc f (by simp[Call.operands,hcal])]
  | invoke r m=>simp only[hc r (by simp[Call.operands,hcal])]
  | builtin b=>rfl
 have hparts:∀ (parts:Array (Nat×Operand)),(∀ x∈(parts.toList.map (·.2)).toArray,ρ x=ρ' x)→parts.map (fun(i,x)=>(i,ρ x))=parts.map (fun(i,x)=>(i,ρ' x)):=by
  intro parts hp
  apply Array.map_congr_left
  rintro⟨i,x⟩ hx
  have:=hp x (by simp;exact⟨i,hx⟩)
  simp[this]
 have hopt:∀ (r:Option Operand),(∀ x∈r.toArray,ρ x=ρ' x)→r.map ρ=r.map ρ':=by
  intro r hr
  cases r with
  | none=>rfl
  | some x=>simp[hr x (by simp)]
 have harr:∀ (r:Array Operand),(∀ x∈r,ρ x=ρ' x)→r.map ρ=r.map ρ':=fun r hr=>Array.map_congr_left hr
 unfold execOp
 cases hop:o.op <;> simp only[hop,Op.operands]at h <;> simp only[]
 case move x=>rw[h x (by simp)]
 case assign x=>rw[h x (by simp)]
 case pick c a b=>rw[h c (by simp),h a (by simp),h b (by simp)]
 case box e x=>rw[h x (by simp)]
 case build t ps=>rw[hparts ps h]
 case buildSlice t l ps=>rw[hparts ps h]
 case insert t m k v=>rw[h m (by simp),h k (by simp),h v (by simp)]
 case load t a=>rw[h a (by simp)]
 case store t a v=>rw[h a (by simp),h v (by simp)]
 case nilCheck x=>rw[h x (by simp)]
 case binOp op t x y u =>
  rw[h x (by simp),h y (by simp)]
 case unOp op t x=>rw[h x (by simp)]
 case convert s d x=>rw[h x (by simp)]
 case sliceToArrayPointer d x=>rw[h x (by simp)]
 case makeInterface t x=>rw[h x (by simp)]
 case makeFunc f a b=>rw[harr a (fun x hx=>h x (by simp[hx])),harr b (fun x hx=>h x (by simp[hx]))]
 case makeMap t r=>rw[hopt r h]
 case makeChan t s=>rw[h s (by simp)]
 case makeSlice t l c=>rw[h l (by simp),h c (by simp)]
 case slice t x lo hi mx=>rw[h x (by simp),hopt lo (fun x hx=>h x (by simp at hx;simp[hx])),hopt hi (fun x hx=>h x (by simp at hx;simp[hx])),hopt mx (fun x hx=>h x (by simp at hx;simp[hx]))]
 case fieldAddr t x f=>rw[h x (by simp)]
 case field t x f=>rw[h x (by simp)]
 case indexAddr t x i=>rw[h x (by simp),h i (by simp)]
 case index t x i=>rw[h x (by simp),h i (by simp)]
 case lookup t x i c=>rw[h x (by simp),h i (by simp)]
 case mapUpdate t m k v=>rw[h m (by simp),h k (by simp),h v (by simp)]
 case mapEntry t m k=>rw[h m (by simp),h k (by simp)]
 case entryStore t m k v=>rw[h m (by simp),h k (by simp),h v (by simp)]
 case range t x=>rw[h x (by simp)]
 case next i s=>rw[h i (by simp)]
 case entry i=>rw[h i (by simp)]
 case typeAssert x a b c=>rw[h x (by simp)]
 case extract t i=>rw[h t (by simp)]
 case call c=>rw[hcall c o.type h]
 case go c=>rw[hcall c o.type h]
 case defer c=>rw[hcall c o.type h]
 case panic x=>rw[h x (by simp)]
 case send c x=>rw[h c (by simp),h x (by simp)]
 case recv t c k=>simp only[h c (by simp)]
 case select cs b=>rw[hop]at hs;cases hs
inductive OK where
 | auto (cs:List LC)
 | idx (j:Nat)
 | aidx (j:Nat) (v:Value)
 | sidx (c:UInt8)
 | slc (l h:Nat) (moved:Bool)
 | row (i:Nat) (arr:Array Value)
 | seq (b:Bool)
 | aeq (b:Bool)
structure OC where
 k:OK
 asv:Option Value:=none
abbrev ORes:=Option (List Prop×Value×AW)
def RowAt(w:World)(b k:Nat)(arr:Array Value):Prop:=∀ i v,arr[i]? = some v→w.cell? ⟨b,k+i,none⟩=some v
def RowOf(c:Ch)(b k:Nat)(arr:Array Value):Prop:=∀ w,c.holds w→RowAt w b k arr
def EC(n j:Nat):Nat:=bif Nat.beq n 1 then j else j*n
theorem GL(n j:Nat):EC n j=j*n:=by
 unfold EC
 cases h:Nat.beq n 1 with
 | true=>have:=Nat.eq_of_beq_eq_true h;subst this;simp
 | false=>rfl
def Pn:Option Value→Nat→Option Int
 | none,d=>some d
 | some (.int _ i),_=>some i
 | some _,_=>none
def Y6(P:Program)(sub:TypeId→Array Value→Array Value→Option Bool)(xs ys:Array Value):List Field→Option Bool
 | []=>some true
 | f :: fs => match f.name == "_", P.underlying f.type, xs[f.offset]?, ys[f.offset]?, Y6 P sub xs ys fs with
  | false,some (.int _),some (.int k a),some (.int k' b),some r=>match decide (k=k')with
   | true=>some ((a==b)&&r)
   | false=>none
  | false,some .bool,some (.bool a),some (.bool b),some r=>some ((a==b)&&r)
  | false,some .string,some (.string a),some (.string b),some r=>some ((a==b)&&r)
  | false,some (.struct _),_,_,some r=>match sub f.type (xs.extract f.offset (f.offset+P.cellsOf f.type)) (ys.extract f.offset (f.offset+P.cellsOf f.type))with
   | some a=>some (a&&r)
   | none=>none
  | _,_,_,_,_=>none
def YD(P:Program):Nat→TypeId→Array Value→Array Value→Option Bool
 | 0,_,_,_=>none
 | n+1,t,xs,ys=>match P.stoodInHeld t,P.underlying t with
  | false,some (.struct fs)=>Y6 P (YD P n) xs ys fs.toList
  | _,_=>none
theorem Nb{P:Program}{t:TypeId}{d:TypeDesc}{cs:Array Value}{off:Nat}{v:Value}(hd:P.underlying t=some d)(h1:∀ x,d ≠ .struct x)(h2:∀ x y,d ≠ .array x y)(hv:cs[off]? = some v)(w:World):(part t cs off).run P w = .ok v w:=by
 have hagg:∀ w,(isAgg t).run P w = .ok false w:=by
  intro w
  cases d <;> first | (exact absurd rfl (h1 _)) | (exact absurd rfl (h2 _ _)) | simp[isAgg,underlying,program,Sem.run,hd]
 simp[part,hagg,hv,Sem.run]
theorem YP{P:Program}{t:TypeId}{fs:Array Field}{cs:Array Value}{off:Nat}(hd:P.underlying t=some (.struct fs))(w:World):(part t cs off).run P w = .ok (.agg (cs.extract off (off+P.cellsOf t))) w:=by
 have hagg:∀ w,(isAgg t).run P w = .ok true w:=by
  intro w
  simp[isAgg,underlying,program,Sem.run,hd]
 obtain⟨ti,hi, -⟩:∃ ti,P.info? t=some ti∧True:=by
  cases h:P.info? t with
  | none=>simp[Program.underlying,h]at hd
  | some ti=>exact⟨ti,rfl,trivial⟩
 simp[part,hagg,Sem.run_bind,run_sizeOf w hi,Program.cellsOf,hi]
theorem eqFw_run{P:Program}{xs ys:Array Value}{sub:TypeId→Array Value→Array Value→Option Bool}(d:Nat)(hsub:∀ t fs cs es r,P.underlying t=some (.struct fs)→sub t cs es=some r→∀ w,(Op.equalIn (d+1) t (.agg cs) (.agg es)).run P w = .ok r w):∀ (fs:List Field) (r:Bool),Y6 P sub xs ys fs=some r→∀ w,(Op.eqFields (d+1) xs ys fs).run P w = .ok r w
 | [],r,h,w=>by simp only[Y6,Option.some.injEq]at h;subst h;simp[Op.eqFields]
 | f :: fs,r,h,w=>by
  have key : ∀ (a b : Value) (e s : Bool), (f.name == "_") = false → (part f.type xs f.offset).run P w = .ok a w → (part f.type ys f.offset).run P w = .ok b w → (Op.equalIn (d + 1) f.type a b).run P w = .ok e w → Y6 P sub xs ys fs = some s → (Op.eqFields (d + 1) xs ys (f :: fs)).run P w = .ok (e && s) w := by
   intro a b e s hn ha hb he hs
   have ih:=eqFw_run d hsub fs s hs w
   have hn' : f.name ≠ "_" := by simpa using hn
   rw[Op.eqFields]
   simp only[if_pos hn',Sem.run_bind,ha,hb,he,Result.andThen_ok]
   cases e
   ·simp
   simpa using ih
  unfold Y6 at h
  split at h
  ·rename_i k0 k a k' b s hn hd ha hb hs
   split at h
   ·rename_i hk
    simp only[Option.some.injEq]at h;subst h
    have hk':=of_decide_eq_true hk;subst hk'
    exact key _ _ _ _ hn (Nb hd (by simp) (by simp) ha w) (Nb hd (by simp) (by simp) hb w) (run_equalIn_int w d f.type _ _ a b hd) hs
   cases h
  ·rename_i a b s hn hd ha hb hs
   simp only[Option.some.injEq]at h;subst h
   exact key _ _ _ _ hn (Nb hd (by simp) (by simp) ha w) (Nb hd (by simp) (by simp) hb w) (run_equalIn_bool' w d f.type a b hd) hs
  ·rename_i a b s hn hd ha hb hs
   simp only[Option.some.injEq]at h;subst h
   exact key _ _ _ _ hn (Nb hd (by simp) (by simp) ha w) (Nb hd (by simp) (by simp) hb w) (by rw[run_equalIn_string w d f.type a b hd,beq_toListBytes]) hs
  ·rename_i gs s hn hd hs
   split at h
   ·rename_i a hsb
    simp only[Option.some.injEq]at h;subst h
    exact key _ _ _ _ hn (YP hd w) (YP hd w) (hsub _ _ _ _ _ hd hsb w) hs
   cases h
  cases h
theorem eqSt_run{P:Program}(d:Nat):∀ (n:Nat) (t:TypeId) (xs ys:Array Value) (r:Bool),YD P n t xs ys=some r→∀ w,(Op.equalIn (d+1+n) t (.agg xs) (.agg ys)).run P w = .ok r w
 | 0,t,xs,ys,r,h=>by cases h
 | n+1,t,xs,ys,r,h=>by
  intro w
  unfold YD at h
  split at h
  ·rename_i fs hp hu
   have hf:P.fieldsOf t=fs:=by simp[Program.fieldsOf,hu]
   rw[show d+1+(n+1)=(d+1+n)+1 from rfl,run_equalIn_agg (P:=P) w (d+1+n) t xs ys (by rw[hf];exact hu) hp,hf]
   have e:d+1+n=(d+n)+1:=by omega
   rw[e]
   exact eqFw_run (d+n) (fun t fs cs es r _ hs w=>by rw[←e];exact eqSt_run d n t cs es r hs w) _ _ h w
  cases h
def ZF(xs ys:Array Value):List Nat→Option Bool
 | []=>some true
 | i :: is=>match xs[i]?,ys[i]?,ZF xs ys is with
  | some (.int k a),some (.int k' b),some r=>match decide (k=k')with
   | true=>some ((a==b)&&r)
   | false=>none
  | _,_,_=>none
theorem ZH{P:Program}{e:TypeId}{k0:IntKind}{xs ys:Array Value}(hu:P.underlying e=some (.int k0))(d:Nat):∀ (is:List Nat) (r:Bool),ZF xs ys is=some r→∀ w,(Op.eqItems (d+1) e 1 xs ys is).run P w = .ok r w
 | [],r,h,w=>by simp only[ZF,Option.some.injEq]at h;subst h;simp[Op.eqItems]
 | i :: is,r,h,w=>by
  unfold ZF at h
  split at h
  ·rename_i k a k' b s ha hb hs
   split at h
   ·rename_i hk
    simp only[Option.some.injEq]at h;subst h
    have hk':=of_decide_eq_true hk;subst hk'
    have ih:=ZH hu d is s hs w
    have pa:=Nb (P:=P) hu (by simp) (by simp) ha
    have pb:=Nb (P:=P) hu (by simp) (by simp) hb
    simp only[Op.eqItems,Nat.mul_one,Sem.run_bind,pa,pb,run_equalIn_int w d e k k0 a b hu,Result.andThen_ok]
    cases a==b
    ·simp
    simpa using ih
   cases h
  cases h
def QA(P:Program)(ro:Bool)(ρ:Operand→Value)(o:Oper)(A:AW):OK→ORes
 | .auto cs=>match CE P ro (execOp ρ o) cs A with
  | some (vs,[],.value v,A')=>some (vs,v,A')
  | some (vs,[],.skip,A')=>match ro with
   | false=>some (vs,undef,A')
   | true=>none
  | _=>none
 | .idx j=>match o.op with
  | .indexAddr t x ix=>match ρ x,ρ ix,P.underlying t with
   | .slice (some a) len _,.int _ i,some (.slice e)=>match P.info? e with
    | some f=>some ([i=(j:Int),j<len,a.spot=none],.pointer (some ⟨a.block,a.off+EC f.size j,none⟩),A)
    | none=>none
   | .pointer (some a),.int _ i,some (.array len e)=>match P.info? e with
    | some f=>some ([i=(j:Int),j<len,a.spot=none],.pointer (some ⟨a.block,a.off+EC f.size j,none⟩),A)
    | none=>none
   | _,_,_=>none
  | _=>none
 | .aidx j v=>match o.op with
  | .index t x ix=>match ρ x,ρ ix,P.underlying t with
   | .agg cs,.int _ i,some (.array len e)=>match P.info? e,P.underlying e with
    | some f,some (.struct _)=>none
    | some f,some (.array _ _)=>none
    | some f,some _=>some ([i=(j:Int),j<len,cs[EC f.size j]? = some v],v,A)
    | _,_=>none
   | _,_,_=>none
  | _=>none
 | .sidx c=>match o.op with
  | .index t x ix=>match ρ x,ρ ix,P.underlying t with
   | .string s,.int _ i,some .string=>some ([0≤i,s[i.toNat]? = some c],.int .u8 c.toNat,A)
   | _,_,_=>none
  | _=>none
 | .row i arr=>match o.op with
  | .load t x=>match ρ x,A.σ[i]?,P.info? t with
   | .pointer (some a),some c,some f=>match a.spot,Nat.beq arr.size f.size,(match P.underlying t with | some (.struct _)=>true | some (.array _ _)=>true | _=>false)with
    | none,true,true=>some ([RowOf c a.block a.off arr],.agg arr,A)
    | _,_,_=>none
   | _,_,_=>none
  | _=>none
 | .aeq b=>match o.op with
  | .binOp .eql t x y _=>match ρ x,ρ y,P.eqGuardType P.depth t,P.underlying t with
   | .agg xs,.agg ys,false,some (.array n e)=>match P.info? e,P.underlying e,Nat.beq (P.cellsOf e) 1,ZF xs ys (List.range n)with
    | some _,some (.int _),true,some r=>some ([r=b],.bool b,A)
    | _,_,_,_=>none
   | _,_,_,_=>none
  | _=>none
 | .seq b=>match o.op with
  | .binOp .eql t x y _=>match ρ x,ρ y,P.eqGuardType P.depth t,P.stoodInHeld t,P.underlying t with
   | .agg xs,.agg ys,false,false,some (.struct fs)=>match YD P 4 t xs ys with
    | some r=>some ([r=b],.bool b,A)
    | none=>none
   | _,_,_,_,_=>none
  | .binOp .neq t x y _=>match ρ x,ρ y,P.eqGuardType P.depth t,P.stoodInHeld t,P.underlying t with
   | .agg xs,.agg ys,false,false,some (.struct fs)=>match YD P 4 t xs ys with
    | some r=>some ([r=b],.bool (!b),A)
    | none=>none
   | _,_,_,_,_=>none
  | _=>none
 | .slc l h moved=>match o.op with
  | .slice t x lo hi none=>match ρ x,P.underlying t,Pn (lo.map ρ) 0 with
   | .slice a len cap,some (.slice e),some lo'=>match P.info? e,Pn (hi.map ρ) len with
    | some f,some hi'=>match a,moved with
     | a,false=>some ([lo'=(l:Int),hi'=(h:Int),l≤h,h≤cap,cap=l∨l=0],.slice a (h - l) (cap - l),A)
     | some a,true=>some ([lo'=(l:Int),hi'=(h:Int),l≤h,h≤cap,cap≠l,a.spot=none],.slice (some ⟨a.block,a.off+EC f.size l,none⟩) (h - l) (cap - l),A)
     | _,_=>none
    | _,_=>none
   | _,_,_=>none
  | _=>none
def Yields(P:Program)(ρ:Operand→Value)(o:Oper)(v:Value)(w w':World):Prop :=
 (execOp ρ o).run P w = .ok (.value v) w'∨((execOp ρ o).run P w = .ok .skip w'∧v=undef)
theorem Iz{a:Addr}(h:a.spot=none)(k:Nat):a.add k=⟨a.block,a.off+k,none⟩:=by
 obtain⟨b,o,s⟩:=a
 simp only at h;subst h
 simp[Addr.add]
theorem run_indexAt_slice{P:Program}{t e:TypeId}{f:TypeInfo}{a:Addr}{len cap:Nat}{k:IntKind}{i:Int}{j:Nat}(ht:P.underlying t=some (.slice e))(he:P.info? e=some f)(hi:i=(j:Int))(hj:j<len)(hs:a.spot=none)(w:World) :
   (Instr.indexAt t (.slice (some a) len cap) (.int k i)).run P w = .ok (.pointer (some ⟨a.block,a.off+EC f.size j,none⟩)) w:=by
 subst hi
 have hb:(0:Int)≤(j:Int)∧(j:Int)<(len:Int):=⟨Int.natCast_nonneg j,by exact_mod_cast hj⟩
 simp[Instr.indexAt,asIntOf,underlying,program,Sem.run,ht,sizeOf,typeInfo,he,hj,GL,Iz hs]
theorem run_indexAt_array{P:Program}{t e:TypeId}{f:TypeInfo}{a:Addr}{len:Nat}{k:IntKind}{i:Int}{j:Nat}(ht:P.underlying t=some (.array len e))(he:P.info? e=some f)(hi:i=(j:Int))(hj:j<len)(hs:a.spot=none)(w:World) :
   (Instr.indexAt t (.pointer (some a)) (.int k i)).run P w = .ok (.pointer (some ⟨a.block,a.off+EC f.size j,none⟩)) w:=by
 subst hi
 have hb:(0:Int)≤(j:Int)∧(j:Int)<(len:Int):=⟨Int.natCast_nonneg j,by exact_mod_cast hj⟩
 simp[Instr.indexAt,asIntOf,underlying,program,Sem.run,ht,sizeOf,typeInfo,he,hj,GL,Iz hs,Instr.sureAddr]
theorem Xl{P:Program}{t e:TypeId}{f:TypeInfo}{d:TypeDesc}{cs:Array Value}{len:Nat}{k:IntKind}{i:Int}{j:Nat}{v:Value}(ht:P.underlying t=some (.array len e))(he:P.info? e=some f)(hd:P.underlying e=some d)(h1:∀ x,d ≠ .struct x)(h2:∀ x y,d ≠ .array x y)(hi:i=(j:Int))(hj:j<len)(hv:cs[EC f.size j]? = some v)(w:World) :
   (Instr.index t (.agg cs) (.int k i)).run P w = .ok v w:=by
 subst hi
 have hagg:∀ w,(isAgg e).run P w = .ok false w:=by
   intro w
   cases d <;> first | (exact absurd rfl (h1 _)) | (exact absurd rfl (h2 _ _)) | simp[isAgg,underlying,program,Sem.run,hd]
 rw[GL]at hv
 simp[Instr.index,asIntOf,underlying,program,Sem.run,ht,sizeOf,typeInfo,he,hj,part,hagg,hv]
theorem run_index_string{P:Program}{t:TypeId}{s:ByteArray}{k:IntKind}{i:Int}{c:UInt8}(ht:P.underlying t=some .string)(hi:0≤i)(hv:s[i.toNat]? = some c)(w:World) :
   (Instr.index t (.string s) (.int k i)).run P w = .ok (.int .u8 c.toNat) w:=by
 simp[Instr.index,asIntOf,underlying,program,Sem.run,ht,hi,hv]
theorem WC{P:Program}{t e:TypeId}{f:TypeInfo}{a:Option Addr}{len cap:Nat}{lo hi:Option Value}{lo' hi':Int}{l h:Nat}(ht:P.underlying t=some (.slice e))(he:P.info? e=some f)
   (h1:Pn lo 0=some lo') (h2:Pn hi len=some hi') (e1:lo'=(l:Int)) (e2:hi'=(h:Int)) (hlh:l≤h) (hc:h≤cap) (w:World) :
   (Instr.sliceAt t (.slice a len cap) lo hi none).run P w = .ok (.slice (if cap=l then a else a.map (·.add (l*f.size))) (h - l) (cap - l)) w:=by
 subst e1;subst e2
 have hb:∀ w,(Instr.sliceBounds true len cap lo hi none).run P w = .ok (l,h,cap) w:=by
   intro w
   have B:∀ (x:Value) (y n:Nat) (c:BoundsCode) (d:Nat),Pn (some x) d=some (n:Int)→n≤y→∀ w,(Instr.sliceBound x y c).run P w = .ok n w:=by
     intro x y n c d hx hn w
     cases x <;> simp[Pn]at hx
     subst hx
     simp[Instr.sliceBound,asIntOf,Sem.run,hn]
   cases hi with
   | none =>
     simp[Pn]at h2
     have h2':len=h:=by exact_mod_cast h2
     subst h2'
     cases lo with
     | none =>
       simp[Pn]at h1
       have h1':l=0:=by omega
       subst h1'
       simp[Instr.sliceBounds]
     | some v=>simp[Instr.sliceBounds,B v len l .sliceB 0 h1 hlh]
   | some u =>
     have hB:=B u cap h .sliceAcap len h2 hc
     cases lo with
     | none =>
       simp[Pn]at h1
       have h1':l=0:=by omega
       subst h1'
       simp[Instr.sliceBounds,hB]
     | some v=>simp[Instr.sliceBounds,hB,B v h l .sliceB 0 h1 hlh]
 simp[Instr.sliceAt,Instr.slice,underlying,program,Sem.run,ht,hb,sizeOf,typeInfo,he]
theorem run_loadCells{P:Program}{w:World}{b k:Nat}{arr:Array Value}(h:RowAt w b k arr):∀ (n i:Nat) (acc:Array Value),i+n=arr.size→(loadCellsFrom ⟨b,k,none⟩ i n acc).run P w = .ok (acc++(arr.toList.drop i).toArray) w:=by
 intro n
 induction n with
 | zero=>intro i acc hi;simp[loadCellsFrom,Sem.run,List.drop_eq_nil_of_le (show arr.toList.length≤i by simp;omega)]
 | succ n ih =>
  intro i acc hi
  have hlt:i<arr.size:=by omega
  have hc:=h i arr[i] (by simp[hlt])
  have hd:arr.toList.drop i=arr[i] :: arr.toList.drop (i+1):=by rw[List.drop_eq_getElem_cons (by simpa using hlt)];simp
  simp only[loadCellsFrom,load,Sem.run_bind,Sem.run,Iz (show(⟨b,k,none⟩:Addr).spot=none from rfl),hc,Result.andThen_ok]
  rw[ih (i+1) _ (by omega),hd]
  simp
theorem run_loadAt{P:Program}{w:World}{a:Addr}{arr:Array Value}{t:TypeId}{f:TypeInfo}(h:RowAt w a.block a.off arr)(hs:a.spot=none)(hf:P.info? t=some f)(hn:arr.size=f.size)(hagg:(match P.underlying t with | some (.struct _)=>true | some (.array _ _)=>true | _=>false)=true) :
   (Instr.loadAt t (.pointer (some a))).run P w = .ok (.agg arr) w:=by
 obtain⟨b,k,sp⟩:=a
 simp only at hs;subst hs
 have ha:∀ w,(isAgg t).run P w = .ok true w:=by
   intro w
   cases hu:P.underlying t with
   | none=>rw[hu]at hagg;cases hagg
   | some d=>rw[hu]at hagg;cases d <;> first | (cases hagg;done) | simp[isAgg,underlying,program,Sem.run,hu]
 have hl:=run_loadCells (P:=P) h f.size 0 #[] (by omega)
 simp at hl
 simp[Instr.loadAt,Instr.sureAddr,loadVar,ha,sizeOf,typeInfo,program,Sem.run,hf,loadCells,hl]
theorem Zd{P:Program}{ro:Bool}{ρ:Operand→Value}{o:Oper}{A A':AW}{k:OK}{vs:List Prop}{v:Value}(hk:∀ cs,k ≠ .auto cs)(h:QA P ro ρ o A k=some (vs,v,A'))(hv:Fv vs):A'=A∧∀ w:World,(∀ c∈A.σ,c.holds w)→(execOp ρ o).run P w = .ok (.value v) w:=by
 cases k with
 | auto cs=>exact absurd rfl (hk cs)
 | idx j =>
  simp only[QA]at h
  split at h
  ·rename_i t x ix hop
   split at h
   ·rename_i a len cap k i e hx hix ht
    split at h
    ·rename_i f he
     simp only[Option.some.injEq,Prod.mk.injEq]at h
     obtain⟨rfl,rfl,rfl⟩:=h
     obtain⟨h1,h2,h3, -⟩:=hv
     exact⟨rfl,fun w _=>by simp[execOp,hop,hx,hix,run_indexAt_slice ht he h1 h2 h3,Sem.run,Result.andThen]⟩
    cases h
   ·rename_i a k i len e hx hix ht
    split at h
    ·rename_i f he
     simp only[Option.some.injEq,Prod.mk.injEq]at h
     obtain⟨rfl,rfl,rfl⟩:=h
     obtain⟨h1,h2,h3, -⟩:=hv
     exact⟨rfl,fun w _=>by simp[execOp,hop,hx,hix,run_indexAt_array ht he h1 h2 h3,Sem.run,Result.andThen]⟩
    cases h
   cases h
  cases h
 | aidx j u =>
  simp only[QA]at h
  split at h
  ·rename_i t x ix hop
   split at h
   ·rename_i cs k i len e hx hix ht
    split at h
    ·cases h
    ·cases h
    ·rename_i f d hn1 hn2 he hd
     simp only[Option.some.injEq,Prod.mk.injEq]at h
     obtain⟨rfl,rfl,rfl⟩:=h
     obtain⟨h1,h2,h3, -⟩:=hv
     exact⟨rfl,fun w _=>by simp[execOp,hop,hx,hix,Xl ht he hd hn1 hn2 h1 h2 h3,Sem.run,Result.andThen]⟩
    cases h
   cases h
  cases h
 | sidx c =>
  simp only[QA]at h
  split at h
  ·rename_i t x ix hop
   split at h
   ·rename_i s k i hx hix ht
    simp only[Option.some.injEq,Prod.mk.injEq]at h
    obtain⟨rfl,rfl,rfl⟩:=h
    obtain⟨h1,h2, -⟩:=hv
    exact⟨rfl,fun w _=>by simp[execOp,hop,hx,hix,run_index_string ht h1 h2,Sem.run,Result.andThen]⟩
   cases h
  cases h
 | row i arr =>
  simp only[QA]at h
  split at h
  ·rename_i t x hop
   split at h
   ·rename_i a c f hx hi hf
    split at h
    ·rename_i hs hn hagg
     simp only[Option.some.injEq,Prod.mk.injEq]at h
     obtain⟨rfl,rfl,rfl⟩:=h
     exact⟨rfl,fun w hw=>by simp[execOp,hop,hx,run_loadAt (hv.1 w (hw c (List.mem_of_getElem? hi))) hs hf (Nat.eq_of_beq_eq_true hn) hagg,Sem.run,Result.andThen]⟩
    cases h
   cases h
  cases h
 | aeq b =>
  simp only[QA]at h
  split at h
  ·rename_i t x y tt hop
   split at h
   ·rename_i xs ys n e hx hy hm hu
    split at h
    ·rename_i i k0 r hi hek hc hr
     simp only[Option.some.injEq,Prod.mk.injEq]at h
     obtain⟨rfl,rfl,rfl⟩:=h
     obtain⟨rfl, -⟩:=hv
     have hc1:P.cellsOf e=1:=Nat.eq_of_beq_eq_true hc
     have eqr:∀ w,(Op.equalIn 10000 t (.agg xs) (.agg ys)).run P w = .ok r w:=fun w=>by
      rw[run_equalIn_array (P:=P) w 9999 xs ys hu hi,hc1]
      exact ZH hek 9998 _ _ hr w
     exact⟨rfl,fun w _=>by simp[execOp,hop,hx,hy,run_eqGuard_agg (P:=P) w .eql t x y xs ys hm,run_eql_struct,eqr w,Sem.run,Result.andThen]⟩
    cases h
   cases h
  cases h
 | seq b =>
  have eqr:∀ (t:TypeId) (xs ys:Array Value) (fs:Array Field) (r:Bool) (w:World),P.stoodInHeld t=false→P.underlying t=some (.struct fs)→YD P 4 t xs ys=some r→(Op.equalIn 10000 t (.agg xs) (.agg ys)).run P w = .ok r w:=fun t xs ys fs r w _ _ he=>eqSt_run 9995 4 t xs ys r he w
  simp only[QA]at h
  split at h
  ·rename_i t x y tt hop
   split at h
   ·rename_i xs ys fs hx hy hm hp hu
    split at h
    ·rename_i r hr
     simp only[Option.some.injEq,Prod.mk.injEq]at h
     obtain⟨rfl,rfl,rfl⟩:=h
     obtain⟨rfl, -⟩:=hv
     exact⟨rfl,fun w _=>by simp[execOp,hop,hx,hy,run_eqGuard_agg (P:=P) w .eql t x y xs ys hm,run_eql_struct,eqr t xs ys fs _ w hp hu hr,Sem.run,Result.andThen]⟩
    cases h
   cases h
  ·rename_i t x y tt hop
   split at h
   ·rename_i xs ys fs hx hy hm hp hu
    split at h
    ·rename_i r hr
     simp only[Option.some.injEq,Prod.mk.injEq]at h
     obtain⟨rfl,rfl,rfl⟩:=h
     obtain⟨rfl, -⟩:=hv
     exact⟨rfl,fun w _=>by simp[execOp,hop,hx,hy,run_eqGuard_agg (P:=P) w .neq t x y xs ys hm,run_neq_struct,eqr t xs ys fs _ w hp hu hr,Sem.run,Result.andThen]⟩
    cases h
   cases h
  cases h
 | slc l m moved =>
  simp only[QA]at h
  split at h
  ·rename_i t x lo hi hop
   split at h
   ·rename_i a len cap e lo' hx ht h1
    split at h
    ·rename_i f hi' he h2
     split at h
     ·simp only[Option.some.injEq,Prod.mk.injEq]at h
      obtain⟨rfl,rfl,rfl⟩:=h
      obtain⟨e1,e2,e3,e4,e5, -⟩:=hv
      refine⟨rfl,fun w _ => ?_⟩
      have hr:=WC (a:=a) (cap:=cap) ht he h1 h2 e1 e2 e3 e4 w
      have ha:(if cap=l then a else a.map (·.add (l*f.size)))=a:=by
       rcases e5 with rfl | rfl
       ·simp
       split
       ·rfl
       cases a <;> simp[Addr.add]
      rw[ha]at hr
      simp[execOp,hop,hx,hr,Sem.run,Result.andThen]
     ·rename_i a
      simp only[Option.some.injEq,Prod.mk.injEq]at h
      obtain⟨rfl,rfl,rfl⟩:=h
      obtain⟨e1,e2,e3,e4,e5,e6, -⟩:=hv
      refine⟨rfl,fun w _ => ?_⟩
      have hr:=WC (a:=some a) (cap:=cap) ht he h1 h2 e1 e2 e3 e4 w
      rw[if_neg e5]at hr
      simp only[Option.map_some,Iz e6]at hr
      simp[execOp,hop,hx,hr,Sem.run,Result.andThen,GL]
     cases h
    cases h
   cases h
  cases h
theorem Vg{P:Program}{ro:Bool}{ρ:Operand→Value}{o:Oper}{A A':AW}{k:OK}{vs:List Prop}{v:Value}(h:QA P ro ρ o A k=some (vs,v,A'))(hv:Fv vs){w:World}(hw:Sat A w) :
   ∃ w',Yields P ρ o v w w'∧Sat A' w'∧A'.w0=A.w0:=by
 by_cases hk:∃ cs,k = .auto cs
 · obtain⟨cs,rfl⟩:=hk
   simp only[QA]at h
   split at h
   · rename_i vs' v' A'' hr
     simp only[Option.some.injEq,Prod.mk.injEq]at h
     obtain⟨rfl,rfl,rfl⟩:=h
     obtain⟨w',h1,h2,h3⟩:=XF _ _ _ _ _ _ _ hr hv w hw
     exact⟨w',.inl h1,h2,h3⟩
   · rename_i vs' A'' hr
     split at h
     · simp only[Option.some.injEq,Prod.mk.injEq]at h
       obtain⟨rfl,rfl,rfl⟩:=h
       obtain⟨w',h1,h2,h3⟩:=XF _ _ _ _ _ _ _ hr hv w hw
       exact⟨w',.inr ⟨h1,rfl⟩,h2,h3⟩
     · cases h
   · cases h
 · obtain⟨rfl,h1⟩:=Zd (fun cs e=>hk ⟨cs,e⟩) h hv
   exact⟨w,.inl (h1 w hw.all),hw,rfl⟩
theorem Zy{P:Program}{ρ:Operand→Value}{o:Oper}{A A':AW}{k:OK}{vs:List Prop}{v:Value}(h:QA P true ρ o A k=some (vs,v,A'))(hv:Fv vs){w:World}(hw:∀ c∈A.σ,c.holds w) :
   (execOp ρ o).run P w = .ok (.value v) w:=by
 by_cases hk:∃ cs,k = .auto cs
 · obtain⟨cs,rfl⟩:=hk
   simp only[QA]at h
   split at h
   · rename_i vs' v' A'' hr
     simp only[Option.some.injEq,Prod.mk.injEq]at h
     obtain⟨rfl,rfl,rfl⟩:=h
     exact(LU _ _ _ _ _ _ _ hr hv w hw).1
   · cases h
   · cases h
 · exact(Zd (fun cs e=>hk ⟨cs,e⟩) h hv).2 w hw
def J4(ops:Array Oper)(env:Env)(o:Oper):Option Bool:=match o.guard with
 | none=>some true
 | some (j,want)=>match(ops[j]?).bind (·.dst)with
  | some d=>match look env d with
   | some (.bool b)=>some (b==want)
   | some (.tuple _)=>some false
   | _=>none
  | none=>none
theorem Dp{N:Nat}{env:Env}{ds:List Deferred}{A:AW}{a:Act}{w:World}{ops:Array Oper}{o:Oper}{b:Bool}(h:J4 ops env o=some b)(hs:St N env ds A a w):Region.wanted o (yielded ops a.tmps)=b:=by
 unfold J4 at h
 unfold Region.wanted
 split at h
 ·rename_i hg;simp only[hg];simpa using h
 rename_i j want hg
 simp only[hg]
 split at h
 ·rename_i d hd
  split at h
  ·rename_i c hc
   have hk:=hs.kn _ _ hc
   have hy:yielded ops a.tmps j=some c:=by
    have h1:a.tmps[d]? = some (.bool c):=by
     rw[Array.getD_eq_getD_getElem?]at hk
     cases h2:a.tmps[d]? with
     | none=>rw[h2]at hk;cases hk
     | some y=>rw[h2]at hk;exact congrArg some hk
    unfold yielded
    simp only[hd,Option.bind_some,h1]
   simp only[Option.some.injEq]at h
   rw[hy,←h];cases c <;> cases want <;> rfl
  ·rename_i c hc
   have hk:=hs.kn _ _ hc
   have hy:yielded ops a.tmps j=none:=by
    have h1:a.tmps[d]? = some (.tuple c)∨a.tmps[d]? = none:=by
     rw[Array.getD_eq_getD_getElem?]at hk
     cases h2:a.tmps[d]? with
     | none=>exact .inr rfl
     | some y=>rw[h2]at hk;exact .inl (congrArg some hk)
    unfold yielded
    rcases h1 with h1 | h1 <;> simp only[hd,Option.bind_some,h1]
   simp only[Option.some.injEq]at h
   rw[hy,←h];cases want <;> rfl
  cases h
 cases h
def GU(env:Env)(o:Oper):Bool:=noSel o.op&&o.op.operands.all (known env)
abbrev MX:=Option (List Prop×Env×AW)
def MX.and(ps:List Prop)(r:MX):MX:=match r with
 | some (qs,x)=>some (ps++qs,x)
 | none=>none
theorem MX.EL{ps vs:List Prop}{r:MX}{x:Env×AW}(h:MX.and ps r=some (vs,x)):∃ qs,r=some (qs,x)∧vs=ps++qs:=by
 unfold MX.and at h
 split at h
 ·rename_i qs y;simp at h;exact⟨qs,by rw[h.2],h.1.symm⟩
 cases h
def MJ(P:Program)(N:Nat)(ops:Array Oper):Nat→List OC→List Oper→Env→AW→MX
 | 0,[],_,env,A=>some ([],env,A)
 | 0,_ :: _,_,_,_=>none
 | _+1,_,[],_,_=>none
 | m+1,cs,o :: l,env,A=>match J4 ops env o with
  | some false=>match Jy N o.dst with
   | true=>MJ P N ops m cs l (Gy env o.dst undef) A
   | false=>none
  | some true=>match cs with
   | []=>none
   | c :: cs=>match GU env o,Jy N o.dst,QA P false (DL env) o A c.k with
    | true,true,some (vs,v,A')=>match c.asv with
     | none=>(MJ P N ops m cs l (Gy env o.dst v) A').and vs
     | some u=>(MJ P N ops m cs l (Gy env o.dst u) A').and (vs++[v=u])
    | _,_,_=>none
  | none=>none
inductive Kt where
 | seq (c:Code)
 | blk (id:Nat)
 | inv (R:Act→World→Prop)
def QQ(P:Program):List Kt→(Exit→Act→World→Prop)→Exit→Act→World→Prop
 | [],Q=>Q
 | .seq c :: s,Q=>Exit.then (c.wp P (QQ P s Q)) (QQ P s Q)
 | .blk id :: s,Q=>Exit.inBlock id (QQ P s Q)
 | .inv R :: s,Q=>Exit.then R (QQ P s Q)
def Lg(P:Program)(N:Nat)(env:Env)(ds:List Deferred)(A:AW)(ops:Array Oper)(l:List Oper)(s:List Kt)(Q:Exit→Act→World→Prop):Prop :=
 ∀ a w,St N env ds A a w→wpList P ops (QQ P s Q) l a w
def G(P:Program)(N:Nat)(env:Env)(ds:List Deferred)(A:AW)(c:Code)(s:List Kt)(Q:Exit→Act→World→Prop):Prop :=
 ∀ a w,St N env ds A a w→c.wp P (QQ P s Q) a w
def E(P:Program)(N:Nat)(env:Env)(ds:List Deferred)(A:AW)(e:Exit)(s:List Kt)(Q:Exit→Act→World→Prop):Prop :=
 ∀ a w,St N env ds A a w→QQ P s Q e a w
theorem Gs{P:Program}{ops:Array Oper}{Q:Exit→Act→World→Prop}{l:List Oper}{o:Oper}{a:Act}{w w':World}{v:Value}(hw:Region.wanted o (yielded ops a.tmps)=true)(hy:Yields P a.eval o v w w')(h:wpList P ops Q l (a.put o.dst v) w'):wpList P ops Q (o :: l) a w:=by
 unfold wpList
 rw[if_pos hw]
 left
 unfold Oper.wp
 rcases hy with hy | ⟨hy,rfl⟩ <;> rw[hy] <;> exact h
theorem Ej{N:Nat}{env:Env}{ds:List Deferred}{A:AW}{a:Act}{w:World}{o:Oper}(hs:St N env ds A a w)(hk:GU env o=true):execOp a.eval o=execOp (DL env) o:=by
 simp only[GU,Bool.and_eq_true,Array.all_eq_true_iff_forall_mem]at hk
 exact execOp_congr hk.1 (fun x hx=>hs.eval (hk.2 x hx))
theorem Qd{P:Program}{N:Nat}{ops:Array Oper}{ds:List Deferred}{s:List Kt}{Q:Exit→Act→World→Prop}:∀ (m:Nat) (cs:List OC) (l:List Oper) (env:Env) (A:AW) (vs:List Prop) (env':Env) (A':AW),
   MJ P N ops m cs l env A=some (vs,env',A')→Fv vs→(A'.w0=A.w0→Lg P N env' ds A' ops (l.drop m) s Q)→Lg P N env ds A ops l s Q:=by
 intro m
 induction m with
 | zero =>
   intro cs l env A vs env' A' h hv K
   cases cs with
   | nil=>simp only[MJ,Option.some.injEq,Prod.mk.injEq]at h;obtain⟨-,rfl,rfl⟩:=h;simpa using K rfl
   | cons c cs=>simp[MJ]at h
 | succ m ih =>
   intro cs l env A vs env' A' h hv K a w hs
   cases l with
   | nil=>simp[MJ]at h
   | cons o l =>
     simp only[MJ]at h
     split at h
     · rename_i hw
       have hw':=Dp hw hs
       unfold wpList
       rw[if_neg (by rw[hw'];simp)]
       split at h
       · rename_i hd
         exact ih cs l _ A vs env' A' h hv K _ _ (hs.put hs.mem _ hd _)
       · cases h
     · rename_i hw
       have hw':=Dp hw hs
       cases cs with
       | nil=>cases h
       | cons c cs =>
         simp only at h
         split at h
         · rename_i vs1 v A1 hk hd hx
           have hcg:=Ej hs hk
           split at h
           · rename_i hcas
             obtain⟨qs,h',rfl⟩:=MX.EL h
             rw[CS]at hv
             obtain⟨w',hy,hsat,h0⟩:=Vg hx hv.1 hs.mem
             refine Gs hw' (by unfold Yields at hy ⊢;rw[hcg];exact hy) ?_
             exact ih cs l _ _ qs env' A' h' hv.2 (fun h1=>K (h1.trans h0)) _ _ (hs.put hsat _ hd v)
           · rename_i u hcas
             obtain⟨qs,h',rfl⟩:=MX.EL h
             rw[CS,CS]at hv
             obtain⟨⟨hv1,hvu, -⟩,hv2⟩:=hv
             have hvu':v=u:=hvu
             subst hvu'
             obtain⟨w',hy,hsat,h0⟩:=Vg hx hv1 hs.mem
             refine Gs hw' (by unfold Yields at hy ⊢;rw[hcg];exact hy) ?_
             exact ih cs l _ _ qs env' A' h' hv2 (fun h1=>K (h1.trans h0)) _ _ (hs.put hsat _ hd v)
         · cases h
     · cases h
section rules
variable {P:Program}{N:Nat}{env:Env}{ds:List Deferred}{A:AW}{ops:Array Oper}{l:List Oper}{s:List Kt}{Q:Exit→Act→World→Prop}
def runL(P:Program)(N:Nat)(ops:Array Oper)(m:Nat)(cs:List OC)(keep:List Nat)(l:List Oper)(env:Env)(A:AW):MX:=match MJ P N ops m cs l env A with
 | some (vs,e,A')=>some (vs,JZ keep e,A')
 | none=>none
theorem l_run(m:Nat)(cs:List OC)(keep:List Nat)(vs:List Prop)(env':Env)(A':AW)
   (hv:Fv vs) (K:Lg P N env' ds A' ops (l.drop m) s Q) (h:runL P N ops m cs keep l env A=some (vs,env',A'):=by as_aux_lemma=>kernel_rfl):Lg P N env ds A ops l s Q:=by
 unfold runL at h
 split at h
 · rename_i vs' e A1 h1
   simp only[Option.some.injEq,Prod.mk.injEq]at h
   obtain⟨rfl,rfl,rfl⟩:=h
   exact Qd m cs l env A _ e _ h1 hv (fun h0 a w hs=>K a w (hs.sub (fun t v=>Jg)))
 · cases h
theorem U2(m:Nat)(cs:List OC)(keep:List Nat)(vs:List Prop)(env':Env)(A':AW)
   (hv:Fv vs) (K:E P N env' ds A' .normal s Q) (h:runL P N ops m cs keep l env A=some (vs,env',A'):=by as_aux_lemma=>kernel_rfl) (hm:Nat.ble l.length m=true:=by kernel_rfl):Lg P N env ds A ops l s Q:=by
 refine l_run m cs keep vs env' A' hv (fun a w hs => ?_) h
 rw[List.drop_eq_nil_of_le (by simpa using hm)]
 exact K a w hs
theorem LQ(hl:List.isEmpty l=true)(K:E P N env ds A .normal s Q):Lg P N env ds A ops l s Q:=by
 intro a w hs
 cases l with
 | nil=>exact K a w hs
 | cons x l=>cases hl
theorem DX(keep:List Nat)(env':Env)(K:Lg P N env' ds A ops l s Q)(h:JZ keep env=env':=by as_aux_lemma=>kernel_rfl):Lg P N env ds A ops l s Q:=fun a w hs=>K a w (hs.sub (fun t v ht=>Jg (by rw[h];exact ht)))
theorem Bj{c:Code}(keep:List Nat)(env':Env)(K:G P N env' ds A c s Q)(h:JZ keep env=env':=by as_aux_lemma=>kernel_rfl):G P N env ds A c s Q:=fun a w hs=>K a w (hs.sub (fun t v ht=>Jg (by rw[h];exact ht)))
def OY(P:Program)(env:Env)(A:AW)(cs:List LC)(ops:Array Oper):List Oper→Option (List Prop×FuncId×Array Value×Option Nat)
 | []=>none
 | o :: _=>match J4 ops env o,GU env o,CE P true (execOp (DL env) o) cs A with
  | some true,true,some (vs,[],.enter f args,_)=>some (vs,f,args,o.dst)
  | _,_,_=>none
theorem l_call(cs:List LC)(vs:List Prop)(f:FuncId)(args:Array Value)(d:Option Nat)(hv:Fv vs)
   (hc:∀ w,Sat A w→Calls P f args w fun e w'=>∃ v A',e = .returned v∧Sat A' w'∧Lg P N (Gy env d v) ds A' ops (l.drop 1) s Q) (h:OY P env A cs ops l=some (vs,f,args,d):=by as_aux_lemma=>kernel_rfl) (hd:Jy N d=true:=by kernel_rfl):Lg P N env ds A ops l s Q:=by
 intro a w hs
 cases l with
 | nil=>simp[OY]at h
 | cons o l =>
   simp only[OY]at h
   split at h
   · rename_i vs' f' args' A' hw hk hr
     simp only[Option.some.injEq,Prod.mk.injEq]at h
     obtain⟨rfl,rfl,rfl,rfl⟩:=h
     obtain⟨hrun, -⟩:=LU _ _ _ _ _ _ _ hr hv w hs.mem.all
     unfold wpList
     rw[if_pos (Dp hw hs)]
     left
     unfold Oper.wp
     rw[Ej hs hk,hrun]
     refine(hc w hs.mem).mono ?_
     rintro e w' ⟨v,A1,rfl,hs1,K⟩
     exact K _ _ (hs.put hs1 _ hd v)
   · cases h
theorem LV{id:Nat}{os:Array Oper}(h:Lg P N env ds A os os.toList s Q):G P N env ds A (.region id os false) s Q:=fun a w hs=>wp_region_list (h a w hs)
theorem Bi{x y:Code}(h:G P N env ds A x (.seq y :: s) Q):G P N env ds A (.seq x y) s Q:=fun a w hs=>wp_seq (h a w hs)
theorem Xe(h:E P N env ds A .normal s Q):G P N env ds A .skip s Q:=fun a w hs=>wp_skip (h a w hs)
theorem g_label{n:Nat}(h:E P N env ds A .normal s Q):G P N env ds A (.label n) s Q:=fun a w hs=>wp_label (h a w hs)
theorem Y8{id:Nat}{c:Code}(h:G P N env ds A c (.blk id :: s) Q):G P N env ds A (.block id c) s Q:=fun a w hs=>wp_block (h a w hs)
theorem g_exit{id:Nat}(h:E P N env ds A (.exit id) s Q):G P N env ds A (.exit id) s Q:=fun a w hs=>wp_exit (h a w hs)
theorem QC(h:E P N env ds A .ret s Q):G P N env ds A .ret s Q:=fun a w hs=>wp_ret (h a w hs)
theorem UO{c:Operand}{x y:Code}(h:G P N env ds A x s Q)(hc:DL env c = .bool true:=by rfl)(hk:known env c=true:=by rfl):G P N env ds A (.cond c x y) s Q:=fun a w hs=>wp_cond_true ((hs.eval hk).trans hc) (h a w hs)
theorem PQ{c:Operand}{x y:Code}(h:G P N env ds A y s Q)(hc:DL env c = .bool false:=by rfl)(hk:known env c=true:=by rfl):G P N env ds A (.cond c x y) s Q:=fun a w hs=>wp_cond_false ((hs.eval hk).trans hc) (h a w hs)
theorem Bl{c:Code}(I:Nat→Act→World→Prop)(n₀:Nat)(h₀:∀ a w,St N env ds A a w→I n₀ a w)(round:∀ n a w,I n a w→c.wp P (QQ P (.inv (fun a' w'=>∃ n',n'<n∧I n' a' w') :: s) Q) a w):G P N env ds A (.loop c) s Q :=
 fun a w hs=>wp_loop_ghost I n₀ (h₀ a w hs) round
theorem Hu{c:Code}(h:G P N env ds A c s Q):E P N env ds A .normal (.seq c :: s) Q:=h
theorem e_blk{id:Nat}(h:E P N env ds A .normal s Q):E P N env ds A .normal (.blk id :: s) Q:=h
theorem BB{R:Act→World→Prop}(h:∀ a w,St N env ds A a w→R a w):E P N env ds A .normal (.inv R :: s) Q:=h
theorem e_hit{id:Nat}(h:E P N env ds A .normal s Q):E P N env ds A (.exit id) (.blk id :: s) Q:=fun a w hs=>by
 show Exit.inBlock id (QQ P s Q) (.exit id) a w
 simp only[Exit.inBlock,if_true];exact h a w hs
theorem e_miss{id id':Nat}(hne:Nat.beq id id'=false)(h:E P N env ds A (.exit id) s Q):E P N env ds A (.exit id) (.blk id' :: s) Q:=fun a w hs=>by
 show Exit.inBlock id' (QQ P s Q) (.exit id) a w
 simp only[Exit.inBlock]
 rw[if_neg (fun e=>by subst e;rw[Nat.beq_refl]at hne;cases hne)]
 exact h a w hs
theorem e_out{id:Nat}{c:Code}(h:E P N env ds A (.exit id) s Q):E P N env ds A (.exit id) (.seq c :: s) Q:=h
theorem e_outI{id:Nat}{R:Act→World→Prop}(h:E P N env ds A (.exit id) s Q):E P N env ds A (.exit id) (.inv R :: s) Q:=h
theorem Tm:∀ (s:List Kt) {a:Act} {w:World},Q .ret a w→QQ P s Q .ret a w
 | [],_,_,h=>h
 | .seq _ :: s,_,_,h=>Tm s h
 | .blk _ :: s,_,_,h=>Tm s h
 | .inv _ :: s,_,_,h=>Tm s h
def resE(fn:Func)(env:Env):Sem Value:=do
 let vs ← fn.results.mapM fun
  | .tmp t=>pure ((look env t).getD undef)
  | .cell a t=>do loadVar t (← asAddr ((look env a).getD undef))
 pure (if h:vs.size=1 then vs[0]else .tuple vs)
def Rq(env:Env):ResultVar→Bool
 | .tmp t=>(look env t).isSome
 | .cell t _=>(look env t).isSome
theorem Zg{t:Nat}(h:(look env t).isSome=true){a:Act}{w:World}(hs:St N env ds A a w):a.tmps.getD t undef=(look env t).getD undef:=by
 simp only[Option.isSome_iff_exists]at h
 obtain⟨v,hv⟩:=h
 rw[hv];exact hs.kn t v hv
theorem mapM_congr{α β:Type}{f g:α→Sem β}:∀ (l:List α),(∀ x∈l,f x=g x)→l.mapM f=l.mapM g
 | [],_=>rfl
 | x :: l,h=>by simp only[List.mapM_cons,h x (by simp),mapM_congr l (fun y hy=>h y (by simp[hy]))]
theorem X9{fn:Func}{a:Act}{w:World}(hk:fn.results.all (Rq env)=true)(hs:St N env ds A a w):results fn a.tmps=resE fn env:=by
 simp only[Array.all_eq_true_iff_forall_mem]at hk
 unfold results resE
 simp only[Array.mapM_eq_mapM_toList]
 refine congrArg (fun z:Sem (List Value)=>(List.toArray <$> z >>= fun vs=>pure (if h:vs.size=1 then vs[0]else Value.tuple vs))) (mapM_congr _ fun x hx => ?_)
 have hx':=hk x (by simpa using hx)
 cases x with
 | tmp t=>simp only[Zg (by simpa[Rq]using hx') hs]
 | cell b t=>simp only[Zg (by simpa[Rq]using hx') hs]
theorem AU{fn:Func}{R:Ending→World→Prop}(cs:List LC)(vs:List Prop)(v:Value)(hv:Fv vs)(K:∀ w,Sat A w→R (.returned v) w)(hk:fn.results.all (Rq env)=true:=by kernel_rfl)(h:CE P true (resE fn env) cs A=some (vs,[],v,A):=by as_aux_lemma=>kernel_rfl):E P N env [] A .ret s (bodyPost P fn R):=by
 intro a w hs
 obtain⟨hrun, -⟩:=LU _ _ _ _ _ _ _ h hv w hs.mem.all
 exact Tm s ⟨hs.df,v,by rw[X9 hk hs];exact hrun,K w hs.mem⟩
theorem Jb{fn:Func}{R:Ending→World→Prop}(cs:List LC)(vs:List Prop)(v:Value)(hv:Fv vs)(K:∀ w,Sat A w→R (.returned v) w)(hk:fn.results.all (Rq env)=true:=by kernel_rfl)(h:CE P true (resE fn env) cs A=some (vs,[],v,A):=by as_aux_lemma=>kernel_rfl):E P N env [] A .normal [] (bodyPost P fn R):=by
 intro a w hs
 obtain⟨hrun, -⟩:=LU _ _ _ _ _ _ _ h hv w hs.mem.all
 exact⟨hs.df,v,by rw[X9 hk hs];exact hrun,K w hs.mem⟩
end rules
def YA:List Value→Nat→Env
 | [],_=>[]
 | v :: r,i=>(i,v) :: YA r (i+1)
theorem WJ:∀ (l:List Value) (i t:Nat) (v:Value),look (YA l i) t=some v→i≤t∧l[t - i]? = some v
 | [],_,_,_,h=>by simp[YA,look]at h
 | x :: r,i,t,v,h=>by
  simp only[YA,look]at h
  cases hb:Nat.beq i t with
  | true=>rw[hb]at h;have:=Nat.eq_of_beq_eq_true hb;subst this;simp at h;simp[h]
  | false =>
   rw[hb]at h
   obtain⟨h1,h2⟩:=WJ r (i+1) t v h
   refine⟨by omega, ?_⟩
   rw[show t - i=(t - (i+1))+1 from by omega];simpa using h2
theorem Bc{P:Program}{f:FuncId}{fn:Func}{c:Code}{args:List Value}{w:World}{R:Ending→World→Prop}(N:Nat)(A:AW)(hf:P.funcs[f]? = some fn)(hb:fn.body=some c)(hn:fn.ntmps=N)(hl:Nat.ble args.length N=true)(hs:Sat A w)
   (h:G P N (YA args 0) [] A c [] (bodyPost P fn R)):Calls P f args.toArray w R:=by
 refine calls_of_wp hf hb (h _ _ ⟨?_,rfl, ?_,hs⟩)
 · have:=Nat.le_of_ble_eq_true hl
   simp[hn];omega
 · intro t v ht
   obtain⟨-,h2⟩:=WJ args 0 t v ht
   have hlt:t<args.length:=(List.getElem?_eq_some_iff.1 h2).1
   simp only[Array.getD_eq_getD_getElem?]
   rw[Array.getElem?_append_left (by simpa using hlt)]
   simp at h2 ⊢
   rw[h2];rfl
abbrev pt(b:Nat):Value:= .pointer (some ⟨b,0,none⟩)
abbrev i6(n:Int):Value:= .int .i64 n
abbrev bk(b:Nat)(cs:Array Value)(t:TypeId):Ch:= .blk b (.cells cs t (0,0)) true
abbrev a1(i:Nat):OC:=⟨.auto [.at i],none⟩
abbrev an(n i:Nat):OC:=⟨.auto (List.replicate n (.at i)),none⟩
inductive WF where
 | code (c:Code)
 | out (e:Exit)
 | reg (os:Array Oper) (l:List Oper)
inductive Seg where
 | ops (os:Array Oper) (l:List Oper)
 | cnd (x:Operand) (b lit:Bool)
abbrev Stp:=Option (List Seg×WF×List Kt×List Nat)
def step1:WF→List Kt→List Nat→Stp
 | .code c,s,bs=>match c with
  | .seq x y=>some ([],.code x,.seq y :: s,bs)
  | .skip=>some ([],.out .normal,s,bs)
  | .label _=>some ([],.out .normal,s,bs)
  | .block id c=>some ([],.code c,.blk id :: s,bs)
  | .region _ os false=>some ([],.reg os os.toList,s,bs)
  | .exit id=>some ([],.out (.exit id),s,bs)
  | .ret=>some ([],.out .ret,s,bs)
  | .cond x c d=>match bs with
   | 0 :: bs=>some ([.cnd x false true],.code d,s,bs)
   | 1 :: bs=>some ([.cnd x true true],.code c,s,bs)
   | 2 :: bs=>some ([.cnd x false false],.code d,s,bs)
   | 3 :: bs=>some ([.cnd x true false],.code c,s,bs)
   | _=>none
  | _=>none
 | .reg os l,s,bs=>some ([.ops os l],.out .normal,s,bs)
 | .out .normal,.seq c :: s,bs=>some ([],.code c,s,bs)
 | .out .normal,.blk _ :: s,bs=>some ([],.out .normal,s,bs)
 | .out (.exit id),.seq _ :: s,bs=>some ([],.out (.exit id),s,bs)
 | .out (.exit id),.inv _ :: s,bs=>some ([],.out (.exit id),s,bs)
 | .out (.exit id),.blk id' :: s,bs=>match Nat.beq id id' with
  | true=>some ([],.out .normal,s,bs)
  | false=>some ([],.out (.exit id),s,bs)
 | _,_,_=>none
def path:Nat→Nat→List Nat→WF→List Kt→Option (List Seg×WF×List Kt)
 | 0,last,_,p,s=>match last with
  | 0=>some ([],p,s)
  | k+1=>match p with
   | .reg os l=>some ([.ops os (l.take (k+1))],.reg os (l.drop (k+1)),s)
   | _=>none
 | n+1,last,bs,p,s=>match step1 p s bs with
  | some (sg,p',s',bs')=>match path n last bs' p' s' with
   | some (sgs,r)=>some (sg++sgs,r)
   | none=>none
  | none=>none
def GM(P:Program)(N:Nat):List Seg→List (List OC)→Env→AW→MX
 | [],[],env,A=>some ([],env,A)
 | .ops os l :: r,cs :: css,env,A=>match MJ P N os l.length cs l env A with
  | some (vs,env',A')=>(GM P N r css env' A').and vs
  | none=>none
 | .cnd x b lit :: r,css,env,A=>match known env x with
  | true=>match lit with
   | false=>(GM P N r css env A).and [DL env x = .bool b]
   | true=>match DL env x,b with
    | .bool true,true=>GM P N r css env A
    | .bool false,false=>GM P N r css env A
    | _,_=>none
  | false=>none
 | _,_,_,_=>none
section
variable {P:Program}{N:Nat}{ds:List Deferred}{Q:Exit→Act→World→Prop}
abbrev Gl(P:Program)(N:Nat)(env:Env)(ds:List Deferred)(A:AW)(p:WF)(s:List Kt)(Q:Exit→Act→World→Prop):Prop:=match p with
 | .code c=>G P N env ds A c s Q
 | .out e=>E P N env ds A e s Q
 | .reg os l=>Lg P N env ds A os l s Q
theorem step1_sound{p p':WF}{s s':List Kt}{bs bs':List Nat}{sg:List Seg}(h:step1 p s bs=some (sg,p',s',bs')) :
   ∀ (css css':List (List OC)) (env env':Env) (A A':AW) (vs:List Prop) (r:List Seg),GM P N (sg++r) css env A=some (vs,env',A')→Fv vs →
     (∀ (css2:List (List OC)) (env2:Env) (A2:AW) (vs2:List Prop),GM P N r css2 env2 A2=some (vs2,env',A')→Fv vs2→Gl P N env2 ds A2 p' s' Q)→Gl P N env ds A p s Q:=by
 intro css css' env env' A A' vs r hr hv K
 unfold step1 at h
 split at h
 · rename_i c s0 bs0
   split at h
   · cases h;exact Bi (K _ _ _ _ hr hv)
   · cases h;exact Xe (K _ _ _ _ hr hv)
   · cases h;exact g_label (K _ _ _ _ hr hv)
   · cases h;exact Y8 (K _ _ _ _ hr hv)
   · cases h;exact LV (K _ _ _ _ hr hv)
   · cases h;exact g_exit (K _ _ _ _ hr hv)
   · cases h;exact QC (K _ _ _ _ hr hv)
   · have key:∀ (x:Operand) (b lit:Bool),GM P N ([.cnd x b lit]++r) css env A=some (vs,env',A')→known env x=true∧DL env x = .bool b∧∃ vs2,GM P N r css env A=some (vs2,env',A')∧Fv vs2:=by
       intro x b lit hr
       simp only[List.cons_append,List.nil_append,GM]at hr
       split at hr
       · rename_i hk
         split at hr
         · obtain⟨qs,h1,rfl⟩:=MX.EL hr
           rw[CS]at hv
           exact⟨hk,hv.1.1,qs,h1,hv.2⟩
         · split at hr
           · rename_i he;exact⟨hk,he,vs,hr,hv⟩
           · rename_i he;exact⟨hk,he,vs,hr,hv⟩
           · cases hr
       · cases hr
     split at h
     · cases h
       obtain⟨h1,h2,vs2,h3,h4⟩:=key _ _ _ hr
       exact PQ (K _ _ _ _ h3 h4) h2 h1
     · cases h
       obtain⟨h1,h2,vs2,h3,h4⟩:=key _ _ _ hr
       exact UO (K _ _ _ _ h3 h4) h2 h1
     · cases h
       obtain⟨h1,h2,vs2,h3,h4⟩:=key _ _ _ hr
       exact PQ (K _ _ _ _ h3 h4) h2 h1
     · cases h
       obtain⟨h1,h2,vs2,h3,h4⟩:=key _ _ _ hr
       exact UO (K _ _ _ _ h3 h4) h2 h1
     · cases h
   · cases h
 · rename_i os l
   cases h
   cases css with
   | nil=>simp[GM]at hr
   | cons cs css =>
     simp only[List.cons_append,List.nil_append,GM]at hr
     split at hr
     · rename_i vs1 e1 A1 h1
       obtain⟨qs,h2,rfl⟩:=MX.EL hr
       rw[CS]at hv
       refine Qd l.length cs l env A vs1 e1 A1 h1 hv.1 (fun _ a w hs => ?_)
       rw[List.drop_length]
       exact K _ _ _ _ h2 hv.2 a w hs
     · cases hr
 · cases h;exact Hu (K _ _ _ _ hr hv)
 · cases h;exact e_blk (K _ _ _ _ hr hv)
 · cases h;exact e_out (K _ _ _ _ hr hv)
 · cases h;exact e_outI (K _ _ _ _ hr hv)
 · split at h
   · rename_i hb
     cases h
     have:=Nat.eq_of_beq_eq_true hb
     subst this
     exact e_hit (K _ _ _ _ hr hv)
   · rename_i hb
     cases h
     exact e_miss hb (K _ _ _ _ hr hv)
 · cases h
theorem path_sound:∀ (n last:Nat) (bs:List Nat) (p p':WF) (s s':List Kt) (sgs:List Seg),path n last bs p s=some (sgs,p',s') →
   ∀ (css:List (List OC)) (env env':Env) (A A':AW) (vs:List Prop),GM P N sgs css env A=some (vs,env',A')→Fv vs→Gl P N env' ds A' p' s' Q→Gl P N env ds A p s Q:=by
 intro n
 induction n with
 | zero =>
   intro last bs p p' s s' sgs h css env env' A A' vs hr hv K
   unfold path at h
   split at h
   · cases h
     cases css with
     | nil=>simp only[GM,Option.some.injEq,Prod.mk.injEq]at hr;obtain⟨-,rfl,rfl⟩:=hr;exact K
     | cons c cs=>simp[GM]at hr
   · rename_i k
     split at h
     · rename_i os l
       cases h
       cases css with
       | nil=>simp[GM]at hr
       | cons cs css =>
         simp only[GM]at hr
         split at hr
         · rename_i vs1 e1 A1 h1
           obtain⟨qs,h2,rfl⟩:=MX.EL hr
           rw[CS]at hv
           cases css with
           | nil =>
             simp only[GM,Option.some.injEq,Prod.mk.injEq]at h2
             obtain⟨-,rfl,rfl⟩:=h2
             have hlen:(l.take (k+1)).length=min (k+1) l.length:=List.length_take
             by_cases hkl:k+1≤l.length
             · have h3:=listA_take (P:=P) (N:=N) (ops:=os) (k+1) cs l env A hkl
               rw[hlen,Nat.min_eq_left hkl,h3]at h1
               exact Qd (k+1) cs l env A vs1 _ _ h1 hv.1 (fun _=>K)
             · have ht:l.take (k+1)=l:=List.take_of_length_le (by omega)
               have hd:l.drop (k+1)=l.drop l.length:=by rw[List.drop_of_length_le (by omega),List.drop_length]
               rw[ht]at h1
               refine Qd l.length cs l env A vs1 _ _ h1 hv.1 (fun _ => ?_)
               rw[←hd];exact K
           | cons c cs=>simp[GM]at h2
         · cases hr
     · cases h
 | succ n ih =>
   intro last bs p p' s s' sgs h css env env' A A' vs hr hv K
   unfold path at h
   split at h
   · rename_i sg p1 s1 bs1 h1
     split at h
     · rename_i sgs2 r h2
       cases h
       exact step1_sound h1 css css env env' A A' vs sgs2 hr hv (fun css2 env2 A2 vs2 hr2 hv2=>ih last bs1 p1 p' s1 s' sgs2 h2 css2 env2 env' A2 A' vs2 hr2 hv2 K)
     · cases h
   · cases h
where
 listA_take:∀ {P:Program} {N:Nat} {ops:Array Oper} (m:Nat) (cs:List OC) (l:List Oper) (env:Env) (A:AW),m≤l.length→MJ P N ops m cs (l.take m) env A=MJ P N ops m cs l env A
  | P,N,ops,0,cs,l,env,A,_=>by cases cs <;> simp[MJ]
  | P,N,ops,m+1,cs,[],env,A,h=>by simp at h
  | P,N,ops,m+1,cs,o :: l,env,A,h=>by
   have h':m≤l.length:=by simpa using h
   rw[List.take_succ_cons]
   simp only[MJ]
   have ih:=fun cs env A=>listA_take (P:=P) (N:=N) (ops:=ops) m cs l env A h'
   simp only[ih]
def Vw(P:Program)(N:Nat)(sgs:List Seg)(css:List (List OC))(keep:List Nat)(env:Env)(A:AW):MX:=match GM P N sgs css env A with
 | some (vs,e,A')=>some (vs,JZ keep e,A')
 | none=>none
theorem gl_keep{env env':Env}{A:AW}{p:WF}{s:List Kt}{keep:List Nat}(h:JZ keep env=env')(K:Gl P N env' ds A p s Q):Gl P N env ds A p s Q:=by
 cases p <;> exact fun a w hs=>K a w (hs.sub (fun t v ht=>Jg (by rw[h];exact ht)))
abbrev VG(env:Env):List Nat:=env.map (·.1)
theorem VR{p p':WF}{s s':List Kt}{sgs:List Seg}{env:Env}{A:AW}(n last:Nat)(bs:List Nat)(css:List (List OC))(keep:List Nat)(vs:List Prop)(env':Env)(A':AW)(hp:path n last bs p s=some (sgs,p',s'))(hv:Fv vs)(K:Gl P N env' ds A' p' s' Q)(h:Vw P N sgs css keep env A=some (vs,env',A')):Gl P N env ds A p s Q:=by
 unfold Vw at h
 split at h
 ·rename_i vs' e A1 h1
  simp only[Option.some.injEq,Prod.mk.injEq]at h
  obtain⟨rfl,rfl,rfl⟩:=h
  exact path_sound n last bs p p' s s' sgs hp css env e A _ _ h1 hv (gl_keep rfl K)
 cases h
variable {env:Env}{A:AW}{p':WF}{s s':List Kt}{sgs:List Seg}
theorem q_c{c:Code}(n last:Nat)(bs:List Nat)(css:List (List OC))(vs:List Prop)(env':Env)(A':AW)(hp:path n last bs (.code c) s=some (sgs,p',s'))(hv:Fv vs)(K:Gl P N env' ds A' p' s' Q)(h:Vw P N sgs css (VG env') env A=some (vs,env',A'):=by as_aux_lemma=>kernel_rfl):G P N env ds A c s Q:=VR (p:= .code c) n last bs css _ vs env' A' hp hv K h
theorem Aw{c:Code}(n last:Nat)(bs:List Nat)(css:List (List OC))(vs:List Prop)(env':Env)(hp:path n last bs (.code c) s=some (sgs,p',s'))(hv:Fv vs)(K:Gl P N env' ds A p' s' Q)(h:Vw P N sgs css (VG env') env A=some (vs,env',A):=by as_aux_lemma=>kernel_rfl):G P N env ds A c s Q:=VR (p:= .code c) n last bs css _ vs env' A hp hv K h
theorem q_o{e:Exit}(n last:Nat)(bs:List Nat)(css:List (List OC))(vs:List Prop)(env':Env)(A':AW)(hp:path n last bs (.out e) s=some (sgs,p',s'))(hv:Fv vs)(K:Gl P N env' ds A' p' s' Q)(h:Vw P N sgs css (VG env') env A=some (vs,env',A'):=by as_aux_lemma=>kernel_rfl):E P N env ds A e s Q:=VR (p:= .out e) n last bs css _ vs env' A' hp hv K h
theorem Io{e:Exit}(n last:Nat)(bs:List Nat)(css:List (List OC))(vs:List Prop)(env':Env)(hp:path n last bs (.out e) s=some (sgs,p',s'))(hv:Fv vs)(K:Gl P N env' ds A p' s' Q)(h:Vw P N sgs css (VG env') env A=some (vs,env',A):=by as_aux_lemma=>kernel_rfl):E P N env ds A e s Q:=VR (p:= .out e) n last bs css _ vs env' A hp hv K h
theorem Ey{os:Array Oper}{l:List Oper}(n last:Nat)(bs:List Nat)(css:List (List OC))(vs:List Prop)(env':Env)(A':AW)(hp:path n last bs (.reg os l) s=some (sgs,p',s'))(hv:Fv vs)(K:Gl P N env' ds A' p' s' Q)(h:Vw P N sgs css (VG env') env A=some (vs,env',A'):=by as_aux_lemma=>kernel_rfl):Lg P N env ds A os l s Q:=VR (p:= .reg os l) n last bs css _ vs env' A' hp hv K h
theorem AC{os:Array Oper}{l:List Oper}(n last:Nat)(bs:List Nat)(css:List (List OC))(vs:List Prop)(env':Env)(hp:path n last bs (.reg os l) s=some (sgs,p',s'))(hv:Fv vs)(K:Gl P N env' ds A p' s' Q)(h:Vw P N sgs css (VG env') env A=some (vs,env',A):=by as_aux_lemma=>kernel_rfl):Lg P N env ds A os l s Q:=VR (p:= .reg os l) n last bs css _ vs env' A hp hv K h
end
section
variable {P:Program}{ops:Array Oper}{Q:Exit→Act→World→Prop}{md:Region.Mode}{C:World→Prop}{late:Nat}
def Closed(md:Region.Mode)(ops:Array Oper)(listed:Array Bool):Prop :=
 (∀ j oj,ops[j]? = some oj→listed.getD j false=true→∀ e∈oj.after,Region.binds md e=true→listed.getD e.on false=true)∧∀ j,listed.getD j false=true→j<ops.size
def anc(md:Region.Mode)(ops:Array Oper):Nat→Nat→List Nat
 | 0,_=>[]
 | f+1,j=>match ops[j]? with
  | none=>[]
  | some o=>o.after.toList.flatMap fun e=>if Region.binds md e then e.on :: anc md ops f e.on else[]
theorem anc_listed{listed:Array Bool}(hc:Closed md ops listed):∀ (f j:Nat) (o:Oper),ops[j]? = some o→(∀ e∈o.after,Region.binds md e=true→listed.getD e.on false=true)→∀ m∈anc md ops f j,listed.getD m false=true:=by
 intro f
 induction f with
 | zero=>intro j o _ _ m hm;simp[anc]at hm
 | succ f ih =>
  intro j o ho ha m hm
  simp only[anc,ho,List.mem_flatMap]at hm
  obtain⟨e,he,hm⟩:=hm
  have he':e∈o.after:=by simpa using he
  split at hm
  ·rename_i hb
   have h1:=ha e he' hb
   rcases List.mem_cons.1 hm with rfl | hm
   ·exact h1
   cases hoe:ops[e.on]? with
   | none=>cases f <;> simp[anc,hoe]at hm
   | some oe=>exact ih e.on oe hoe (hc.1 e.on oe hoe h1) m hm
  cases hm
theorem N8{listed:Array Bool}{i:Nat}(hc:Closed md ops listed)(hi:i∈Region.ready md ops listed):Closed md ops (listed.setIfInBounds i true):=by
 obtain⟨-,o,ho,hall⟩:=mem_ready.1 hi
 refine⟨?_,fun j hl => ?_⟩
 ·intro j oj hj hl e he hb
  by_cases hij:i=j
  ·subst hij
   rw[hj]at ho;cases ho
   exact getD_set_true (hall e he hb)
  rw[getD_set_ne false hij]at hl
  exact getD_set_true (hc.1 j oj hj hl e he hb)
 by_cases hij:i=j
 ·subst hij;exact(Array.getElem?_eq_some_iff.1 ho).1
 rw[getD_set_ne false hij]at hl
 exact hc.2 j hl
def JS(P:Program)(md:Region.Mode)(ops:Array Oper)(Q:Exit→Act→World→Prop)(late:Nat)(C:World→Prop):Nat→Array Bool→Act→World→Prop
 | 0,listed,a,w=>Region.ready md ops listed=[]∧Q .normal a w
 | fuel+1,listed,a,w =>
  (Region.ready md ops listed=[]→Q .normal a w) ∧
  ∀ i∈Region.ready md ops listed,wpOp P ops Q i (fun a' w'=>((listed.setIfInBounds i true).getD late false=false→C w')∧JS P md ops Q late C fuel (listed.setIfInBounds i true) a' w') a w
def ahead(md:Region.Mode)(ops:Array Oper)(late i:Nat):Bool:=Nat.ble ops.size late||(anc md ops ops.size late).contains i
theorem UC{i:Nat}{oi:Oper}{listed:Array Bool}(hl:ahead md ops late i=true)(hi:ops[i]? = some oi)(hc:Closed md ops listed)(hr:i∈Region.ready md ops listed):listed.getD late false=false:=by
 cases hb:listed.getD late false with
 | false=>rfl
 | true =>
  exfalso
  have hlt:=hc.2 late hb
  unfold ahead at hl
  rcases Bool.or_eq_true_iff.1 hl with hl | hl
  ·have h1:=Nat.le_of_ble_eq_true hl
   omega
  have h0:=(mem_ready.1 hr).1
  have h1:=anc_listed hc ops.size late ops[late] (by simp[hlt]) (hc.1 late ops[late] (by simp[hlt]) hb) i (by simpa using hl)
  rcases Nat.lt_or_ge i listed.size with h' | h'
  ·simp[h']at h0 h1;rw[h0]at h1;cases h1
  simp[Array.getElem?_eq_none h']at h1
theorem first{i:Nat}{oi:Oper}{v:Value}(hl:ahead md ops late i=true)(hi:ops[i]? = some oi)(hsel:∀ (j:Nat) (o:Oper) cs b,ops[j]? = some o→o.op ≠ .select cs b)
   (hQ:∀ c a w,Q (.panic c) (a.put oi.dst v) w→Q (.panic c) a w) :
   ∀ (fuel:Nat) (listed:Array Bool) (a:Act) (w:World),Closed md ops listed →
     (∀ j oj,ops[j]? = some oj→j≠i→listed.getD j true=false→(∀ e∈oj.after,Region.binds md e=true→e.on≠i)→oi.apart ops oj=true) →
     i∈Region.ready md ops listed→YieldsIf P ops C oi v a→C w→i≠late →
     JS P md ops Q late C fuel (listed.setIfInBounds i true) (a.put oi.dst v) w→JS P md ops Q late C (fuel+1) listed a w:=by
 intro fuel
 induction fuel with
 | zero =>
   intro listed a w _ _ hr hy hS hil H
   refine⟨fun h=>(by rw[h]at hr;cases hr),fun j hj => ?_⟩
   by_cases hji:j=i
   · subst hji;exact hy.wpOp hi hS ⟨fun _=>hS,H⟩
   · have:=ready_mono hj hji
     rw[H.1]at this
     cases this
 | succ fuel ih =>
   intro listed a w hcl hfree hr hy hS hil H
   refine⟨fun h=>(by rw[h]at hr;cases hr),fun j hj => ?_⟩
   by_cases hji:j=i
   · subst hji;exact hy.wpOp hi hS ⟨fun _=>hS,H⟩
   · have h1:=H.2 j (ready_mono hj hji)
     obtain⟨hjun,oj,hoj,hall⟩:=mem_ready.1 hj
     have hnot:∀ e∈oj.after,Region.binds md e=true→e.on≠i:=fun e he hb heq=>by
       have h1:=hall e he hb
       have h0:=(mem_ready.1 hr).1
       rw[heq]at h1
       rcases Nat.lt_or_ge i listed.size with h' | h'
       · simp[h']at h0 h1;rw[h0]at h1;cases h1
       · simp[Array.getElem?_eq_none h']at h1
     have hlate:(listed.setIfInBounds j true).getD late false=false:=UC hl hi (N8 hcl hj) (ready_mono hr (Ne.symm hji))
     have hlate2:((listed.setIfInBounds i true).setIfInBounds j true).getD late false=(listed.setIfInBounds j true).getD late false∨i=late:=by
       by_cases hil:i=late
       · exact .inr hil
       · left;rw[Array.setIfInBounds_comm _ _ (Ne.symm hji),getD_set_ne false hil]
     have h2:=wpOp_putIf hoj (hfree j oj hoj hji hjun hnot) (fun cs b=>hsel i oi cs b hi) (fun cs b=>hsel j oj cs b hoj) hQ hy h1
     have hfree':∀ k ok,ops[k]? = some ok→k≠i→(listed.setIfInBounds j true).getD k true=false →
         (∀ e∈ok.after,Region.binds md e=true→e.on≠i)→oi.apart ops ok=true:=fun k ok hk hki hun hno=>by
       refine hfree k ok hk hki ?_ hno
       by_cases hjk:j=k
       · subst hjk;exact hjun
       · rw[getD_set_ne true hjk]at hun;exact hun
     refine wpOp_mono (fun a' w' h3 => ?_) h2
     have hCw:C w':=h3.2.1 (by
       rcases hlate2 with e | e
       · rw[e];exact hlate
       · exact absurd e hil)
     refine⟨fun _=>hCw,ih (listed.setIfInBounds j true) a' w' (N8 hcl hj) hfree' (ready_mono hr (Ne.symm hji)) h3.1 hCw hil ?_⟩
     rw[Array.setIfInBounds_comm _ _ hji]
     exact h3.2.2
def Quiet(Q:Exit→Act→World→Prop)(e:Exit)(a:Act)(w:World):Prop:=(e = .normal∧Q .normal a w)∨∃ ch,e = .panic ch∧∀ a':Act,a'.tmps.size=a.tmps.size→a'.defers=a.defers→Q (.panic ch) a' w
theorem Vp{a:Act}{w:World}(h:Quiet Q .normal a w):Q .normal a w:=by
 rcases h with h | ⟨ch,e, -⟩
 ·exact h.2
 cases e
theorem W9{ch:List PanicEntry}{a:Act}{w:World}(h:Quiet Q (.panic ch) a w):Q (.panic ch) a w:=by
 rcases h with h | ⟨ch,e,h⟩
 ·exact absurd h.1 (by simp)
 cases e;exact h a rfl rfl
theorem YM{ch:List PanicEntry}{a:Act}{w:World}{d:Option Tmp}{v:Value}(h:Quiet Q (.panic ch) (a.put d v) w):Quiet Q (.panic ch) a w:=by
 rcases h with h | ⟨ch,e,h⟩
 ·exact absurd h.1 (by simp)
 refine .inr ⟨ch,e,fun a' h1 h2=>h a' ?_ ?_⟩
 ·cases d <;> simp[Act.put,h1]
 cases d <;> simp[Act.put,h2]
theorem any_plain:∀ (fuel:Nat) (listed:Array Bool) (a:Act) (w:World),JS P md ops (Quiet Q) late C fuel listed a w→wpAny P md ops Q fuel listed a w:=by
 intro fuel
 induction fuel with
 | zero=>exact fun _ _ _ h=>⟨h.1,Vp h.2⟩
 | succ fuel ih =>
  intro listed a w h
  refine⟨fun h0=>Vp (h.1 h0),fun i hi => ?_⟩
  have h1:=h.2 i hi
  unfold wpOp at h1 ⊢
  cases ho:ops[i]? with
  | none=>simp only[ho]at h1;exact ih _ _ _ h1.2
  | some o =>
   simp only[ho]at h1
   simp only[]
   split
   ·rename_i hw
    simp only[hw,if_true]at h1
    rcases h1 with h1 | ⟨-,a',w',e⟩
    ·left
     unfold Oper.wp at h1 ⊢
     generalize (execOp a.eval o).run P w=r at *
     cases r with
     | ok x w' =>
      cases x <;> simp only[Oper.upon]at h1 ⊢ <;> first
       | exact ih _ _ _ h1.2
       | exact h1
       | exact Calls.mono h1 (fun e w'' he=>by cases e <;> first | exact ih _ _ _ he.2 | exact W9 he | (obtain⟨_,_,⟨e, -⟩ | ⟨_,e, -⟩⟩:=he <;> cases e))
       | exact Rows.mono h1 (fun _ _ he=>ih _ _ _ he.2)
     | halt x w'=>cases x <;> simp only[Oper.upon]at h1 ⊢ <;> first | exact h1 | exact W9 h1
    rcases e with⟨e, -⟩ | ⟨_,e, -⟩ <;> cases e
   rename_i hw
   simp only[hw,Bool.false_eq_true,if_false]at h1
   exact ih _ _ _ h1.2
end
def Cs(σC:List Ch)(w:World):Prop:=∀ c∈σC,c.holds w
def Wg(P:Program)(N:Nat)(env:Env)(ds:List Deferred)(A:AW)(ops:Array Oper)(σC:List Ch)(late fuel:Nat)(listed:List Bool)(s:List Kt)(Q:Exit→Act→World→Prop):Prop :=
 ∀ a w,St N env ds A a w→Closed .any ops listed.toArray→(listed.toArray.getD late false=false→Cs σC w)→JS P .any ops (Quiet (QQ P s Q)) late (Cs σC) fuel listed.toArray a w
def WO(P:Program)(N:Nat)(env:Env)(ds:List Deferred)(A:AW)(ops:Array Oper)(σC:List Ch)(late fuel:Nat)(listed:List Bool)(s:List Kt)(Q:Exit→Act→World→Prop)(i:Nat):Prop :=
 ∀ a w,St N env ds A a w→Closed .any ops (listed.set i true).toArray→wpOp P ops (Quiet (QQ P s Q)) i (fun a' w'=>((listed.set i true).toArray.getD late false=false→Cs σC w')∧JS P .any ops (Quiet (QQ P s Q)) late (Cs σC) fuel (listed.set i true).toArray a' w') a w
section
variable {P:Program}{N:Nat}{env:Env}{ds:List Deferred}{A:AW}{ops:Array Oper}{σC:List Ch}{late fuel:Nat}{listed:List Bool}{s:List Kt}{Q:Exit→Act→World→Prop}
def takes(P:Program)(N:Nat)(ops:Array Oper)(σC:List Ch)(w0:World)(late:Nat):List (Nat×OC)→List Bool→Env→Option (List Prop×List Bool×Env)
 | [],listed,env=>some ([],listed,env)
 | (i,c) :: r,listed,env=>match ahead .any ops late i && !Nat.beq i late,Region.free .any ops listed.toArray i,(Region.ready .any ops listed.toArray).contains i,ops[i]? with
  | true,true,true,some o=>match Jy N o.dst,J4 ops env o with
   | true,some false=>takes P N ops σC w0 late r (listed.set i true) (Gy env o.dst undef)
   | true,some true=>match GU env o,QA P true (DL env) o ⟨w0,0,σC⟩ c.k with
    | true,some (vs,v,_)=>match c.asv with
     | none=>match takes P N ops σC w0 late r (listed.set i true) (Gy env o.dst v)with
      | some (us,x)=>some (vs++us,x)
      | none=>none
     | some u=>match takes P N ops σC w0 late r (listed.set i true) (Gy env o.dst u)with
      | some (us,x)=>some (vs++(v=u) :: us,x)
      | none=>none
    | _,_=>none
   | _,_=>none
  | _,_,_,_=>none
theorem takes_sound(hs:Region.noSelect ops=true){w0:World}:∀ (cs:List (Nat×OC)) (listed:List Bool) (env:Env) (vs:List Prop) (listed':List Bool) (env':Env),
   takes P N ops σC w0 late cs listed env=some (vs,listed',env')→Fv vs→Wg P N env' ds A ops σC late fuel listed' s Q→Wg P N env ds A ops σC late (fuel+cs.length) listed s Q:=by
 intro cs
 induction cs with
 | nil =>
   intro listed env vs listed' env' h hv K
   simp only[takes,Option.some.injEq,Prod.mk.injEq]at h
   obtain⟨-,rfl,rfl⟩:=h
   exact K
 | cons x r ih =>
   obtain⟨i,c⟩:=x
   intro listed env vs listed' env' h hv K a w hst hcl hC
   simp only[takes]at h
   split at h
   · rename_i o hah0 hfr hrd hi
     rw[Bool.and_eq_true]at hah0
     obtain⟨hah,hil0⟩:=hah0
     have hil:i≠late:=fun e=>by subst e;rw[Nat.beq_refl]at hil0;cases hil0
     have hrd':i∈Region.ready .any ops listed.toArray:=by simpa using hrd
     have hC0:=hC (UC hah hi hcl hrd')
     have hQ:∀ v c a w,Quiet (QQ P s Q) (.panic c) (a.put o.dst v) w→Quiet (QQ P s Q) (.panic c) a w:=fun _ _ _ _ h=>YM h
     have hset:∀ l:List Bool,l.toArray.setIfInBounds i true=(l.set i true).toArray:=fun l=>by simp
     have hcl':Closed .any ops (listed.set i true).toArray:=by rw[←hset];exact N8 hcl hrd'
     have go:∀ v,YieldsIf P ops (Cs σC) o v a→JS P .any ops (Quiet (QQ P s Q)) late (Cs σC) (fuel+r.length) (listed.set i true).toArray (a.put o.dst v) w→JS P .any ops (Quiet (QQ P s Q)) late (Cs σC) (fuel+(r.length+1)) listed.toArray a w:=by
       intro v hy hw
       exact first (md:= .any) (late:=late) (C:=Cs σC) hah hi (Region.noSelect_spec hs) (hQ v) (fuel+r.length) listed.toArray a w hcl (Region.free_spec hi hfr) hrd' hy hC0 hil (by rw[hset];exact hw)
     split at h
     · rename_i hd hw
       exact go undef (.inr ⟨Dp hw hst,rfl⟩) (ih _ _ vs listed' env' h hv K _ _ (hst.put hst.mem _ hd undef) hcl' (fun _=>hC0))
     · rename_i hd hw
       have hw':=Dp hw hst
       split at h
       · rename_i vs1 v A1 hk hx
         have hcg:=Ej hst hk
         have hy:Fv vs1→YieldsIf P ops (Cs σC) o v a:=fun h1=> .inl ⟨hw',fun w1 hC1=>by rw[hcg];exact Zy hx h1 hC1⟩
         split at h
         · split at h
           · rename_i us x hx2
             simp only[Option.some.injEq,Prod.mk.injEq]at h
             obtain⟨rfl,rfl,rfl⟩:=h
             rw[CS]at hv
             exact go v (hy hv.1) (ih _ _ us _ _ hx2 hv.2 K _ _ (hst.put hst.mem _ hd v) hcl' (fun _=>hC0))
           · cases h
         · rename_i u hcas
           split at h
           · rename_i us x hx2
             simp only[Option.some.injEq,Prod.mk.injEq]at h
             obtain⟨rfl,rfl,rfl⟩:=h
             rw[CS]at hv
             obtain⟨h1,h2,h3⟩:=hv
             have h2':v=u:=h2
             subst h2'
             exact go v (hy h1) (ih _ _ us _ _ hx2 h3 K _ _ (hst.put hst.mem _ hd v) hcl' (fun _=>hC0))
           · cases h
       · cases h
     · cases h
   · cases h
theorem w_take(cs:List (Nat×OC))(keep:List Nat)(vs:List Prop)(listed':List Bool)(env':Env)(hf:Nat.ble cs.length fuel=true)
   (h:(match takes P N ops σC A.w0 late cs listed env with | some (vs,l,e)=>some (vs,l,JZ keep e) | none=>none)=some (vs,listed',env')) (hs:Region.noSelect ops=true) (hv:Fv vs) (K:Wg P N env' ds A ops σC late (fuel - cs.length) listed' s Q):Wg P N env ds A ops σC late fuel listed s Q:=by
 split at h
 · rename_i vs' l e h1
   simp only[Option.some.injEq,Prod.mk.injEq]at h
   obtain⟨rfl,rfl,rfl⟩:=h
   have hle:=Nat.le_of_ble_eq_true hf
   have:=takes_sound (fuel:=fuel - cs.length) hs cs listed env _ _ _ h1 hv (fun a w hst hcl hC=>K a w (hst.sub (fun t v=>Jg)) hcl hC)
   rwa [Nat.sub_add_cancel hle]at this
 · cases h
theorem Bz(cs:List (Nat×OC))(keep:List Nat)(vs:List Prop)(listed':List Bool)(env':Env)(hv:Fv vs)(K:Wg P N env' ds A ops σC late (fuel - cs.length) listed' s Q)(hf:Nat.ble cs.length fuel=true:=by rfl)(h:(match takes P N ops σC A.w0 late cs listed env with | some (vs,l,e)=>some (vs,l,JZ keep e) | none=>none)=some (vs,listed',env'):=by as_aux_lemma=>kernel_rfl)(hs:Region.noSelect ops=true:=by as_aux_lemma=>kernel_rfl):Wg P N env ds A ops σC late fuel listed s Q:=w_take cs keep vs listed' env' hf h hs hv K
theorem w_all(rs:List Nat)(hr:Region.ready .any ops listed.toArray=rs)(hne:List.isEmpty rs=false)(hf:Nat.ble 1 fuel=true)(h:∀ i∈rs,WO P N env ds A ops σC late (fuel - 1) listed s Q i):Wg P N env ds A ops σC late fuel listed s Q:=by
 intro a w hst hcl hC
 obtain⟨f,rfl⟩:∃ f,fuel=f+1:=⟨fuel - 1,by have:=Nat.le_of_ble_eq_true hf;omega⟩
 refine⟨fun h0 => ?_,fun i hi => ?_⟩
 ·rw[h0]at hr;subst hr;cases hne
 have hset:listed.toArray.setIfInBounds i true=(listed.set i true).toArray:=by simp
 have hcl':Closed .any ops (listed.set i true).toArray:=by rw[←hset];exact N8 hcl hi
 rw[hr]at hi
 have:=h i hi a w hst hcl'
 rw[hset];exact this
theorem X7(rs:List Nat)(h:∀ i∈rs,WO P N env ds A ops σC late (fuel - 1) listed s Q i)(hr:Region.ready .any ops listed.toArray=rs:=by as_aux_lemma=>kernel_rfl)(hne:List.isEmpty rs=false:=by rfl)(hf:Nat.ble 1 fuel=true:=by rfl):Wg P N env ds A ops σC late fuel listed s Q:=w_all rs hr hne hf h
theorem w_done(hr:Region.ready .any ops listed.toArray=[])(K:E P N env ds A .normal s Q):Wg P N env ds A ops σC late fuel listed s Q:=by
 intro a w hst hcl hC
 cases fuel with
 | zero=>exact⟨hr,.inl ⟨rfl,K a w hst⟩⟩
 | succ f=>exact⟨fun _=> .inl ⟨rfl,K a w hst⟩,by rw[hr];simp⟩
theorem C9(K:E P N env ds A .normal s Q)(hr:Region.ready .any ops listed.toArray=[]:=by as_aux_lemma=>kernel_rfl):Wg P N env ds A ops σC late fuel listed s Q:=w_done hr K
def picks:List Nat→List Ch→Option (List Ch)
 | [],_=>some []
 | i :: r,l=>match l[i]?,picks r l with
  | some c,some cs=>some (c :: cs)
  | _,_=>none
theorem BI:∀ {is:List Nat} {l cs:List Ch},picks is l=some cs→∀ c∈cs,c∈l
 | [],_,_,h,c,hc=>by simp[picks]at h;subst h;cases hc
 | i :: r,l,cs,h,c,hc=>by
  simp only[picks]at h
  split at h
  ·rename_i d ds hd hds
   simp only[Option.some.injEq]at h;subst h
   rcases List.mem_cons.1 hc with rfl | hc
   ·exact List.mem_of_getElem? hd
   exact BI hds c hc
  cases h
def effA(P:Program)(N:Nat)(ops:Array Oper)(i:Nat)(c:OC)(env:Env)(A:AW):MX:=match ops[i]? with
 | some o=>match Jy N o.dst,J4 ops env o,GU env o,QA P false (DL env) o A c.k with
  | true,some true,true,some (vs,v,A')=>match c.asv with
   | none=>some (vs,Gy env o.dst v,A')
   | some u=>some (vs++[v=u],Gy env o.dst u,A')
  | true,some false,_,_=>some ([],Gy env o.dst undef,A)
  | _,_,_,_=>none
 | none=>none
theorem cs_of{i:Nat}{A':AW}{w':World}{cix:List Nat}(hcl:Closed .any ops (listed.set i true).toArray)(hC:Nat.beq i late=true∨picks cix A'.σ=some σC)(hi:i<listed.length)(hs:Sat A' w'):(listed.set i true).toArray.getD late false=false→Cs σC w':=by
 intro hl
 rcases hC with hC | hC
 ·have:=Nat.eq_of_beq_eq_true hC
  subst this
  simp[hi]at hl
 exact fun c hc=>hs.all c (BI hC c hc)
theorem wo_eff{i:Nat}(c:OC)(keep:List Nat)(vs:List Prop)(env':Env)(A':AW)(cix:List Nat)
   (h:(match effA P N ops i c env A with | some (vs,e,A')=>some (vs,JZ keep e,A') | none=>none)=some (vs,env',A')) (hi:Nat.blt i listed.length=true) (hv:Fv vs) (hC:Nat.beq i late=true∨picks cix A'.σ=some σC)
   (K:Wg P N env' ds A' ops σC late fuel (listed.set i true) s Q):WO P N env ds A ops σC late fuel listed s Q i:=by
 intro a w hst hcl
 have hlt:i<listed.length:=by simpa using hi
 split at h
 · rename_i vs' e A1 h1
   simp only[Option.some.injEq,Prod.mk.injEq]at h
   obtain⟨rfl,rfl,rfl⟩:=h
   unfold effA at h1
   unfold wpOp
   split at h1
   · rename_i o ho
     simp only[ho]
     split at h1
     · rename_i vs1 v A2 hd hw hk hx
       have hw':=Dp hw hst
       rw[if_pos hw']
       left
       have done:∀ u,e=Gy env o.dst u→v=u→Fv vs1→A2=A1→o.wp P a w (fun a' w'=>((listed.set i true).toArray.getD late false=false→Cs σC w')∧JS P .any ops (Quiet (QQ P s Q)) late (Cs σC) fuel (listed.set i true).toArray a' w') (Quiet (QQ P s Q)):=by
         rintro u rfl rfl hv1 rfl
         obtain⟨w',hy,hsat, -⟩:=Vg hx hv1 hst.mem
         have hcs:=cs_of (listed:=listed) hcl hC hlt hsat
         have hfin:=K _ _ ((hst.put hsat _ hd v).sub (fun t v=>Jg)) hcl hcs
         unfold Oper.wp
         rw[Ej hst hk]
         rcases hy with hy | ⟨hy,rfl⟩ <;> rw[hy] <;> exact⟨hcs,hfin⟩
       split at h1
       · simp only[Option.some.injEq,Prod.mk.injEq]at h1
         obtain⟨rfl,rfl,rfl⟩:=h1
         exact done v rfl rfl hv rfl
       · simp only[Option.some.injEq,Prod.mk.injEq]at h1
         obtain⟨rfl,rfl,rfl⟩:=h1
         rw[CS]at hv
         exact done _ rfl hv.2.1 hv.1 rfl
     · rename_i hd hw
       have hw':=Dp hw hst
       simp only[Option.some.injEq,Prod.mk.injEq]at h1
       obtain⟨rfl,rfl,rfl⟩:=h1
       rw[if_neg (by rw[hw'];simp)]
       have hcs:=cs_of (listed:=listed) hcl hC hlt hst.mem
       exact⟨hcs,K _ _ ((hst.put hst.mem _ hd undef).sub (fun t v=>Jg)) hcl hcs⟩
     · cases h1
   · cases h1
 · cases h
theorem DT{i:Nat}(c:OC)(keep:List Nat)(vs:List Prop)(env':Env)(A':AW)(cix:List Nat)(hv:Fv vs)(hC:Nat.beq i late=true∨picks cix A'.σ=some σC)(K:Wg P N env' ds A' ops σC late fuel (listed.set i true) s Q)(h:(match effA P N ops i c env A with | some (vs,e,A')=>some (vs,JZ keep e,A') | none=>none)=some (vs,env',A'):=by as_aux_lemma=>kernel_rfl)(hi:Nat.blt i listed.length=true:=by rfl):WO P N env ds A ops σC late fuel listed s Q i:=wo_eff c keep vs env' A' cix h hi hv hC K
theorem MC{i:Nat}(cs:List LC)(vs:List Prop)(f:FuncId)(args:Array Value)(d:Option Nat)(h:(match ops[i]? with | some o=>OY P env A cs ops [o] | none=>none)=some (vs,f,args,d))(hd:Jy N d=true)(hi:Nat.blt i listed.length=true)(hv:Fv vs)
   (hc:∀ w,Sat A w→Calls P f args w fun e w'=>∃ v A',e = .returned v∧Sat A' w'∧(Nat.beq i late=true∨Cs σC w')∧Wg P N (Gy env d v) ds A' ops σC late fuel (listed.set i true) s Q):WO P N env ds A ops σC late fuel listed s Q i:=by
 intro a w hst hcl
 have hlt:i<listed.length:=by simpa using hi
 split at h
 · rename_i o ho
   simp only[OY]at h
   split at h
   · rename_i vs' f' args' A' hw hk hr
     simp only[Option.some.injEq,Prod.mk.injEq]at h
     obtain⟨rfl,rfl,rfl,rfl⟩:=h
     obtain⟨hrun, -⟩:=LU _ _ _ _ _ _ _ hr hv w hst.mem.all
     unfold wpOp
     simp only[ho]
     rw[if_pos (Dp hw hst)]
     left
     unfold Oper.wp
     rw[Ej hst hk,hrun]
     refine(hc w hst.mem).mono ?_
     rintro e w' ⟨v,A1,rfl,hs1,hC1,K⟩
     have hcs:(listed.set i true).toArray.getD late false=false→Cs σC w':=by
       intro hl
       rcases hC1 with hC1 | hC1
       · have:=Nat.eq_of_beq_eq_true hC1
         subst this
         simp[hlt]at hl
       · exact hC1
     exact⟨hcs,K _ _ (hst.put hs1 _ hd v) hcl hcs⟩
   · cases h
 · cases h
theorem Ea{i:Nat}(cs:List LC)(vs:List Prop)(f:FuncId)(args:Array Value)(d:Option Nat)(h:(match ops[i]? with | some o=>OY P env A cs ops [o] | none=>none)=some (vs,f,args,d))(hd:Jy N d=true)(hi:Nat.blt i listed.length=true)(hv:Fv vs)
   (hc:∀ w,Sat A w→Calls P f args w fun e w'=>(∃ v A',e = .returned v∧Sat A' w'∧(Nat.beq i late=true∨Cs σC w')∧Wg P N (Gy env d v) ds A' ops σC late fuel (listed.set i true) s Q)∨(∃ ch A',e = .panicked ch∧Sat A' w'∧E P N [] ds A' (.panic ch) s Q)):WO P N env ds A ops σC late fuel listed s Q i:=by
 intro a w hst hcl
 have hlt:i<listed.length:=by simpa using hi
 split at h
 · rename_i o ho
   simp only[OY]at h
   split at h
   · rename_i vs' f' args' A' hw hk hr
     simp only[Option.some.injEq,Prod.mk.injEq]at h
     obtain⟨rfl,rfl,rfl,rfl⟩:=h
     obtain⟨hrun, -⟩:=LU _ _ _ _ _ _ _ hr hv w hst.mem.all
     unfold wpOp
     simp only[ho]
     rw[if_pos (Dp hw hst)]
     left
     unfold Oper.wp
     rw[Ej hst hk,hrun]
     refine(hc w hst.mem).mono ?_
     rintro e w' (⟨v,A1,rfl,hs1,hC1,K⟩ | ⟨ch,A1,rfl,hs1,K⟩)
     · have hcs:(listed.set i true).toArray.getD late false=false→Cs σC w':=by
         intro hl
         rcases hC1 with hC1 | hC1
         · have:=Nat.eq_of_beq_eq_true hC1
           subst this
           simp[hlt]at hl
         · exact hC1
       exact⟨hcs,K _ _ (hst.put hs1 _ hd v) hcl hcs⟩
     · exact .inr ⟨ch,rfl,fun a' h1 h2=>K a' w' ⟨h1.trans hst.sz,h2.trans hst.df,fun t v hl=>by simp[look]at hl,hs1⟩⟩
   · cases h
 · cases h
theorem anyI_free{C C':World→Prop}{late':Nat}{Q:Exit→Act→World→Prop}:∀ (fuel:Nat) (listed:Array Bool) (a:Act) (w:World),listed.getD late false=true→JS P .any ops Q late' C' fuel listed a w→JS P .any ops Q late C fuel listed a w:=by
 intro fuel
 induction fuel with
 | zero=>exact fun _ _ _ _ h=>h
 | succ fuel ih =>
  intro listed a w hl h
  refine⟨h.1,fun i hi=>wpOp_mono (fun a' w' h3=>⟨fun hn => ?_,ih _ _ _ (getD_set_true hl) h3.2⟩) (h.2 i hi)⟩
  rw[getD_set_true hl]at hn;cases hn
theorem Ih(late':Nat)(cix:List Nat)(σC':List Ch)(hl:listed.toArray.getD late false=true)(hC:picks cix A.σ=some σC')(h:Wg P N env ds A ops σC' late' fuel listed s Q):Wg P N env ds A ops σC late fuel listed s Q :=
 fun a w hst hcl _=>anyI_free _ _ _ _ hl (h a w hst hcl (fun _ c hc=>hst.mem.all c (BI hC c hc)))
theorem D5{id:Nat}(late:Nat)(cix:List Nat)(σC:List Ch)(hm:P.follows .mixedOrders=true)(hC:picks cix A.σ=some σC)(h:Wg P N env ds A ops σC late ops.size (List.replicate ops.size false) s Q):G P N env ds A (.region id ops true) s Q:=by
 intro a w hst
 have hst':St N env ds A a w.drew:=⟨hst.sz,hst.df,hst.kn,hst.mem.drew⟩
 refine wp_region_any hm (any_plain (late:=late) (C:=Cs σC) _ _ _ _ ?_)
 have hr:Array.replicate ops.size false=(List.replicate ops.size false).toArray:=by simp
 rw[hr]
 refine h a w.drew hst' ⟨fun j oj hj hl => ?_,fun j hl => ?_⟩ (fun _ c hc=>hst'.mem.all c (BI hC c hc))
 all_goals
  rw[Array.getD_eq_getD_getElem?]at hl
  by_cases hlt:j<ops.size <;> simp[List.getElem?_replicate,hlt]at hl
end
end Go.Proofs.Ytjmcjekhgpakoaa.Eng
namespace Go.Proofs.Ytjmcjekhgpakoaa.Mem
open Go.RowKit
def At(w:World)(b:Nat)(o:Obj):Prop:=w.heap[b]? = some o
section
variable {w:World}{b:Nat}{o:Obj}
theorem At.eq(h:At w b o):w.heap[b]? = some o:=h
theorem At.lt(h:At w b o):b<w.heap.size:=(Array.getElem?_eq_some_iff.1 h).1
theorem At.ne(h:At w b o):b≠w.heap.size:=by have:=h.lt;omega
theorem At.cell{c:Array Value}{t:TypeId}{fr:Nat×Nat}(h:At w b (.cells c t fr)){i:Nat}{v:Value}(hc:c[i]? = some v):w.cell? ⟨b,i,none⟩=some v:=by
 simp[World.cell?,h.eq,hc]
theorem At.free{c:Array Value}{t:TypeId}(h:At w b (.cells c t (0,0)))(i:Nat):w.frozen? ⟨b,i,none⟩=false:=by
 simp[World.frozen?,h.eq]
end
def setRow(i:Nat)(v:Value):Option Obj→Option Obj
 | some (.cells c t fr)=>some (.cells (c.setIfInBounds i v) t fr)
 | x=>x
theorem heap_setCell(w:World)(b i:Nat)(v:Value)(k:Nat):(w.setCell ⟨b,i,none⟩ v).heap[k]? = if b=k then setRow i v w.heap[k]? else w.heap[k]? := by
 simp only[World.setCell,Array.getElem?_modify]
 by_cases h:b=k
 ·subst h
  simp only[if_true]
  cases hk:w.heap[b]? with
  | none=>rfl
  | some o=>cases o <;> simp[setRow]
 simp[h]
theorem heap_alloc(w:World)(o:Obj)(k:Nat):(w.alloc o).heap[k]? = if k=w.heap.size then some o else w.heap[k]? := by
 show(w.heap.push o)[k]? = _
 rw[Array.getElem?_push]
theorem size_setCell(w:World)(a:Addr)(v:Value):(w.setCell a v).heap.size=w.heap.size:=by simp[World.setCell]
theorem size_alloc(w:World)(o:Obj):(w.alloc o).heap.size=w.heap.size+1:=by simp
theorem At.alloc{w:World}{b:Nat}{o:Obj}(h:At w b o)(o':Obj):At (w.alloc o') b o:=by
 unfold At;rw[heap_alloc,if_neg h.ne];exact h
theorem At.new(w:World)(o:Obj):At (w.alloc o) w.heap.size o:=by unfold At;rw[heap_alloc,if_pos rfl]
structure AV(S:Nat→Prop)(w w':World):Prop where
 os:w'.os=w.os
 tape:w'.tape=w.tape
 output:w'.output=w.output
 size:w.heap.size≤w'.heap.size
 block:∀ k,k<w.heap.size→¬ S k→w'.heap[k]? = w.heap[k]?
section
variable {S T:Nat→Prop}{a w w':World}
theorem AV.refl(S:Nat→Prop)(w:World):AV S w w:=⟨rfl,rfl,rfl,Nat.le_refl _,fun _ _ _=>rfl⟩
theorem AV.trans(h:AV S a w)(k:AV T w w')(hT:∀ i,i<a.heap.size→T i→S i):AV S a w' :=
 ⟨k.os.trans h.os,k.tape.trans h.tape,k.output.trans h.output,Nat.le_trans h.size k.size,
  fun i hi hn=>(k.block i (Nat.lt_of_lt_of_le hi h.size) (fun x=>hn (hT i hi x))).trans (h.block i hi hn)⟩
theorem AV.mono(h:AV S a w)(hT:∀ i,i<a.heap.size→S i→T i):AV T a w :=
 ⟨h.os,h.tape,h.output,h.size,fun i hi hn=>h.block i hi (fun x=>hn (hT i hi x))⟩
theorem AV.drew(h:AV S a w):AV S a w.drew:=⟨h.os,h.tape,h.output,h.size,h.block⟩
theorem AV.setCell(h:AV S a w){b i:Nat}{v:Value}(hb:S b∨a.heap.size≤b):AV S a (w.setCell ⟨b,i,none⟩ v) :=
 ⟨h.os,h.tape,h.output,by rw[size_setCell];exact h.size,fun k hk hn=>by
  rw[heap_setCell,if_neg (fun e=>by rcases hb with x | x;exact hn (e ▸ x);omega)];exact h.block k hk hn⟩
theorem AV.alloc(h:AV S a w)(o:Obj):AV S a (w.alloc o) :=
 ⟨h.os,h.tape,h.output,by rw[size_alloc];have:=h.size;omega,fun k hk hn=>by
  rw[heap_alloc,if_neg (by have:=h.size;omega)];exact h.block k hk hn⟩
theorem AV.below(h:AV S w w'){B:Nat}(hB:B≤w.heap.size)(hS:∀ k,k<B→¬ S k):Below B w w' :=
 ⟨h.os,h.tape,h.output,h.size,fun k hk=>h.block k (by omega) (hS k hk)⟩
theorem AV.of_grownBy{row:Option Nat}(h:w.grownBy w' row):AV (fun k=>some k=row) w w' :=
 ⟨h.os,h.tape,h.output,h.size,fun k hk hn=>h.block k hk hn⟩
end
def Zt(w:World)(b:Nat)(l:List (Int×Value)):Prop :=
 ∃ es c,At w b (.map es c)∧es.toList.map (fun e=>(e.key,e.val))=l.map (fun x=>(Value.int .i64 x.1,x.2))
theorem Zt.at{w:World}{b:Nat}{l:List (Int×Value)}(h:Zt w b l):∃ o,At w b o:=by obtain⟨es,c,h,_⟩:=h;exact⟨_,h⟩
theorem Zt.lt{w:World}{b:Nat}{l:List (Int×Value)}(h:Zt w b l):b<w.heap.size:=by obtain⟨o,h⟩:=h.at;exact h.lt
section ops
variable {P:Program}{t tk te:TypeId}{w:World}{b:Nat}{l:List (Int×Value)}
end ops
end Go.Proofs.Ytjmcjekhgpakoaa.Mem
namespace Go.Proofs.Ytjmcjekhgpakoaa.Eng
open Go Go.Proofs.Ytjmcjekhgpakoaa.Mem
set_option linter.unusedSimpArgs false
set_option linter.unusedVariables false
def nodupB:List Nat→Bool
 | []=>true
 | x :: r => !(r.contains x)&&nodupB r
theorem WW:∀ {l:List Nat},nodupB l=true→l.Nodup
 | [],_=>List.nodup_nil
 | x :: r,h=>by
  simp only[nodupB,Bool.and_eq_true,Bool.not_eq_true',List.contains_eq_mem,decide_eq_false_iff_not]at h
  exact List.nodup_cons.2 ⟨h.1,WW h.2⟩
theorem Key.QH{c d:Key}(h:Key.apart c d):Key.apart d c:=fun hr b hb hc=>h (hr.symm) b hc hb
theorem U0{l:List Key}(h:l.Pairwise Key.apart){i j:Nat}{c d:Key}(hi:l[i]? = some c)(hj:l[j]? = some d)(hij:i≠j):Key.apart c d:=by
 obtain⟨hi',rfl⟩:=List.getElem?_eq_some_iff.1 hi
 obtain⟨hj',rfl⟩:=List.getElem?_eq_some_iff.1 hj
 rcases Nat.lt_or_gt_of_ne hij with hlt | hlt
 ·exact List.pairwise_iff_getElem.1 h i j hi' hj' hlt
 exact Key.QH (List.pairwise_iff_getElem.1 h j i hj' hi' hlt)
theorem Jv:∀ {is:List Nat} {l cs:List Ch},picks is l=some cs→∀ c∈cs,∃ i∈is,l[i]? = some c
 | [],_,_,h,c,hc=>by simp[picks]at h;subst h;cases hc
 | i :: r,l,cs,h,c,hc=>by
  simp only[picks]at h
  split at h
  ·rename_i d ds hd hds
   simp only[Option.some.injEq]at h;subst h
   rcases List.mem_cons.1 hc with rfl | hc
   ·exact⟨i,by simp,hd⟩
   obtain⟨j,hj,hl⟩:=Jv hds c hc
   exact⟨j,by simp[hj],hl⟩
  cases h
theorem Td{l:List Ch}(h:(l.map Ch.key).Pairwise Key.apart):∀ {is:List Nat} {cs:List Ch},is.Nodup→picks is l=some cs→(cs.map Ch.key).Pairwise Key.apart
 | [],_,_,h=>by simp[picks]at h;subst h;simp
 | i :: r,cs,hn,hp=>by
  simp only[picks]at hp
  split at hp
  ·rename_i d ds hd hds
   simp only[Option.some.injEq]at hp;subst hp
   rw[List.nodup_cons]at hn
   simp only[List.map_cons,List.pairwise_cons]
   refine⟨?_,Td h hn.2 hds⟩
   intro k hk
   obtain⟨c,hc,rfl⟩:=List.mem_map.1 hk
   obtain⟨j,hj,hl⟩:=Jv hds c hc
   exact U0 h (i:=i) (j:=j) (by rw[List.getElem?_map,hd];rfl) (by rw[List.getElem?_map,hl];rfl) (fun e=>hn.1 (e ▸ hj))
  cases hp
theorem Sat.pick{A:AW}{w:World}(h:Sat A w)(is:List Nat){σ':List Ch}(hn:nodupB is=true)(hp:picks is A.σ=some σ'):Sat { A with σ:=σ' } w :=
 ⟨h.os,h.tape,h.output,h.size,fun c hc=>h.all c (BI hp c hc),fun c hc=>h.bnd c (BI hp c hc),fun c hc=>h.KQ c (BI hp c hc),Td h.Js (WW hn) hp⟩
theorem Sat.exch{A:AW}{w w':World}{M:Nat→Prop}(h:Sat A w)(is:List Nat){kept:List Ch}(hn:nodupB is=true)(hp:picks is A.σ=some kept)(hk:AV M w w')(hM:∀ c∈kept,∀ b,c.F b→¬ M b)(new:List Ch)
   (h1:∀ c∈new,c.holds w'∧c.stable∧∀ b,c.F b→b<w'.heap.size) (h2:(new.map Ch.key).Pairwise Key.apart) (h3:∀ c∈kept,∀ d∈new,Key.apart c.key d.key):Sat { A with n:=w'.heap.size,σ:=kept++new } w':=by
 refine⟨hk.os.trans h.os,hk.tape.trans h.tape,hk.output.trans h.output,rfl, ?_, ?_, ?_, ?_⟩
 · intro c hc
   rcases List.mem_append.1 hc with hc | hc
   · have hm:=BI hp c hc
     exact h.KQ c hm w w' (fun b hb=>hk.block b (by rw[h.size];exact h.bnd c hm b hb) (hM c hc b hb)) (h.all c hm)
   · exact(h1 c hc).1
 · intro c hc b hb
   rcases List.mem_append.1 hc with hc | hc
   · have:=h.bnd c (BI hp c hc) b hb
     have h2:=hk.size
     rw[h.size]at h2
     show b<w'.heap.size
     omega
   · exact(h1 c hc).2.2 b hb
 · intro c hc
   rcases List.mem_append.1 hc with hc | hc
   · exact h.KQ c (BI hp c hc)
   · exact(h1 c hc).2.1
 · show((kept++new).map Ch.key).Pairwise Key.apart
   rw[List.map_append,List.pairwise_append]
   refine⟨Td h.Js (WW hn) hp,h2, ?_⟩
   intro x hx y hy
   obtain⟨c,hc,rfl⟩:=List.mem_map.1 hx
   obtain⟨d,hd,rfl⟩:=List.mem_map.1 hy
   exact h3 c hc d hd
theorem Sat.keeps{A:AW}{w w':World}(h:Sat A w)(hk:AV (fun _=>False) w w'):Sat { A with n:=w'.heap.size } w':=by
 refine⟨hk.os.trans h.os,hk.tape.trans h.tape,hk.output.trans h.output,rfl,fun c hc => ?_,fun c hc b hb => ?_,h.KQ,h.Js⟩
 ·exact h.KQ c hc w w' (fun b hb=>hk.block b (by rw[h.size];exact h.bnd c hc b hb) id) (h.all c hc)
 have:=h.bnd c hc b hb
 have h2:=hk.size
 rw[h.size]at h2
 show b<w'.heap.size
 omega
theorem Sat.Le{A:AW}{w w':World}(h:Sat A w)(hk:AV (fun _=>False) w w')(c:Ch)(hc:c.holds w')(hst:c.stable)(hF:∀ b,c.F b→A.n≤b∧b<w'.heap.size):Sat { A with n:=w'.heap.size,σ:=A.σ++[c] } w':=by
 have h':=h.keeps hk
 refine⟨h'.os,h'.tape,h'.output,rfl, ?_, ?_, ?_, ?_⟩
 ·intro d hd
  rcases List.mem_append.1 hd with hd | hd
  ·exact h'.all d hd
  simp only[List.mem_singleton]at hd;subst hd;exact hc
 ·intro d hd b hb
  rcases List.mem_append.1 hd with hd | hd
  ·exact h'.bnd d hd b hb
  simp only[List.mem_singleton]at hd;subst hd;exact(hF b hb).2
 ·intro d hd
  rcases List.mem_append.1 hd with hd | hd
  ·exact h'.KQ d hd
  simp only[List.mem_singleton]at hd;subst hd;exact hst
 show((A.σ++[c]).map Ch.key).Pairwise Key.apart
 rw[List.map_append,List.pairwise_append]
 refine⟨h.Js,by simp, ?_⟩
 intro x hx y hy _ b hb hb'
 simp only[List.map_cons,List.map_nil,List.mem_singleton]at hy
 subst hy
 obtain⟨d,hd,rfl⟩:=List.mem_map.1 hx
 have h1:=h.bnd d hd b hb
 have h2:=(hF b hb').1
 omega
def old(S:Nat→Prop)(w:World):Ch:= .inv (fun b=>b<w.heap.size∧¬ S b) (fun w'=>∀ b,b<w.heap.size→¬ S b→w'.heap[b]? = w.heap[b]?) false
theorem U3(S:Nat→Prop)(w:World):(old S w).stable:=fun w1 w2 h hw b hb hS=>(h b ⟨hb,hS⟩).trans (hw b hb hS)
theorem sat_old(w:World):Sat ⟨w,w.heap.size,[old (fun _=>False) w]⟩ w:=by
 refine⟨rfl,rfl,rfl,rfl, ?_, ?_, ?_,by simp⟩
 ·intro c hc;simp only[List.mem_singleton]at hc;subst hc;exact fun _ _ _=>rfl
 ·intro c hc b hb;simp only[List.mem_singleton]at hc;subst hc;exact hb.1
 intro c hc;simp only[List.mem_singleton]at hc;subst hc;exact U3 _ _
theorem LM(w:World)(S:Nat→Prop)(new:List Ch)(h1:∀ c∈new,c.holds w∧c.stable∧∀ b,c.F b→b<w.heap.size∧S b)(h2:(new.map Ch.key).Pairwise Key.apart):Sat ⟨w,w.heap.size,old S w :: new⟩ w:=by
 refine⟨rfl,rfl,rfl,rfl, ?_, ?_, ?_, ?_⟩
 ·intro c hc
  rcases List.mem_cons.1 hc with rfl | hc
  ·exact fun _ _ _=>rfl
  exact(h1 c hc).1
 ·intro c hc b hb
  rcases List.mem_cons.1 hc with rfl | hc
  ·exact hb.1
  exact((h1 c hc).2.2 b hb).1
 ·intro c hc
  rcases List.mem_cons.1 hc with rfl | hc
  ·exact U3 _ _
  exact(h1 c hc).2.1
 show((old S w).key :: new.map Ch.key).Pairwise Key.apart
 rw[List.pairwise_cons]
 refine⟨?_,h2⟩
 intro x hx _ b hb hb'
 obtain⟨c,hc,rfl⟩:=List.mem_map.1 hx
 exact hb.2 ((h1 c hc).2.2 b hb').2
theorem Sat.back{A:AW}{w0 w:World}{S:Nat→Prop}(h:Sat A w)(hw:A.w0=w0)(hn:w0.heap.size≤A.n)(hin:old S w0∈A.σ):AV S w0 w:=by
 subst hw
 refine⟨h.os,h.tape,h.output,by rw[h.size];exact hn,fun b hb hS => ?_⟩
 exact h.all _ hin b hb hS
theorem AB{A:AW}{w w':World}{S:Nat→Prop}(h:Sat A w)(hk:AV S w w'):A.n≤w'.heap.size:=by have:=hk.size;rw[h.size]at this;exact this
theorem Uy{P:Program}{N:Nat}{env:Env}{ds:List Deferred}{A:AW}{ops:Array Oper}{l:List Oper}{s:List Kt}{Q:Exit→Act→World→Prop}(f:FuncId)(args:Array Value)(d:Option Nat)(v:Value)(hc:∀ w,Sat A w→Calls P f args w fun e w'=>e = .returned v∧AV (fun _=>False) w w')(K:∀ n,A.n≤n→Lg P N (Gy env d v) ds { A with n:=n } ops (l.drop 1) s Q)(h:OY P env A [] ops l=some ([],f,args,d):=by as_aux_lemma=>kernel_rfl)(hd:Jy N d=true:=by kernel_rfl):Lg P N env ds A ops l s Q :=
 l_call [] [] f args d trivial (fun w hw=>(hc w hw).mono fun e w' ⟨he,hk⟩=>⟨v,{ A with n:=w'.heap.size },he,hw.keeps hk,K _ (AB hw hk)⟩) h hd
theorem A7{w w':World}{n:Nat}{S:Nat→Prop}{σ:List Ch}(h:Sat ⟨w,n,old S w :: σ⟩ w')(hn:w.heap.size≤n:=by omega):AV S w w':=h.back rfl hn (List.mem_cons_self ..)
theorem BC{S:Nat→Prop}{w:World}{b k:Nat}{v:Value}(h:w.cell? ⟨b,k,none⟩=some v)(hS:¬ S b):∀ w',(old S w).holds w'→w'.cell? ⟨b,k,none⟩=some v:=by
 intro w' hw
 have hlt:b<w.heap.size:=by
  simp only[World.cell?]at h
  split at h
  ·rename_i hb;exact(Array.getElem?_eq_some_iff.1 hb).1
  cases h
 rw[←h]
 simp only[World.cell?]
 rw[hw b hlt hS]
theorem Bg{w:World}{b k:Nat}{v:Value}(h:w.cell? ⟨b,k,none⟩=some v):∀ w',(old (fun _=>False) w).holds w'→w'.cell? ⟨b,k,none⟩=some v:=BC h id
def MW(base:Nat)(e:TypeId)(size:Nat)(v:Value)(n:Nat)(xs:List Value):Ch:= .inv (fun b=>v.ownBlock=some b) (fun w=>w.ownsRow base e size v n xs) true
theorem D9(base:Nat)(e:TypeId)(size:Nat)(v:Value)(n:Nat)(xs:List Value):(MW base e size v n xs).stable:=by
 intro w w' h hw
 refine⟨hw.1, ?_⟩
 rcases hw.2 with hn | ⟨g,cap,cur,rfl,hb,hgg,rest⟩
 ·exact .inl hn
 exact .inr ⟨g,cap,cur,rfl,hb,(h g (by simp[MW,Ch.F,Value.ownBlock])).trans hgg,rest⟩
theorem Sat.more{A:AW}{w:World}(h:Sat A w)(c:Ch)(hc:c.holds w)(hst:c.stable)(hF:∀ b,¬ c.F b):Sat { A with σ:=A.σ++[c] } w:=by
 refine⟨h.os,h.tape,h.output,h.size, ?_, ?_, ?_, ?_⟩
 ·intro d hd
  rcases List.mem_append.1 hd with hd | hd
  ·exact h.all d hd
  simp only[List.mem_singleton]at hd;subst hd;exact hc
 ·intro d hd b hb
  rcases List.mem_append.1 hd with hd | hd
  ·exact h.bnd d hd b hb
  simp only[List.mem_singleton]at hd;subst hd;exact absurd hb (hF b)
 ·intro d hd
  rcases List.mem_append.1 hd with hd | hd
  ·exact h.KQ d hd
  simp only[List.mem_singleton]at hd;subst hd;exact hst
 show((A.σ++[c]).map Ch.key).Pairwise Key.apart
 rw[List.map_append,List.pairwise_append]
 refine⟨h.Js,by simp, ?_⟩
 intro x hx y hy _ b hb hb'
 simp only[List.map_cons,List.map_nil,List.mem_singleton]at hy
 subst hy
 exact hF b hb'
theorem Sat.row{A:AW}{w:World}(h:Sat A w)(base:Nat)(e:TypeId)(size:Nat):Sat { A with σ:=A.σ++[MW base e size (.slice none 0 0) 0 []] } w :=
 h.more _ (World.ownsRow_nil w base e size) (D9 _ _ _ _ _ _) (fun b hb=>by simp[MW,Ch.F,Value.ownBlock]at hb)
section
variable {P:Program}{N:Nat}{env:Env}{ds:List Deferred}{A:AW}{ops:Array Oper}{l:List Oper}{s:List Kt}{Q:Exit→Act→World→Prop}{c:Code}
theorem l_row(base:Nat)(e:TypeId)(size:Nat)(h:Lg P N env ds { A with σ:=A.σ++[MW base e size (.slice none 0 0) 0 []] } ops l s Q):Lg P N env ds A ops l s Q:=fun a w hs=>h a w ⟨hs.sz,hs.df,hs.kn,hs.mem.row base e size⟩
theorem g_row(base:Nat)(e:TypeId)(size:Nat)(h:G P N env ds { A with σ:=A.σ++[MW base e size (.slice none 0 0) 0 []] } c s Q):G P N env ds A c s Q:=fun a w hs=>h a w ⟨hs.sz,hs.df,hs.kn,hs.mem.row base e size⟩
theorem CG{x:Exit}(is:List Nat)(σ':List Ch)(hn:nodupB is=true)(hp:picks is A.σ=some σ')(h:E P N env ds { A with σ:=σ' } x s Q):E P N env ds A x s Q:=fun a w hs=>h a w ⟨hs.sz,hs.df,hs.kn,hs.mem.pick is hn hp⟩
theorem Ce{x:Exit}(keep:List Nat)(env':Env)(K:E P N env' ds A x s Q)(h:JZ keep env=env':=by as_aux_lemma=>kernel_rfl):E P N env ds A x s Q:=fun a w hs=>K a w (hs.sub (fun t v ht=>Jg (by rw[h];exact ht)))
theorem SN{w:World}{base:Nat}{e:TypeId}{size n:Nat}{v:Value}{xs:List Value}(h:w.ownsRow base e size v n xs):∃ a cap,v = .slice a n cap:=by
 rcases h.2 with⟨rfl,rfl⟩ | ⟨g,cap,cur,rfl, -⟩
 ·exact⟨none,0,rfl⟩
 exact⟨_,cap,rfl⟩
theorem Xp{base:Nat}{ρ:Operand→Value}{o:Oper}{x y:Operand}{t e:TypeId}{f:TypeInfo}{z:Value}{i:Nat}{v:Value}{n:Nat}{xs:List Value}{ad:Addr}{m cp:Nat}{news:List Value}
   (ho:o.op = .call { callee:= .builtin .append,args:= #[x,y],argTypes:= #[t,t] }) (ht:P.underlying t=some (.slice e)) (hf:P.info? e=some f) (hz:f.zero=some z) (hzs:z.cells.size=f.size) (hsz:0<f.size)
   (hi:A.σ[i]? = some (MW base e f.size v n xs)) (hx:ρ x=v) (hy:ρ y = .slice (some ad) m cp) (hl:news.length=m*f.size) (h1:∀ u∈news,u.oneCell'=true) {w:World} (hs:Sat A w) (hnews:∀ j u,news[j]? = some u→w.cell? (ad.add j)=some u)
   (h63:n+m≤maxLen) (hb:(n+m)*f.bytes≤140737488355328) (hbase:base≤A.n) :
   ∃ a' cap' w',(execOp ρ o).run P w = .ok (.value (.slice a' (n+m) cap')) w'∧A.n≤w'.heap.size∧Sat { A with n:=w'.heap.size,σ:=A.σ.set i (MW base e f.size (.slice a' (n+m) cap') (n+m) (xs++news)) } w':=by
 have hown:w.ownsRow base e f.size v n xs:=hs.at hi
 obtain⟨v',w',hr,ho',hg, -,hat⟩:=run_append_own_at (P:=P) w base t o.type e f z f.size f.bytes ht hf hz rfl rfl hzs hsz v n xs hown ad m cp news hl hnews h1 h63 hb (by rw[hs.size];exact hbase)
 obtain⟨a',cap',rfl⟩:=SN ho'
 have hk:AV (fun k=>some k=v.ownBlock) w w':=AV.of_grownBy hg
 have hsize:A.n≤w'.heap.size:=by have:=hk.size;rw[hs.size]at this;exact this
 refine⟨a',cap',w', ?_,hsize, ?_⟩
 · unfold execOp
   simp only[ho,resolve,invoke,builtin,Sem.run_bind,Sem.run_pure,Result.andThen_ok,List.map_toArray,List.map_cons,List.map_nil,hx,hy,hr]
 · obtain⟨hlt,hix⟩:=List.getElem?_eq_some_iff.1 hi
   have hvb:∀ b,v.ownBlock=some b→b<A.n:=fun b hb=>hs.bnd _ (List.mem_of_getElem? hi) b hb
   have hnew:∀ b,(Value.slice a' (n+m) cap').ownBlock=some b→v.ownBlock=some b∨b=w.heap.size:=by
     intro b hb
     rcases hat with e1 | e1
     · exact .inl (e1 ▸ hb)
     · rw[e1]at hb;simp at hb;exact .inr hb.symm
   have hap:∀ j d,j≠i→A.σ[j]? = some d→∀ b,d.F b→v.ownBlock≠some b:=by
     intro j d hji hj b hd hb
     exact Ir hs.Js (i:=i) (j:=j) (by rw[List.getElem?_map,hi];rfl) (by rw[List.getElem?_map,hj];rfl) (Ne.symm hji) rfl b hb hd
   refine⟨hk.os.trans hs.os,hk.tape.trans hs.tape,hk.output.trans hs.output,rfl, ?_, ?_, ?_, ?_⟩
   · intro d hd
     obtain⟨j,hj⟩:=List.getElem?_of_mem hd
     by_cases hij:i=j
     · subst hij;rw[List.getElem?_set_self hlt]at hj;cases hj;exact ho'
     · rw[List.getElem?_set_ne hij]at hj
       have hm:=List.mem_of_getElem? hj
       exact hs.KQ d hm w w' (fun b hb=>hk.block b (by rw[hs.size];exact hs.bnd d hm b hb) (fun e1=>hap j d (Ne.symm hij) hj b hb e1.symm)) (hs.all d hm)
   · intro d hd b hb
     show b<w'.heap.size
     rcases List.mem_or_eq_of_mem_set hd with hd | rfl
     · have:=hs.bnd d hd b hb;omega
     · have:=ho'.lt b hb;exact this.2
   · intro d hd
     rcases List.mem_or_eq_of_mem_set hd with hd | rfl
     · exact hs.KQ d hd
     · exact D9 _ _ _ _ _ _
   · show((A.σ.set i _).map Ch.key).Pairwise Key.apart
     rw[List.map_set,List.pairwise_iff_getElem]
     intro p q hp hq hpq
     simp only[List.length_set,List.length_map]at hp hq
     have key:∀ j (hj:j<A.σ.length),j≠i→Key.apart (Ch.key (MW base e f.size (.slice a' (n+m) cap') (n+m) (xs++news))) (Ch.key A.σ[j]):=by
       intro j hj hji _ b hb hd
       have hjs:A.σ[j]? = some A.σ[j]:=by simp[hj]
       rcases hnew b hb with e1 | e1
       · exact hap j _ hji hjs b hd e1
       · have:=hs.bnd _ (List.mem_of_getElem? hjs) b hd
         rw[←hs.size]at this;omega
     simp only[List.getElem_set,List.getElem_map]
     by_cases h1:i=p
     · subst h1
       rw[if_pos rfl,if_neg (by omega)]
       exact key q hq (by omega)
     · rw[if_neg h1]
       by_cases h2:i=q
       · subst h2;rw[if_pos rfl];exact Key.QH (key p hp (by omega))
       · rw[if_neg h2]
         exact U0 hs.Js (i:=p) (j:=q) (by simp[hp]) (by simp[hq]) (by omega)
def X8(o:Oper):Option (Operand×Operand×TypeId×TypeId):=match o.op with
 | .call c=>match c.callee,c.args.toList,c.argTypes.toList with
  | .builtin .append,[x,y],[t,u]=>some (x,y,t,u)
  | _,_,_=>none
 | _=>none
theorem OU{o:Oper}{x y:Operand}{t u:TypeId}(h:X8 o=some (x,y,t,u)):o.op = .call { callee:= .builtin .append,args:= #[x,y],argTypes:= #[t,u] }:=by
 unfold X8 at h
 split at h
 ·rename_i c hop
  split at h
  ·rename_i x' y' t' u' h1 h2 h3
   simp only[Option.some.injEq,Prod.mk.injEq]at h
   obtain⟨rfl,rfl,rfl,rfl⟩:=h
   obtain⟨c1,c2,c3⟩:=c
   obtain⟨c2⟩:=c2
   obtain⟨c3⟩:=c3
   simp only at h1 h2 h3
   subst h1 h2 h3
   exact hop
  cases h
 cases h
def Rt(P:Program)(N:Nat)(ops:Array Oper)(env:Env)(o:Oper):Option (TypeId×Nat×Nat×Value×Addr×Nat×Nat):=match X8 o,J4 ops env o,GU env o,Jy N o.dst with
 | some (x,y,t,u),some true,true,true=>match Nat.beq t u,P.underlying t,DL env y with
  | true,some (.slice e),.slice (some ad) m cp=>match P.info? e with
   | some f=>match f.zero with
    | some z=>match Nat.beq z.cells.size f.size&&Nat.blt 0 f.size with
     | true=>some (e,f.size,f.bytes,DL env x,ad,m,cp)
     | false=>none
    | none=>none
   | none=>none
  | _,_,_=>none
 | _,_,_,_=>none
theorem ZR{base:Nat}{o:Oper}{e:TypeId}{sz by':Nat}{v:Value}{ad:Addr}{m cp:Nat}(h:Rt P N ops env o=some (e,sz,by',v,ad,m,cp)){i n:Nat}{xs news:List Value}{a:Act}{w:World}(hst:St N env ds A a w)
   (hi:A.σ[i]? = some (MW base e sz v n xs)) (hl:news.length=m*sz) (h1:news.all Value.oneCell'=true) (hnews:∀ j u,news[j]? = some u→w.cell? (ad.add j)=some u) (h63:n+m≤maxLen) (hb:(n+m)*by'≤140737488355328) (hbase:base≤A.n) :
   Region.wanted o (yielded ops a.tmps)=true∧Jy N o.dst=true∧∃ a' cap' w',(execOp a.eval o).run P w = .ok (.value (.slice a' (n+m) cap')) w'∧A.n≤w'.heap.size∧Sat { A with n:=w'.heap.size,σ:=A.σ.set i (MW base e sz (.slice a' (n+m) cap') (n+m) (xs++news)) } w':=by
 unfold Rt at h
 split at h
 · rename_i x y t u hop0 hw hk hd
   have hop:=OU hop0
   split at h
   · rename_i e' ad' m' cp' htu ht hy
     split at h
     · rename_i f' hf
       split at h
       · rename_i z' hz
         split at h
         · rename_i hsz
           simp only[Option.some.injEq,Prod.mk.injEq]at h
           obtain⟨rfl,rfl,rfl,rfl,rfl,rfl,rfl⟩:=h
           have htu':=Nat.eq_of_beq_eq_true htu
           subst htu'
           rw[Bool.and_eq_true]at hsz
           refine⟨Dp hw hst,hd, ?_⟩
           rw[Ej hst hk]
           exact Xp (ρ:=DL env) hop ht hf hz (Nat.eq_of_beq_eq_true hsz.1) (by simpa using hsz.2) hi rfl hy hl (fun u hu=>List.all_eq_true.1 h1 u hu) hst.mem hnews h63 hb hbase
         · cases h
       · cases h
     · cases h
   · cases h
 · cases h
theorem UB{j b:Nat}{cs:Array Value}{t:TypeId}{fr:Nat×Nat}{rw':Bool}{w:World}(hs:Sat A w)(hj:A.σ[j]? = some (.blk b (.cells cs t fr) rw')){news:List Value}(hn:cs.toList=news):∀ k u,news[k]? = some u→w.cell? ((⟨b,0,none⟩:Addr).add k)=some u:=by
 intro k u hu
 subst hn
 have hb:w.heap[b]? = some (.cells cs t fr):=hs.at hj
 have hadd:(⟨b,0,none⟩:Addr).add k=⟨b,k,none⟩:=by rw[Iz rfl];simp
 rw[hadd]
 simp only[World.cell?,hb]
 simpa using hu
theorem l_append(base i j n:Nat)(xs news:List Value)(e:TypeId)(sz by':Nat)(v:Value)(b m cp:Nat)(cs:Array Value)(t:TypeId)(fr:Nat×Nat)(rw':Bool)(d:Option Nat)
   (h:(match l with | o :: _=>(Rt P N ops env o).map (fun x=>(x,o.dst)) | []=>none)=some ((e,sz,by',v,⟨b,0,none⟩,m,cp),d)) (hi:A.σ[i]? = some (MW base e sz v n xs)) (hj:A.σ[j]? = some (.blk b (.cells cs t fr) rw')) (hn:cs.toList=news)
   (hl:Nat.beq news.length (m*sz)=true) (h1:news.all Value.oneCell'=true) (h63:n+m≤maxLen) (hb:(n+m)*by'≤140737488355328) (hbase:base≤A.n)
   (K:∀ a' cap' n',A.n≤n'→Lg P N (Gy env d (.slice a' (n+m) cap')) ds { A with n:=n',σ:=A.σ.set i (MW base e sz (.slice a' (n+m) cap') (n+m) (xs++news)) } ops (l.drop 1) s Q):Lg P N env ds A ops l s Q:=by
 intro a w hst
 cases l with
 | nil=>cases h
 | cons o l =>
   simp only[Option.map_eq_some_iff]at h
   obtain⟨y,hy,h⟩:=h
   simp only[Prod.mk.injEq]at h
   obtain⟨rfl,rfl⟩:=h
   obtain⟨hw,hd,a',cap',w',hr,hsz,hs'⟩:=ZR hy hst hi (Nat.eq_of_beq_eq_true hl) h1 (UB hst.mem hj hn) h63 hb hbase
   refine Gs hw (.inl hr) ?_
   exact K a' cap' _ hsz _ _ (hst.put hs' _ hd _)
end
abbrev Qb(b:Nat):Prop:=b=b
abbrev A8(w:World):Ch:=old (fun _=>False) w
theorem EW{w:World}{z:Nat}(h:z=w.heap.size):Sat ⟨w,z,[A8 w]⟩ w:=by subst h;exact sat_old w
abbrev Old(w:World)(b k:Nat)(v:Value):Prop:=∀ w',Ch.holds (old (fun _=>False) w) w'→w'.cell? ⟨b,k,none⟩=some v
abbrev Fq(w:World)(b k:Nat)(arr:Array Value):Prop:=RowOf (old (fun _=>False) w) b k arr
theorem D6{w:World}{b k:Nat}{l:List Value}(h:∀ i v,l[i]? = some v→w.cell? ⟨b,k+i,none⟩=some v):Fq w b k l.toArray:=fun w' hw i v hv=>Bg (h i v (by simpa using hv)) w' hw
abbrev BT(p:Prop)[Decidable p]:Prop:=Value.bool (decide p) = .bool true
abbrev BF(p:Prop)[Decidable p]:Prop:=Value.bool (decide p) = .bool false
abbrev ET(x y:Int):Prop:=Value.bool (x==y) = .bool true
abbrev EF(x y:Int):Prop:=Value.bool (x==y) = .bool false
abbrev NT(x y:Int):Prop:=Value.bool (x != y) = .bool true
abbrev NF(x y:Int):Prop:=Value.bool (x != y) = .bool false
theorem bt{p:Prop}[Decidable p](h:p:=by omega):BT p:=congrArg Value.bool (decide_eq_true h)
theorem bf{p:Prop}[Decidable p](h:¬ p:=by omega):BF p:=congrArg Value.bool (decide_eq_false h)
theorem et{x y:Int}(h:x=y:=by omega):ET x y:=congrArg Value.bool (beq_iff_eq.2 h)
theorem ef{x y:Int}(h:¬ x=y:=by omega):EF x y:=congrArg Value.bool (beq_eq_false_iff_ne.2 h)
theorem nt{x y:Int}(h:¬ x=y:=by omega):NT x y:=congrArg Value.bool (bne_iff_ne.2 h)
theorem nf{x y:Int}(h:x=y:=by omega):NF x y:=congrArg Value.bool (bne_eq_false_iff_eq.2 h)
abbrev oT:OC:=⟨.auto [],some (.bool true)⟩
abbrev oF:OC:=⟨.auto [],some (.bool false)⟩
abbrev ol(i:Nat)(arr:Array Value):OC:=⟨.row i arr,none⟩
abbrev o0:OC:=⟨.auto [],none⟩
abbrev oa(cs:List LC):OC:=⟨.auto cs,none⟩
abbrev ov(v:Value):OC:=⟨.auto [],some v⟩
abbrev oi(j:Nat):OC:=⟨.idx j,none⟩
theorem UN{a b:Int}(h:a=b)(lo : -9223372036854775808≤b)(hi:b≤9223372036854775807):IntKind.i64.wrap a=b:=by
 subst h;simp only[IntKind.wrap,IntKind.bits,IntKind.signed];simp;omega
abbrev Wr(x y:Int):Prop:=Value.int .i64 (IntKind.i64.wrap x)=Value.int .i64 y
theorem Bq{a b:Int}(h:a=b:=by omega)(lo : -9223372036854775808≤b:=by omega)(hi:b≤9223372036854775807:=by omega):Value.int .i64 (IntKind.i64.wrap a)=Value.int .i64 b:=congrArg (Value.int .i64) (UN h lo hi)
theorem Xv{a b:Int}(h:a=b)(lo:0≤b)(hi:b≤4294967295):IntKind.u32.wrap a=b:=by
 subst h;simp only[IntKind.wrap,IntKind.bits,IntKind.signed];simp;omega
theorem LP{a b:Int}(h:a=b)(lo:0≤b)(hi:b≤255):IntKind.u8.wrap a=b:=by
 subst h;simp only[IntKind.wrap,IntKind.bits,IntKind.signed];simp;omega
theorem RS{a b:Int}(h:a=b)(lo:0≤b)(hi:b≤18446744073709551615):IntKind.u64.wrap a=b:=by
 subst h;simp only[IntKind.wrap,IntKind.bits,IntKind.signed];simp;omega
theorem wr_div{x c z:Int}(hz:x / c=z)(h0:0≤x)(h1:x≤9223372036854775807)(hc:0<c:=by decide):IntKind.i64.wrap (x.tdiv c)=z:=by
 rw[Int.tdiv_eq_ediv_of_nonneg h0]
 have h2:x / c≤x:=Int.ediv_le_self _ h0
 have h3:0≤x / c:=Int.ediv_nonneg h0 (Int.le_of_lt hc)
 exact UN hz (by omega) (by omega)
theorem VQ{x c z:Int}(hz:x % c=z)(h0:0≤x):x.tmod c=z:=by rw[Int.tmod_eq_emod_of_nonneg h0];exact hz
def FV:IntKind→Int→Prop
 | .i64,x => -9223372036854775808≤x∧x≤9223372036854775807
 | .i32,x => -2147483648≤x∧x≤2147483647
 | .i16,x => -32768≤x∧x≤32767
 | .i8,x => -128≤x∧x≤127
 | .u64,x=>0≤x∧x≤18446744073709551615
 | .u32,x=>0≤x∧x≤4294967295
 | .u16,x=>0≤x∧x≤65535
 | .u8,x=>0≤x∧x≤255
def gd{α:Type}[Inhabited α](xs:List α)(k:Nat):α:=xs.getD k default
theorem Di{α:Type}[Inhabited α]{xs:List α}{k:Nat}(h:k<xs.length):gd xs k=xs[k]:=by
 unfold gd;rw[List.getD_eq_getElem?_getD,List.getElem?_eq_getElem h];rfl
structure Sl(α:Type) where
 a:Option Addr
 cap:Nat
 xs:List α
 deriving Inhabited
def Sl.val{α:Type}(s:Sl α):Value:= .slice s.a s.xs.length s.cap
abbrev Any:Nat→Prop:=fun _=>True
abbrev New(n:Nat):Nat→Prop:=fun b=>n≤b
def Ext(F:Nat→Prop)(W W':World):Prop:=∀ (b k:Nat) (v:Value),F b→W.cell? ⟨b,k,none⟩=some v→W'.cell? ⟨b,k,none⟩=some v
theorem Ext.refl(F:Nat→Prop)(W:World):Ext F W W:=fun _ _ _ _ h=>h
theorem Ext.trans{F:Nat→Prop}{a b c:World}(h:Ext F a b)(k:Ext F b c):Ext F a c:=fun _ _ _ hf x=>k _ _ _ hf (h _ _ _ hf x)
theorem cell_lt{W:World}{b k:Nat}{v:Value}(hv:W.cell? ⟨b,k,none⟩=some v):b<W.heap.size:=by
 simp only[World.cell?]at hv
 split at hv
 ·rename_i hb;exact(Array.getElem?_eq_some_iff.1 hb).1
 cases hv
theorem cell_of{W W':World}{b k:Nat}{v:Value}(h:W'.heap[b]? = W.heap[b]?)(hv:W.cell? ⟨b,k,none⟩=some v):W'.cell? ⟨b,k,none⟩=some v:=by
 rw[←hv];simp only[World.cell?];rw[h]
theorem Sat.ext{A:AW}{W w:World}(h:Sat A w)(hi:A.σ[0]? = some (A8 W)):Ext Any W w:=fun b k v _ hv=>Bg hv w (h.at hi)
def mid(n:Nat)(ws:World):Ch:= .inv (fun b=>n≤b∧b<ws.heap.size) (fun w=>∀ b,n≤b→b<ws.heap.size→w.heap[b]? = ws.heap[b]?) false
theorem mid_stable(n:Nat)(ws:World):(mid n ws).stable:=fun w1 w2 h hw b h1 h2=>(h b ⟨h1,h2⟩).trans (hw b h1 h2)
theorem UG{n:Nat}{ws:World}{b k:Nat}{v:Value}(hF:n≤b)(h:ws.cell? ⟨b,k,none⟩=some v):∀ w',(mid n ws).holds w'→w'.cell? ⟨b,k,none⟩=some v:=fun w' hw=>cell_of (hw b hF (cell_lt h)) h
theorem Sat.RJ{A:AW}{n:Nat}{ws w:World}(h:Sat A w)(i:Nat)(hi:A.σ[i]? = some (mid n ws):=by rfl):Ext (New n) ws w:=fun b k v hF hv=>UG hF hv w (h.at hi)
theorem Sat.Tu{A:AW}{w w':World}(h:Sat A w)(hk:AV (fun _=>False) w w'):Sat { A with n:=w'.heap.size,σ:=A.σ++[mid A.n w'] } w' :=
 h.Le hk _ (fun _ _ _=>rfl) (mid_stable _ _) (fun b hb=>hb)
structure BD{α:Type}(cells:α→List Value)(sz:Nat)(F:Nat→Prop)(W:World)(s:Sl α):Prop where
 len:s.xs.length≤140737488351232
 le:s.xs.length≤s.cap
 cells:s.xs≠[]→∃ b off,s.a=some ⟨b,off,none⟩∧F b∧∀ i (h:i<s.xs.length),∀ k v,(cells s.xs[i])[k]? = some v→W.cell? ⟨b,off+EC sz i+k,none⟩=some v
theorem BD.all{α:Type}[Inhabited α]{cells:α→List Value}{sz:Nat}{F:Nat→Prop}{W:World}{s:Sl α}(h:BD cells sz F W s)(hi:0<s.xs.length) :
   ∃ b off,s.a=some ⟨b,off,none⟩∧F b∧∀ i,i<s.xs.length→∀ k v,(cells (gd s.xs i))[k]? = some v→W.cell? ⟨b,off+EC sz i+k,none⟩=some v:=by
 obtain⟨b,off,ha,hF,hc⟩:=h.cells (fun e=>by rw[e]at hi;simp at hi)
 exact⟨b,off,ha,hF,fun i hi k v hv=>hc i hi k v (by rw[←Di hi];exact hv)⟩
def Dc{α:Type}[Inhabited α](cells:α→List Value)(sz:Nat)(ok:(Nat→Prop)→World→α→Prop)(F:Nat→Prop)(W:World)(s:Sl α):Prop:=BD cells sz F W s∧∀ i,i<s.xs.length→ok F W (gd s.xs i)
theorem DY{α:Type}[Inhabited α]{cells:α→List Value}{sz:Nat}{ok:(Nat→Prop)→World→α→Prop}{F F':Nat→Prop}{W W':World}{s:Sl α}(he:Ext F W W')(hF:∀ b,F b→F' b)(h:Dc cells sz ok F W s)(hok:∀ x,ok F W x→ok F' W' x):Dc cells sz ok F' W' s:=by
 refine⟨⟨h.1.len,h.1.le,fun hne => ?_⟩,fun i hi=>hok _ (h.2 i hi)⟩
 obtain⟨b,off,ha,hb,hc⟩:=h.1.cells hne
 exact⟨b,off,ha,hF b hb,fun i hi k v hv=>he _ _ _ hb (hc i hi k v hv)⟩
theorem VE{α:Type}{cells:α→List Value}{sz:Nat}(hsz:∀ x,(cells x).length=sz):∀ (xs:List α) (i:Nat) (h:i<xs.length) (k:Nat) (v:Value),(cells xs[i])[k]? = some v→(xs.flatMap cells)[EC sz i+k]? = some v
 | x :: xs,0,_,k,v,hv=>by
  have hk:k<(cells x).length:=(List.getElem?_eq_some_iff.1 hv).1
  rw[GL,Nat.zero_mul,Nat.zero_add,List.flatMap_cons,List.getElem?_append_left hk];exact hv
 | x :: xs,i+1,h,k,v,hv=>by
  have ih:=VE hsz xs i (by simpa using h) k v (by simpa using hv)
  rw[GL]at ih ⊢
  rw[List.flatMap_cons,List.getElem?_append_right (by rw[hsz,Nat.succ_mul];omega),hsz,show(i+1)*sz+k - sz=i*sz+k from by rw[Nat.succ_mul];omega]
  exact ih
theorem Nq{α:Type}{cells:α→List Value}{sz base:Nat}{e:TypeId}{w:World}{a:Option Addr}{cap:Nat}{xs:List α}(hsz:∀ x,(cells x).length=sz)(h:w.ownsRow base e sz (.slice a xs.length cap) xs.length (xs.flatMap cells))(hl:xs.length≤140737488351232):BD cells sz (New base) w ⟨a,cap,xs⟩:=by
 rcases h.2 with⟨h1,h2⟩ | ⟨g,cap',cur,h1,hb,hg,hnc,hcm,hcs,ht⟩
 ·refine⟨hl,by rw[h2];exact Nat.zero_le _,fun hne=>absurd (List.eq_nil_of_length_eq_zero h2) hne⟩
 cases h1
 refine⟨hl,hnc,fun hne=>⟨g,0,rfl,hb,fun i hi k v hv => ?_⟩⟩
 have hf:=VE hsz xs i hi k v hv
 rw[←ht,List.getElem?_take]at hf
 split at hf
 ·simp only[World.cell?,hg,Nat.zero_add];simpa using hf
 cases hf
def Au{α:Type}(base:Nat)(e:TypeId)(size:Nat)(cells:α→List Value)(v:Value)(xs:List α):Ch:=MW base e size v xs.length (xs.flatMap cells)
theorem V6{α:Type}(base:Nat)(e:TypeId)(size:Nat)(cells:α→List Value)(v:Value)(xs ys:List α):MW base e size v (xs.length+ys.length) (xs.flatMap cells++ys.flatMap cells)=Au base e size cells v (xs++ys):=by
 simp[Au]
section
variable {P:Program}{N:Nat}{env:Env}{ds:List Deferred}{A:AW}{ops:Array Oper}{l:List Oper}{s:List Kt}{Q:Exit→Act→World→Prop}{c:Code}
theorem Q7{α:Type}(base:Nat)(e:TypeId)(size:Nat)(cells:α→List Value)(h:Lg P N env ds { A with σ:=A.σ++[Au base e size cells (.slice none 0 0) []] } ops l s Q):Lg P N env ds A ops l s Q:=l_row base e size h
theorem FW{α:Type}(base:Nat)(e:TypeId)(size:Nat)(cells:α→List Value)(h:G P N env ds { A with σ:=A.σ++[Au base e size cells (.slice none 0 0) []] } c s Q):G P N env ds A c s Q:=g_row base e size h
theorem E8{α:Type}(base i j:Nat)(xs ys:List α)(cells:α→List Value)(e:TypeId)(sz by':Nat)(v:Value)(b m cp:Nat)(cs:Array Value)(t:TypeId)(fr:Nat×Nat)(rw':Bool)(d:Option Nat)
   (h63:xs.length+ys.length≤1000000000000) (hbase:base≤A.n)
   (K:∀ a' cap' n',A.n≤n'→Lg P N (Gy env d (.slice a' (xs++ys).length cap')) ds { A with n:=n',σ:=A.σ.set i (Au base e sz cells (.slice a' (xs++ys).length cap') (xs++ys)) } ops (l.drop 1) s Q)
   (h:(match l with | o :: _=>(Rt P N ops env o).map (fun x=>(x,o.dst)) | []=>none)=some ((e,sz,by',v,⟨b,0,none⟩,m,cp),d):=by as_aux_lemma=>kernel_rfl) (hi:A.σ[i]? = some (Au base e sz cells v xs):=by rfl) (hj:A.σ[j]? = some (.blk b (.cells cs t fr) rw'):=by rfl) (hn:cs.toList=ys.flatMap cells:=by rfl) (hm:ys.length=m:=by rfl)
   (hl:Nat.beq (ys.flatMap cells).length (ys.length*sz)=true:=by as_aux_lemma=>kernel_rfl) (h1:(ys.flatMap cells).all Value.oneCell'=true:=by as_aux_lemma=>kernel_rfl) (hb:Nat.ble by' 140=true:=by as_aux_lemma=>kernel_rfl):Lg P N env ds A ops l s Q:=by
 have hb':=Nat.le_of_ble_eq_true hb
 subst hm
 refine l_append base i j xs.length (xs.flatMap cells) (ys.flatMap cells) e sz by' v b ys.length cp cs t fr rw' d h hi hj hn hl h1 (by unfold maxLen;omega) (Nat.le_trans (Nat.mul_le_mul h63 hb') (by decide)) hbase (fun a' cap' n' hn' => ?_)
 have:=K a' cap' n' hn'
 rw[←V6,List.length_append]at this
 exact this
theorem J5(env':Env)(h:env=env')(K:G P N env' ds A c s Q):G P N env ds A c s Q:=by subst h;exact K
theorem Ju{x:Exit}(keep:List Nat)(env':Env)(h:JZ keep env=env')(K:E P N env' ds A x s Q):E P N env ds A x s Q:=fun a w hs=>K a w (hs.sub (fun t v ht=>Jg (by rw[h];exact ht)))
theorem w_one{σC:List Ch}{late fuel:Nat}{listed:List Bool}(i:Nat)(hr:Region.ready .any ops listed.toArray=[i])(hf:Nat.ble 1 fuel=true)(h:WO P N env ds A ops σC late (fuel - 1) listed s Q i):Wg P N env ds A ops σC late fuel listed s Q :=
 w_all [i] hr rfl hf (List.forall_mem_cons.2 ⟨h,fun _ h=>absurd h List.not_mem_nil⟩)
theorem BJ{σC:List Ch}{late fuel:Nat}{listed:List Bool}(i:Nat)(h:WO P N env ds A ops σC late (fuel - 1) listed s Q i)(hr:Region.ready .any ops listed.toArray=[i]:=by as_aux_lemma=>kernel_rfl)(hf:Nat.ble 1 fuel=true:=by rfl):Wg P N env ds A ops σC late fuel listed s Q:=w_one i hr hf h
theorem Ud{α:Type}{σC:List Ch}{late fuel:Nat}{listed:List Bool}{p:Nat}(base i j:Nat)(xs ys:List α)(cells:α→List Value)(e:TypeId)(sz by':Nat)(v:Value)(b m cp:Nat)(cs:Array Value)(t:TypeId)(fr:Nat×Nat)(rw':Bool)(d:Option Nat)(cix:List Nat)
   (h63:xs.length+ys.length≤1000000000000) (hbase:base≤A.n)
   (hC:Nat.beq p late=true∨(picks cix A.σ=some σC∧cix.contains i=false))
   (K:∀ a' cap' n',A.n≤n'→Wg P N (Gy env d (.slice a' (xs++ys).length cap')) ds { A with n:=n',σ:=A.σ.set i (Au base e sz cells (.slice a' (xs++ys).length cap') (xs++ys)) } ops σC late fuel (listed.set p true) s Q)
   (hp:Nat.blt p listed.length=true:=by rfl)
   (h:(match ops[p]? with | some o=>(Rt P N ops env o).map (fun x=>(x,o.dst)) | none=>none)=some ((e,sz,by',v,⟨b,0,none⟩,m,cp),d):=by as_aux_lemma=>kernel_rfl) (hi:A.σ[i]? = some (Au base e sz cells v xs):=by rfl) (hj:A.σ[j]? = some (.blk b (.cells cs t fr) rw'):=by rfl) (hn:cs.toList=ys.flatMap cells:=by rfl) (hm:ys.length=m:=by rfl)
   (hl:Nat.beq (ys.flatMap cells).length (ys.length*sz)=true:=by as_aux_lemma=>kernel_rfl) (h1:(ys.flatMap cells).all Value.oneCell'=true:=by as_aux_lemma=>kernel_rfl) (hb:Nat.ble by' 140=true:=by as_aux_lemma=>kernel_rfl):WO P N env ds A ops σC late fuel listed s Q p:=by
 intro a w hst hcl
 have hlt:p<listed.length:=by simpa using hp
 have hb':=Nat.le_of_ble_eq_true hb
 subst hm
 split at h
 · rename_i o ho
   simp only[Option.map_eq_some_iff]at h
   obtain⟨y,hy,h⟩:=h
   simp only[Prod.mk.injEq]at h
   obtain⟨rfl,rfl⟩:=h
   obtain⟨hw,hd,a',cap',w',hr,hsz,hs'⟩:=ZR (xs:=xs.flatMap cells) (news:=ys.flatMap cells) hy hst hi (Nat.eq_of_beq_eq_true hl) h1 (UB hst.mem hj hn) (by unfold maxLen;omega) (Nat.le_trans (Nat.mul_le_mul h63 hb') (by decide)) hbase
   rw[←List.length_append]at hr
   unfold wpOp
   simp only[ho]
   rw[if_pos hw]
   left
   unfold Oper.wp
   rw[hr]
   rw[V6,←List.length_append]at hs'
   have hcs:(listed.set p true).toArray.getD late false=false→Cs σC w':=by
     intro hl
     rcases hC with hC | ⟨hC,hci⟩
     · have:=Nat.eq_of_beq_eq_true hC
       subst this
       simp[hlt]at hl
     · intro c hc
       obtain⟨q,hq,hqs⟩:=Jv hC c hc
       have hqi:i≠q:=fun e1=>by subst e1;simp[hq]at hci
       refine hs'.all c (List.mem_of_getElem? (i:=q) ?_)
       show(A.σ.set i _)[q]? = some c
       rw[List.getElem?_set_ne hqi];exact hqs
   exact⟨hcs,K a' cap' _ hsz _ _ (hst.put hs' _ hd _) hcl hcs⟩
 · cases h
theorem Dx{σC:List Ch}{late fuel:Nat}{listed:List Bool}(keep:List Nat)(env':Env)(K:Wg P N env' ds A ops σC late fuel listed s Q)(h:JZ keep env=env':=by as_aux_lemma=>kernel_rfl):Wg P N env ds A ops σC late fuel listed s Q:=fun a w hs=>K a w (hs.sub (fun t v ht=>Jg (by rw[h];exact ht)))
end
abbrev EM : Type := Nat × Value
theorem Ac : True := trivial
abbrev Ae (n : Nat) : Value := .int .i64 (n : Int)
abbrev DF {α : Type} (k b o : Nat) (s : Sl α) : OC := ⟨.auto [.at k], some (.slice (some ⟨b, o, none⟩) s.xs.length s.cap)⟩
abbrev Df {α : Type} (b o : Nat) (s : Sl α) : Prop := Value.slice s.a s.xs.length s.cap = Value.slice (some ⟨b, o, none⟩) s.xs.length s.cap
theorem CZ {a b : Option Addr} (h : a = b) {n c : Nat} : Value.slice a n c = Value.slice b n c := congrArg (fun a => Value.slice a n c) h
abbrev BG : Prop := (none : Option Nat) = none
abbrev BK (k : Nat) : Prop := (k : Int) = (k : Int)
abbrev Dh (a b : Nat) : List Bool := List.replicate a true ++ List.replicate b false
end Go.Proofs.Ytjmcjekhgpakoaa.Eng
namespace Go.Proofs.Ytjmcjekhgpakoaa.Ly
open Go Go.Proofs.Ytjmcjekhgpakoaa.Eng Go.Proofs.Ytjmcjekhgpakoaa.Mem
set_option linter.unusedSimpArgs false
set_option linter.unusedVariables false
set_option maxRecDepth 100000
structure Af where
 Partition:Int
 Cc:Int
 Dy:Int
 deriving Inhabited,DecidableEq
def Af.cells(x:Af):List Value:=[.int .i64 x.Partition,.int .i64 x.Cc,.int .i64 x.Dy]
abbrev Af.arr(x:Af):Array Value:= #[.int .i64 x.Partition,.int .i64 x.Cc,.int .i64 x.Dy]
structure Af.ok(F:Nat→Prop)(W:World)(x:Af):Prop where
 Partition:FV .i64 x.Partition
 Cc:FV .i64 x.Cc
 Dy:FV .i64 x.Dy
theorem Af.ok.ext{F F':Nat→Prop}{W W':World}(he:Ext F W W')(hF:∀ b,F b→F' b){x:Af}(h:Af.ok F W x):Af.ok F' W' x:=⟨h.Partition,h.Cc,h.Dy⟩
structure Ak where
 Ed:Int
 Dz:Int
 Frame:Int
 CX:Int
 deriving Inhabited,DecidableEq
def Ak.cells(x:Ak):List Value:=[.int .i64 x.Ed,.int .i64 x.Dz,.int .i64 x.Frame,.int .i64 x.CX]
abbrev Ak.arr(x:Ak):Array Value:= #[.int .i64 x.Ed,.int .i64 x.Dz,.int .i64 x.Frame,.int .i64 x.CX]
structure Ak.ok(F:Nat→Prop)(W:World)(x:Ak):Prop where
 Ed:FV .i64 x.Ed
 Dz:FV .i64 x.Dz
 Frame:FV .i64 x.Frame
 CX:FV .i64 x.CX
theorem Ak.ok.ext{F F':Nat→Prop}{W W':World}(he:Ext F W W')(hF:∀ b,F b→F' b){x:Ak}(h:Ak.ok F W x):Ak.ok F' W' x:=⟨h.Ed,h.Dz,h.Frame,h.CX⟩
structure Ap where
 Channel:Int
 Source:Bool
 deriving Inhabited,DecidableEq
def Ap.cells(x:Ap):List Value:=[.int .i64 x.Channel,.bool x.Source]
abbrev Ap.arr(x:Ap):Array Value:= #[.int .i64 x.Channel,.bool x.Source]
structure Ap.ok(F:Nat→Prop)(W:World)(x:Ap):Prop where
 Channel:FV .i64 x.Channel
 Source:True
theorem Ap.ok.ext{F F':Nat→Prop}{W W':World}(he:Ext F W W')(hF:∀ b,F b→F' b){x:Ap}(h:Ap.ok F W x):Ap.ok F' W' x:=⟨h.Channel,Ac⟩
structure Ag where
 Name:ByteArray
 Entry:Int
 AP:Int
 AA:Int
 AQ:Int
 AL:Int
 Ad:Sl Ak
 Ai:Sl Ap
 deriving Inhabited
def Ag.cells(x:Ag):List Value:=[.string x.Name,.int .i64 x.Entry,.int .i64 x.AP,.int .i64 x.AA,.int .i64 x.AQ,.int .i64 x.AL,x.Ad.val,x.Ai.val]
abbrev Ag.arr(x:Ag):Array Value:= #[.string x.Name,.int .i64 x.Entry,.int .i64 x.AP,.int .i64 x.AA,.int .i64 x.AQ,.int .i64 x.AL,.slice x.Ad.a x.Ad.xs.length x.Ad.cap,.slice x.Ai.a x.Ai.xs.length x.Ai.cap]
structure Ag.ok(F:Nat→Prop)(W:World)(x:Ag):Prop where
 Name:x.Name.size≤140737488351232
 Entry:FV .i64 x.Entry
 AP:FV .i64 x.AP
 AA:FV .i64 x.AA
 AQ:FV .i64 x.AQ
 AL:FV .i64 x.AL
 Ad:Dc Ak.cells 4 Ak.ok F W x.Ad
 Ai:Dc Ap.cells 2 Ap.ok F W x.Ai
theorem Ag.ok.ext{F F':Nat→Prop}{W W':World}(he:Ext F W W')(hF:∀ b,F b→F' b){x:Ag}(h:Ag.ok F W x):Ag.ok F' W' x:=⟨h.Name,h.Entry,h.AP,h.AA,h.AQ,h.AL,DY he hF (h.Ad) (fun _ h=>Ak.ok.ext he hF h),DY he hF (h.Ai) (fun _ h=>Ap.ok.ext he hF h)⟩
structure Ar where
 Kind:Int
 Words:Int
 Ei:Int
 deriving Inhabited,DecidableEq
def Ar.cells(x:Ar):List Value:=[.int .i64 x.Kind,.int .i64 x.Words,.int .i64 x.Ei]
abbrev Ar.arr(x:Ar):Array Value:= #[.int .i64 x.Kind,.int .i64 x.Words,.int .i64 x.Ei]
structure Ar.ok(F:Nat→Prop)(W:World)(x:Ar):Prop where
 Kind:FV .i64 x.Kind
 Words:FV .i64 x.Words
 Ei:FV .i64 x.Ei
theorem Ar.ok.ext{F F':Nat→Prop}{W W':World}(he:Ext F W W')(hF:∀ b,F b→F' b){x:Ar}(h:Ar.ok F W x):Ar.ok F' W' x:=⟨h.Kind,h.Words,h.Ei⟩
structure Am where
 Frames:Int
 AX:Int
 Kernel:Int
 Room:Int
 Aj:Sl (Sl Af)
 Aa:Sl Ag
 Ah:Sl Ar
 deriving Inhabited
def Am.cells(x:Am):List Value:=[.int .i64 x.Frames,.int .i64 x.AX,.int .i64 x.Kernel,.int .i64 x.Room,x.Aj.val,x.Aa.val,x.Ah.val]
abbrev Am.arr(x:Am):Array Value:= #[.int .i64 x.Frames,.int .i64 x.AX,.int .i64 x.Kernel,.int .i64 x.Room,.slice x.Aj.a x.Aj.xs.length x.Aj.cap,.slice x.Aa.a x.Aa.xs.length x.Aa.cap,.slice x.Ah.a x.Ah.xs.length x.Ah.cap]
structure Am.ok(F:Nat→Prop)(W:World)(x:Am):Prop where
 Frames:FV .i64 x.Frames
 AX:FV .i64 x.AX
 Kernel:FV .i64 x.Kernel
 Room:FV .i64 x.Room
 Aj:Dc (fun x:Sl Af=>[Sl.val x]) 1 (fun F W x=>Dc Af.cells 3 Af.ok F W x) F W x.Aj
 Aa:Dc Ag.cells 8 Ag.ok F W x.Aa
 Ah:Dc Ar.cells 3 Ar.ok F W x.Ah
theorem Am.ok.ext{F F':Nat→Prop}{W W':World}(he:Ext F W W')(hF:∀ b,F b→F' b){x:Am}(h:Am.ok F W x):Am.ok F' W' x:=⟨h.Frames,h.AX,h.Kernel,h.Room,DY he hF (h.Aj) (fun _ h=>DY he hF h (fun _ h=>Af.ok.ext he hF h)),DY he hF (h.Aa) (fun _ h=>Ag.ok.ext he hF h),DY he hF (h.Ah) (fun _ h=>Ar.ok.ext he hF h)⟩
end Go.Proofs.Ytjmcjekhgpakoaa.Ly
namespace Go.Proofs.Ytjmcjekhgpakoaa.Eng
open Go Go.Proofs.Ytjmcjekhgpakoaa.Mem
set_option linter.unusedSimpArgs false
set_option linter.unusedVariables false
theorem FU{α:Type}[Inhabited α]{base:Nat}{e:TypeId}{sz:Nat}{cells:α→List Value}{g n cap:Nat}{xs:List α}{j k:Nat}{v:Value}(hsz:∀ x,(cells x).length=sz)(hj:j<xs.length)(hv:(cells (gd xs j))[k]? = some v) :
   ∀ w',Ch.holds (Au base e sz cells (.slice (some ⟨g,0,none⟩) n cap) xs) w'→w'.cell? ⟨g,0+EC sz j+k,none⟩=some v:=by
 intro w' hw
 have hw':w'.ownsRow base e sz (.slice (some ⟨g,0,none⟩) n cap) xs.length (xs.flatMap cells):=hw
 rcases hw'.2 with⟨h1, -⟩ | ⟨g',cap',cur,h1,hb,hg,hnc,hcm,hcs,ht⟩
 · cases h1
 · cases h1
   have hf:=VE hsz xs j hj k v (by rw[←Di hj];exact hv)
   rw[←ht,List.getElem?_take]at hf
   split at hf
   · simp only[World.cell?,hg,Nat.zero_add];simpa using hf
   · cases hf
theorem flat_set{α:Type}{cells:α→List Value}{sz:Nat}(hsz:∀ x,(cells x).length=sz):∀ (xs:List α) (j:Nat) (hj:j<xs.length) (k:Nat) (hk:k<sz) (v:Value) (y:α),cells y=(cells xs[j]).set k v→(xs.set j y).flatMap cells=(xs.flatMap cells).set (EC sz j+k) v
 | x :: xs,0,_,k,hk,v,y,hy=>by
  rw[GL,Nat.zero_mul,Nat.zero_add]
  simp only[List.set_cons_zero,List.flatMap_cons]
  rw[List.set_append_left _ _ (by rw[hsz];exact hk),hy];rfl
 | x :: xs,j+1,hj,k,hk,v,y,hy=>by
  have ih:=flat_set hsz xs j (by simpa using hj) k hk v y (by simpa using hy)
  rw[GL]at ih ⊢
  simp only[List.set_cons_succ,List.flatMap_cons]
  rw[List.set_append_right _ _ (by rw[hsz,Nat.succ_mul];omega),hsz,show(j+1)*sz+k - sz=j*sz+k from by rw[Nat.succ_mul];omega,ih]
theorem Sat.rowset{α:Type}[Inhabited α]{A:AW}{w:World}(h:Sat A w){i base:Nat}{e:TypeId}{sz:Nat}{cells:α→List Value}{g n cap:Nat}{xs:List α}(hi:A.σ[i]? = some (Au base e sz cells (.slice (some ⟨g,0,none⟩) n cap) xs))
   (hsz:∀ x,(cells x).length=sz) {j k:Nat} (hj:j<xs.length) (hk:k<sz) {v:Value} {y:α} (hy:cells y=(cells (gd xs j)).set k v) :
   w.cell? ⟨g,0+EC sz j+k,none⟩≠none∧w.frozen? ⟨g,0+EC sz j+k,none⟩=false∧Sat { A with σ:=A.σ.set i (Au base e sz cells (.slice (some ⟨g,0,none⟩) n cap) (xs.set j y)) } (w.setCell ⟨g,0+EC sz j+k,none⟩ v):=by
 have hown:w.ownsRow base e sz (.slice (some ⟨g,0,none⟩) n cap) xs.length (xs.flatMap cells):=h.at hi
 have hcell:=FU (base:=base) (e:=e) (g:=g) (n:=n) (cap:=cap) hsz hj (k:=k) (v:=(cells (gd xs j))[k]'(by rw[hsz];exact hk)) (by simp) w (h.at hi)
 rcases hown.2 with⟨h1, -⟩ | ⟨g',cap',cur,h1,hb,hg,hnc,hcm,hcs,ht⟩
 · cases h1
 · cases h1
   refine⟨by rw[hcell];simp,by simp[World.frozen?,hg], ?_⟩
   refine h.put (w':=w.setCell ⟨g,0+EC sz j+k,none⟩ v) hi rfl (c':=Au base e sz cells (.slice (some ⟨g,0,none⟩) xs.length cap) (xs.set j y)) rfl (D9 _ _ _ _ _ _) rfl rfl rfl (by simp[World.setCell]) (fun q hq=>Q8 w _ v q (fun e1=>hq (by simp[Au,MW,Ch.F,Value.ownBlock,e1]))) ?_
   show(w.setCell ⟨g,0+EC sz j+k,none⟩ v).ownsRow base e sz (.slice (some ⟨g,0,none⟩) xs.length cap) (xs.set j y).length ((xs.set j y).flatMap cells)
   have hfs:=flat_set hsz xs j hj k hk v y (by rw[←Di hj];exact hy)
   have hlen:=hown.1
   refine⟨by rw[hfs,List.length_set,List.length_set];exact hlen,.inr ⟨g,cap,cur.setIfInBounds (0+EC sz j+k) v,by rw[List.length_set],hb,Pi w ⟨g,0+EC sz j+k,none⟩ v cur e _ rfl hg,by rw[List.length_set];exact hnc,hcm,by simp[hcs], ?_⟩⟩
   rw[List.length_set,hfs,←ht]
   simp only[Nat.zero_add,Array.toList_setIfInBounds]
   have hlt:EC sz j+k<xs.length*sz:=by
     rw[GL]
     have:=Nat.mul_le_mul_right sz hj
     rw[Nat.succ_mul]at this;omega
   rw[List.take_set]
section
variable {P:Program}{N:Nat}{env:Env}{ds:List Deferred}{A:AW}{ops:Array Oper}{l:List Oper}{s:List Kt}{Q:Exit→Act→World→Prop}{c:Code}
theorem row_where{α:Type}{base:Nat}{e:TypeId}{sz:Nat}{cells:α→List Value}{a:Option Addr}{n cap i:Nat}{xs:List α}{w:World}(hs:Sat A w)(hi:A.σ[i]? = some (Au base e sz cells (.slice a n cap) xs))(hp:0<xs.length):∃ g,a=some ⟨g,0,none⟩∧base≤g:=by
 have hown:w.ownsRow base e sz (.slice a n cap) xs.length (xs.flatMap cells):=hs.at hi
 rcases hown.2 with⟨h1,h2⟩ | ⟨g,cap',cur,h1,hb, -⟩
 ·omega
 cases h1;exact⟨g,rfl,hb⟩
theorem IQ{α:Type}{base:Nat}{e:TypeId}{sz:Nat}{cells:α→List Value}{a:Option Addr}{n cap:Nat}{xs:List α}(i:Nat)(hp:0<xs.length)(K:∀ g,a=some ⟨g,0,none⟩→base≤g→G P N env ds A c s Q)(hi:A.σ[i]? = some (Au base e sz cells (.slice a n cap) xs):=by rfl):G P N env ds A c s Q:=fun a w hs=>by
 obtain⟨g,hg,hb⟩:=row_where hs.mem hi hp
 exact K g hg hb a w hs
def stoA(P:Program)(N:Nat)(ops:Array Oper)(env:Env)(o:Oper):Option (Nat×Nat×Value):=match o.op,J4 ops env o,GU env o,Jy N o.dst with
 | .store t a x,some true,true,true=>match DL env a,scalar (DL env x),P.info? t with
  | .pointer (some ⟨b,k,none⟩),true,some f=>match Nat.beq f.size 1 with
   | true=>some (b,k,DL env x)
   | false=>none
  | _,_,_=>none
 | _,_,_,_=>none
theorem cells_scalar{v:Value}(h:scalar v=true):v.cells = #[v]:=by cases v <;> first | rfl | cases h
theorem stoA_run{o:Oper}{b k:Nat}{v:Value}(h:stoA P N ops env o=some (b,k,v)){a:Act}{w:World}(hst:St N env ds A a w)(hc:w.cell? ⟨b,k,none⟩≠none)(hf:w.frozen? ⟨b,k,none⟩=false) :
   Region.wanted o (yielded ops a.tmps)=true∧Jy N o.dst=true∧(execOp a.eval o).run P w = .ok .skip (w.setCell ⟨b,k,none⟩ v):=by
 unfold stoA at h
 split at h
 · rename_i t x y hop hw hk hd
   split at h
   · rename_i b' k' f hx hsc hf'
     split at h
     · rename_i hsz
       simp only[Option.some.injEq,Prod.mk.injEq]at h
       obtain⟨rfl,rfl,rfl⟩:=h
       refine⟨Dp hw hst,hd, ?_⟩
       rw[Ej hst hk]
       obtain⟨x0,hx0⟩:=Option.ne_none_iff_exists'.1 hc
       have hsz':=Nat.eq_of_beq_eq_true hsz
       have hstore:=run_store (P:=P) (m:= .plain) (k:=(Sem.pure ():Sem Unit)) hsc hx0 hf
       unfold execOp
       simp only[hop,hx]
       simp[Instr.storeAt,Instr.sureAddr,storeVar,cells_scalar hsc,sizeOf,typeInfo,program,Sem.run,hf',hsz',storeCells,Iz,store,hstore]
     · cases h
   · cases h
 · cases h
theorem WS{α:Type}[Inhabited α](i j k:Nat)(xs:List α)(y:α)(cells:α→List Value)(base:Nat)(e:TypeId)(sz g n cap:Nat)(v:Value)(d:Option Nat)
   (hj:j<xs.length) (hy:cells y=(cells (gd xs j)).set k v) (K:Lg P N (Gy env d undef) ds { A with σ:=A.σ.set i (Au base e sz cells (.slice (some ⟨g,0,none⟩) n cap) (xs.set j y)) } ops (l.drop 1) s Q)
   (h:(match l with | o :: _=>(stoA P N ops env o).map (fun x=>(x,o.dst)) | []=>none)=some ((g,0+EC sz j+k,v),d):=by as_aux_lemma=>kernel_rfl) (hi:A.σ[i]? = some (Au base e sz cells (.slice (some ⟨g,0,none⟩) n cap) xs):=by rfl) (hsz:∀ x,(cells x).length=sz:=by intro _;rfl) (hk:k<sz:=by decide):Lg P N env ds A ops l s Q:=by
 intro a w hst
 cases l with
 | nil=>cases h
 | cons o l =>
   simp only[Option.map_eq_some_iff]at h
   obtain⟨q,hq,h⟩:=h
   simp only[Prod.mk.injEq]at h
   obtain⟨rfl,rfl⟩:=h
   obtain⟨h1,h2,hs'⟩:=hst.mem.rowset hi hsz hj hk hy
   obtain⟨hw,hd,hr⟩:=stoA_run hq hst h1 h2
   refine Gs hw (.inr ⟨hr,rfl⟩) ?_
   exact K _ _ (hst.put hs' _ hd _)
theorem w_join{σC:List Ch}{late fuel:Nat}{listed:List Bool}{X:Type}(J:X→Env×AW)(tree:(∀ x,E P N (J x).1 ds (J x).2 .normal s Q)→Wg P N env ds A ops σC late fuel listed s Q)(K:∀ x,E P N (J x).1 ds (J x).2 .normal s Q):Wg P N env ds A ops σC late fuel listed s Q:=tree K
end
theorem Sat.merge{A:AW}{w:World}(h:Sat A w)(i j:Nat)(is:List Nat)(c ci cj:Ch){kept:List Ch}(hi:A.σ[i]? = some ci)(hj:A.σ[j]? = some cj)(hri:ci.rw=true)(hrj:cj.rw=true)(hn:nodupB is=true)(hni:is.contains i=false)(hnj:is.contains j=false)(hp:picks is A.σ=some kept)
   (hF:∀ b,c.F b→ci.F b∨cj.F b) (hc:c.holds w) (hst:c.stable):Sat { A with σ:=kept++[c] } w:=by
 have hap:∀ d∈kept,∀ b,d.F b→¬ c.F b:=by
   intro d hd b hdb hcb
   obtain⟨q,hq,hqs⟩:=Jv hp d hd
   rcases hF b hcb with h1 | h1
   · exact Ir h.Js (i:=i) (j:=q) (by rw[List.getElem?_map,hi];rfl) (by rw[List.getElem?_map,hqs];rfl) (fun e=>by subst e;simp[hq]at hni) hri b h1 hdb
   · exact Ir h.Js (i:=j) (j:=q) (by rw[List.getElem?_map,hj];rfl) (by rw[List.getElem?_map,hqs];rfl) (fun e=>by subst e;simp[hq]at hnj) hrj b h1 hdb
 have hbd:∀ b,c.F b→b<A.n:=fun b hb=>(hF b hb).elim (fun x=>h.bnd _ (List.mem_of_getElem? hi) b x) (fun x=>h.bnd _ (List.mem_of_getElem? hj) b x)
 have:=h.exch is hn hp (AV.refl (fun _=>False) w) (fun _ _ _ _ x=>x) [c] (by
   intro d hd;simp only[List.mem_singleton]at hd;subst hd
   exact⟨hc,hst,fun b hb=>by rw[h.size];exact hbd b hb⟩) (by simp) (by
   intro d hd d' hd' _ b hb
   simp only[List.mem_singleton]at hd';subst hd'
   exact hap d hd b hb)
 rw[h.size]at this
 exact this
def Aq{α:Type}(base:Nat)(e:TypeId)(sz:Nat)(cells:α→List Value)(hs:List (Sl α)):Ch :=
 .inv (fun b=>∃ s∈hs,s.val.ownBlock=some b) (fun w=>(∀ s∈hs,w.ownsRow base e sz s.val s.xs.length (s.xs.flatMap cells))∧hs.Pairwise (fun s t=>∀ b,s.val.ownBlock=some b→t.val.ownBlock≠some b)) true
theorem SL{w w':World}{base:Nat}{e:TypeId}{sz n:Nat}{v:Value}{xs:List Value}(h:∀ b,v.ownBlock=some b→w'.heap[b]? = w.heap[b]?)(hw:w.ownsRow base e sz v n xs):w'.ownsRow base e sz v n xs:=D9 base e sz v n xs w w' h hw
theorem QD{α:Type}(base:Nat)(e:TypeId)(sz:Nat)(cells:α→List Value)(hs:List (Sl α)):(Aq base e sz cells hs).stable :=
 fun w w' h hw=>⟨fun s hs'=>SL (fun b hb=>h b ⟨s,hs',hb⟩) (hw.1 s hs'),hw.2⟩
theorem Sat.fam{α:Type}{A:AW}{w:World}(h:Sat A w)(i j:Nat)(is:List Nat){base:Nat}{e:TypeId}{sz:Nat}{cells:α→List Value}{hs:List (Sl α)}{a:Option Addr}{cap:Nat}{xs:List α}{kept:List Ch}(hi:A.σ[i]? = some (Aq base e sz cells hs))(hj:A.σ[j]? = some (Au base e sz cells (.slice a xs.length cap) xs))(hij:i≠j)
   (hn:nodupB is=true) (hni:is.contains i=false) (hnj:is.contains j=false) (hp:picks is A.σ=some kept):Sat { A with σ:=kept++[Aq base e sz cells (hs++[⟨a,cap,xs⟩])] } w:=by
 have h1:(∀ s∈hs,w.ownsRow base e sz s.val s.xs.length (s.xs.flatMap cells))∧hs.Pairwise (fun s t=>∀ b,s.val.ownBlock=some b→t.val.ownBlock≠some b):=h.at hi
 have h2:w.ownsRow base e sz (.slice a xs.length cap) xs.length (xs.flatMap cells):=h.at hj
 refine h.merge i j is _ _ _ hi hj rfl rfl hn hni hnj hp ?_ ⟨?_, ?_⟩ (QD _ _ _ _ _)
 · rintro b ⟨s,hs',hb⟩
   rcases List.mem_append.1 hs' with hm | hm
   · exact .inl ⟨s,hm,hb⟩
   · simp only[List.mem_singleton]at hm;subst hm;exact .inr hb
 · intro s hs'
   rcases List.mem_append.1 hs' with hm | hm
   · exact h1.1 s hm
   · simp only[List.mem_singleton]at hm;subst hm;exact h2
 · rw[List.pairwise_append]
   refine⟨h1.2,by simp, ?_⟩
   intro s hm t ht b hb hb'
   simp only[List.mem_singleton]at ht;subst ht
   exact Ir h.Js (i:=i) (j:=j) (by rw[List.getElem?_map,hi];rfl) (by rw[List.getElem?_map,hj];rfl) hij rfl b (show(Aq base e sz cells hs).F b from⟨s,hm,hb⟩) hb'
theorem Sat.fam0{α:Type}{A:AW}{w:World}(h:Sat A w)(base:Nat)(e:TypeId)(sz:Nat)(cells:α→List Value):Sat { A with σ:=A.σ++[Aq base e sz cells []] } w :=
 h.more (Aq base e sz cells []) (show(∀ s∈([]:List (Sl α)),w.ownsRow base e sz s.val s.xs.length (s.xs.flatMap cells))∧([]:List (Sl α)).Pairwise (fun s t=>∀ b,s.val.ownBlock=some b→t.val.ownBlock≠some b)from⟨fun s hm=>absurd hm List.not_mem_nil,List.Pairwise.nil⟩) (QD _ _ _ _ _) (fun b hb=>by obtain⟨s,hm, -⟩:=hb;cases hm)
section
variable {P:Program}{N:Nat}{env:Env}{ds:List Deferred}{A:AW}{ops:Array Oper}{l:List Oper}{s:List Kt}{Q:Exit→Act→World→Prop}{c:Code}
theorem JU{α:Type}(base:Nat)(e:TypeId)(sz:Nat)(cells:α→List Value)(h:G P N env ds { A with σ:=A.σ++[Aq base e sz cells []] } c s Q):G P N env ds A c s Q:=fun a w hs=>h a w ⟨hs.sz,hs.df,hs.kn,hs.mem.fam0 base e sz cells⟩
theorem LK{α:Type}{x:Exit}(i j:Nat)(is:List Nat){base:Nat}{e:TypeId}{sz:Nat}{cells:α→List Value}{hs:List (Sl α)}{a:Option Addr}{cap:Nat}{xs:List α}(kept:List Ch)
 (K:E P N env ds { A with σ:=kept++[Aq base e sz cells (hs++[⟨a,cap,xs⟩])] } x s Q) (hi:A.σ[i]? = some (Aq base e sz cells hs):=by rfl) (hj:A.σ[j]? = some (Au base e sz cells (.slice a xs.length cap) xs):=by rfl) (hij:i≠j:=by decide)
 (hn:nodupB is=true:=by rfl) (hni:is.contains i=false:=by rfl) (hnj:is.contains j=false:=by rfl) (hp:picks is A.σ=some kept:=by rfl):E P N env ds A x s Q:=fun a' w hst=>K a' w ⟨hst.sz,hst.df,hst.kn,hst.mem.fam i j is hi hj hij hn hni hnj hp⟩
end
theorem YV{z:Array Value}(hz:0<z.size):∀ (n:Nat),(madeCells z (n*z.size)).toList=(List.replicate n z.toList).flatten
 | 0=>by simp[madeCells]
 | n+1=>by
  have ih:=YV hz n
  rw[Nat.succ_mul]
  simp only[madeCells,Array.toList_map,Array.toList_range]at ih ⊢
  rw[List.range_add,List.map_append,ih,List.replicate_succ',List.flatten_append]
  congr 1
  rw[List.map_map]
  apply List.ext_getElem (by simp)
  intro i h1 h2
  have h1':i<z.size:=by simpa using h1
  have e1:(n*z.size+i) % z.size=i:=by rw[Nat.add_comm,Nat.add_mul_mod_self_right,Nat.mod_eq_of_lt h1']
  simp[e1,h1']
theorem ZB{α:Type}{cells:α→List Value}{zt:α}:∀ (n:Nat),(List.replicate n (cells zt)).flatten=(List.replicate n zt).flatMap cells
 | 0=>rfl
 | n+1=>by rw[List.replicate_succ,List.replicate_succ,List.flatten_cons,List.flatMap_cons,ZB n]
section
variable {P:Program}{N:Nat}{env:Env}{ds:List Deferred}{A:AW}{ops:Array Oper}{l:List Oper}{s:List Kt}{Q:Exit→Act→World→Prop}
def makeA(P:Program)(N:Nat)(ops:Array Oper)(env:Env)(o:Oper):Option (TypeId×Nat×Nat×Value×Int×Int):=match o.op,J4 ops env o,GU env o,Jy N o.dst with
 | .makeSlice t x y,some true,true,true=>match P.underlying t,DL env x,DL env y with
  | some (.slice e),.int _ i,.int _ j=>match P.info? e with
   | some f=>match f.zero with
    | some z=>match Nat.beq z.cells.size f.size&&Nat.blt 0 f.size with
     | true=>some (e,f.size,f.bytes,z,i,j)
     | false=>none
    | none=>none
   | none=>none
  | _,_,_=>none
 | _,_,_,_=>none
theorem makeA_run{α:Type}{base:Nat}{o:Oper}{e:TypeId}{sz by':Nat}{z:Value}{i j:Int}(h:makeA P N ops env o=some (e,sz,by',z,i,j)){n:Nat}{zt:α}{cells:α→List Value}(hi:i=(n:Int))(hj:j=(n:Int))(hz:z.cells.toList=cells zt)(hn:by' * n≤281474976710656)(hm:n≤maxLen)(hbase:base≤A.n){a:Act}{w:World}(hst:St N env ds A a w) :
   Region.wanted o (yielded ops a.tmps)=true∧Jy N o.dst=true∧∃ w',(execOp a.eval o).run P w = .ok (.value (.slice (some ⟨A.n,0,none⟩) n n)) w'∧A.n+1≤w'.heap.size∧Sat { A with n:=w'.heap.size,σ:=A.σ++[Au base e sz cells (.slice (some ⟨A.n,0,none⟩) n n) (List.replicate n zt)] } w':=by
 unfold makeA at h
 split at h
 · rename_i t x y hop hw hk hd
   split at h
   · rename_i e' k1 i' k2 j' ht hx hy
     split at h
     · rename_i f hf
       split at h
       · rename_i z' hz'
         split at h
         · rename_i hsz
           simp only[Option.some.injEq,Prod.mk.injEq]at h
           obtain⟨rfl,rfl,rfl,rfl,rfl,rfl⟩:=h
           rw[Bool.and_eq_true]at hsz
           have hs1:=Nat.eq_of_beq_eq_true hsz.1
           subst hi hj
           refine⟨Dp hw hst,hd, ?_⟩
           rw[Ej hst hk]
           obtain⟨w',hr,ho,hg⟩:=run_make_full (P:=P) w base t e' f z' f.size ht hf hz' rfl k1 k2 n hn hm (by rw[hst.mem.size];exact hbase)
           rw[hst.mem.size]at hr ho
           have hkp:AV (fun _=>False) w w':=by
             have:=AV.of_grownBy hg
             exact⟨this.os,this.tape,this.output,this.size,fun k hk _=>this.block k hk (by simp)⟩
           have hlt:A.n<w'.heap.size:=by
             rcases ho.2 with⟨h1, -⟩ | ⟨g,cap,cur,h1, -,h2, -⟩
             · cases h1
             · cases h1;exact(Array.getElem?_eq_some_iff.1 h2).1
           rw[←hs1,YV (by rw[hs1];simpa using hsz.2),hz,ZB,hs1]at ho
           refine⟨w',by simp[execOp,hop,hx,hy,hr,Sem.run,Result.andThen],hlt, ?_⟩
           refine hst.mem.Le hkp (Au base e' f.size cells _ (List.replicate n zt)) ?_ (D9 _ _ _ _ _ _) ?_
           · show w'.ownsRow base e' f.size _ (List.replicate n zt).length _
             rw[List.length_replicate];exact ho
           · intro b hb
             have hb':some A.n=some b:=hb
             cases hb'
             exact⟨Nat.le_refl _,hlt⟩
         · cases h
       · cases h
     · cases h
   · cases h
 · cases h
theorem l_make{α:Type}(base n:Nat)(zt:α)(cells:α→List Value)(e:TypeId)(sz by':Nat)(z:Value)(i j:Int)(d:Option Nat)(hi:i=(n:Int))(hj:j=(n:Int))(hn:n≤1000000000000)(hbase:base≤A.n)
   (K:∀ n',A.n+1≤n'→Lg P N (Gy env d (.slice (some ⟨A.n,0,none⟩) n n)) ds { A with n:=n',σ:=A.σ++[Au base e sz cells (.slice (some ⟨A.n,0,none⟩) n n) (List.replicate n zt)] } ops (l.drop 1) s Q)
   (h:(match l with | o :: _=>(makeA P N ops env o).map (fun x=>(x,o.dst)) | []=>none)=some ((e,sz,by',z,i,j),d):=by as_aux_lemma=>kernel_rfl) (hz:z.cells.toList=cells zt:=by rfl) (hb:Nat.ble by' 140=true:=by as_aux_lemma=>kernel_rfl):Lg P N env ds A ops l s Q:=by
 intro a w hst
 have hb':=Nat.le_of_ble_eq_true hb
 cases l with
 | nil=>cases h
 | cons o l =>
   simp only[Option.map_eq_some_iff]at h
   obtain⟨y,hy,h⟩:=h
   simp only[Prod.mk.injEq]at h
   obtain⟨rfl,rfl⟩:=h
   obtain⟨hw,hd,w',hr,hsz,hs'⟩:=makeA_run hy hi hj hz (Nat.le_trans (Nat.mul_le_mul hb' hn) (by decide)) (by unfold maxLen;omega) hbase hst
   refine Gs hw (.inl hr) ?_
   exact K _ hsz _ _ (hst.put hs' _ hd _)
end
theorem Sat.famOut{α:Type}[Inhabited α]{A:AW}{w:World}(h:Sat A w)(i:Nat)(is:List Nat){base:Nat}{e:TypeId}{sz:Nat}{cells:α→List Value}{hs:List (Sl α)}(n:Nat)(hn:n<hs.length){kept:List Ch}(hi:A.σ[i]? = some (Aq base e sz cells hs))(hnd:nodupB is=true)(hni:is.contains i=false)(hp:picks is A.σ=some kept) :
   Sat { A with σ:=kept++[Aq base e sz cells (hs.eraseIdx n),Au base e sz cells (gd hs n).val (gd hs n).xs] } w:=by
 have h1:(∀ s∈hs,w.ownsRow base e sz s.val s.xs.length (s.xs.flatMap cells))∧hs.Pairwise (fun s t=>∀ b,s.val.ownBlock=some b→t.val.ownBlock≠some b):=h.at hi
 have hg:gd hs n=hs[n]:=Di hn
 have hperm:hs.Perm (hs[n] :: hs.eraseIdx n):=by
   have e1:hs=hs.take n++hs[n] :: hs.drop (n+1):=by rw[List.getElem_cons_drop,List.take_append_drop]
   rw[List.eraseIdx_eq_take_drop_succ]
   conv=>lhs;rw[e1]
   exact List.perm_middle
 have hpw:(hs[n] :: hs.eraseIdx n).Pairwise (fun s t=>∀ b,s.val.ownBlock=some b→t.val.ownBlock≠some b):=(hperm.pairwise_iff (fun{x y} hxy b hb hb'=>hxy b hb' hb)).1 h1.2
 rw[List.pairwise_cons]at hpw
 have hall:∀ s∈hs.eraseIdx n,s∈hs:=fun s hs'=>hperm.mem_iff.2 (List.mem_cons_of_mem _ hs')
 have:=h.exch is hnd hp (AV.refl (fun _=>False) w) (fun _ _ _ _ x=>x) [Aq base e sz cells (hs.eraseIdx n),Au base e sz cells (gd hs n).val (gd hs n).xs] (by
   intro d hd
   simp only[List.mem_cons,List.not_mem_nil,or_false]at hd
   rcases hd with rfl | rfl
   · refine⟨⟨fun s hs'=>h1.1 s (hall s hs'),hpw.2⟩,QD _ _ _ _ _, ?_⟩
     rintro b ⟨s,hs',hb⟩
     rw[h.size];exact h.bnd _ (List.mem_of_getElem? hi) b ⟨s,hall s hs',hb⟩
   · refine⟨?_,D9 _ _ _ _ _ _, ?_⟩
     · show w.ownsRow base e sz (gd hs n).val (gd hs n).xs.length ((gd hs n).xs.flatMap cells)
       rw[hg];exact h1.1 _ (List.getElem_mem hn)
     · intro b hb
       rw[h.size];exact h.bnd _ (List.mem_of_getElem? hi) b ⟨gd hs n,by rw[hg];exact List.getElem_mem hn,hb⟩) (by
   simp only[List.map_cons,List.map_nil,List.pairwise_cons,List.mem_singleton,List.not_mem_nil,false_imp_iff,implies_true,List.Pairwise.nil,and_true]
   rintro k rfl _ b ⟨s,hs',hb⟩ hb'
   have hb2:(gd hs n).val.ownBlock=some b:=hb'
   rw[hg]at hb2
   exact hpw.1 s hs' b hb2 hb) (by
   intro d hd d' hd' _ b hb
   obtain⟨q,hq,hqs⟩:=Jv hp d hd
   have hap:=Ir h.Js (i:=i) (j:=q) (by rw[List.getElem?_map,hi];rfl) (by rw[List.getElem?_map,hqs];rfl) (fun e=>by subst e;simp[hq]at hni) rfl
   simp only[List.mem_cons,List.not_mem_nil,or_false]at hd'
   intro hb'
   rcases hd' with rfl | rfl
   · obtain⟨s,hs',hbb⟩:=hb'
     exact hap b ⟨s,hall s hs',hbb⟩ hb
   · exact hap b ⟨gd hs n,by rw[hg];exact List.getElem_mem hn,hb'⟩ hb)
 rw[h.size]at this
 exact this
theorem Sat.famIn{α:Type}[Inhabited α]{A:AW}{w:World}(h:Sat A w)(i j:Nat)(is:List Nat){base:Nat}{e:TypeId}{sz:Nat}{cells:α→List Value}{hs:List (Sl α)}(n:Nat)(hn:n<hs.length){a:Option Addr}{cap:Nat}{xs:List α}{kept:List Ch}(hi:A.σ[i]? = some (Aq base e sz cells (hs.eraseIdx n)))(hj:A.σ[j]? = some (Au base e sz cells (.slice a xs.length cap) xs))(hij:i≠j)
   (hnd:nodupB is=true) (hni:is.contains i=false) (hnj:is.contains j=false) (hp:picks is A.σ=some kept):Sat { A with σ:=kept++[Aq base e sz cells (hs.set n ⟨a,cap,xs⟩)] } w:=by
 have h1:=h.fam i j is hi hj hij hnd hni hnj hp
 have hperm:(hs.eraseIdx n++[(⟨a,cap,xs⟩:Sl α)]).Perm (hs.set n ⟨a,cap,xs⟩):=by
   rw[List.eraseIdx_eq_take_drop_succ,List.set_eq_take_append_cons_drop,if_pos hn]
   rw[List.append_assoc]
   exact List.Perm.append_left _ (List.perm_append_singleton _ _)
 have hF:Aq base e sz cells (hs.eraseIdx n++[(⟨a,cap,xs⟩:Sl α)])=Aq base e sz cells (hs.set n ⟨a,cap,xs⟩):=by
   unfold Aq
   congr 1
   · funext b
     apply propext
     exact⟨fun⟨s,hs',hb⟩=>⟨s,hperm.mem_iff.1 hs',hb⟩,fun⟨s,hs',hb⟩=>⟨s,hperm.mem_iff.2 hs',hb⟩⟩
   · funext w
     apply propext
     have hsym:∀ {x y:Sl α},(∀ b,x.val.ownBlock=some b→y.val.ownBlock≠some b)→(∀ b,y.val.ownBlock=some b→x.val.ownBlock≠some b):=fun hxy b hb hb'=>hxy b hb' hb
     exact⟨fun⟨p1,p2⟩=>⟨fun s hs'=>p1 s (hperm.mem_iff.2 hs'),(hperm.pairwise_iff hsym).1 p2⟩,fun⟨p1,p2⟩=>⟨fun s hs'=>p1 s (hperm.mem_iff.1 hs'),(hperm.pairwise_iff hsym).2 p2⟩⟩
 rw[hF]at h1
 exact h1
section
variable {P:Program}{N:Nat}{env:Env}{ds:List Deferred}{A:AW}{ops:Array Oper}{l:List Oper}{s:List Kt}{Q:Exit→Act→World→Prop}{c:Code}
theorem P9{α:Type}[Inhabited α](i:Nat)(is:List Nat)(base:Nat)(e:TypeId)(sz:Nat)(cells:α→List Value)(hs:List (Sl α))(n:Nat)(x:Sl α)(hx:x=gd hs n)(hn:n<hs.length)(kept:List Ch)(K:G P N env ds { A with σ:=kept++[Aq base e sz cells (hs.eraseIdx n),Au base e sz cells (.slice x.a x.xs.length x.cap) x.xs] } c s Q)
   (hi:A.σ[i]? = some (Aq base e sz cells hs):=by rfl) (hnd:nodupB is=true:=by rfl) (hni:is.contains i=false:=by rfl) (hp:picks is A.σ=some kept:=by rfl):G P N env ds A c s Q:=by
 subst hx
 exact fun a' w hst=>K a' w ⟨hst.sz,hst.df,hst.kn,hst.mem.famOut i is n hn hi hnd hni hp⟩
theorem Yz{α:Type}[Inhabited α]{x:Exit}(i j:Nat)(is:List Nat)(base:Nat)(e:TypeId)(sz:Nat)(cells:α→List Value)(hs:List (Sl α))(n:Nat)(hn:n<hs.length)(a:Option Addr)(cap:Nat)(xs:List α)(kept:List Ch)(K:E P N env ds { A with σ:=kept++[Aq base e sz cells (hs.set n ⟨a,cap,xs⟩)] } x s Q)
   (hi:A.σ[i]? = some (Aq base e sz cells (hs.eraseIdx n)):=by rfl) (hj:A.σ[j]? = some (Au base e sz cells (.slice a xs.length cap) xs):=by rfl) (hij:i≠j:=by decide) (hnd:nodupB is=true:=by rfl) (hni:is.contains i=false:=by rfl) (hnj:is.contains j=false:=by rfl) (hp:picks is A.σ=some kept:=by rfl):E P N env ds A x s Q :=
 fun a' w hst=>K a' w ⟨hst.sz,hst.df,hst.kn,hst.mem.famIn i j is n hn hi hj hij hnd hni hnj hp⟩
end
theorem Sat.conv{A:AW}{w:World}(h:Sat A w){i:Nat}{c c':Ch}(hi:A.σ[i]? = some c)(hk:c'.key=c.key)(hh:c.holds w→c'.holds w)(hst:c'.stable):Sat { A with σ:=A.σ.set i c' } w:=by
 have hlt:i<A.σ.length:=(List.getElem?_eq_some_iff.1 hi).1
 have hci:A.σ[i]=c:=(List.getElem?_eq_some_iff.1 hi).2
 have hin:∀ d∈A.σ.set i c',d∈A.σ∨d=c':=fun d hd=>List.mem_or_eq_of_mem_set hd
 have hcm:c∈A.σ:=List.mem_of_getElem? hi
 refine⟨h.os,h.tape,h.output,h.size,fun d hd => ?_,fun d hd b hb => ?_,fun d hd => ?_, ?_⟩
 ·rcases hin d hd with hd | rfl
  ·exact h.all d hd
  exact hh (h.all c hcm)
 ·rcases hin d hd with hd | rfl
  ·exact h.bnd d hd b hb
  have hF:d.F=c.F:=congrArg Prod.fst hk
  rw[hF]at hb
  exact h.bnd c hcm b hb
 ·rcases hin d hd with hd | rfl
  ·exact h.KQ d hd
  exact hst
 show((A.σ.set i c').map Ch.key).Pairwise Key.apart
 have:(A.σ.set i c').map Ch.key=A.σ.map Ch.key:=by
  rw[List.map_set,hk,←hci,←List.getElem_map (f:=Ch.key) (h:=by simpa using hlt),List.set_getElem_self]
 rw[this];exact h.Js
theorem Sat.blkrow{α:Type}{A:AW}{w:World}(h:Sat A w){i b base:Nat}{e:TypeId}{sz:Nat}{cells:α→List Value}{xs:List α}{cs:Array Value}(hi:A.σ[i]? = some (.blk b (.cells cs e (0,0)) true))(hx:xs.flatMap cells=cs.toList)(hl:cs.size=xs.length*sz)(hb:base≤b)(hm:xs.length≤maxLen):Sat { A with σ:=A.σ.set i (Au base e sz cells (.slice (some ⟨b,0,none⟩) xs.length xs.length) xs) } w:=by
 refine h.conv hi ?_ (fun hw => ?_) (D9 _ _ _ _ _ _)
 ·show(_,true)=(_,true)
  congr 1
  funext k
  apply propext
  show some b=some k↔k=b
  exact⟨fun e=>(Option.some.inj e).symm,fun e=>by rw[e]⟩
 have hw':w.heap[b]? = some (.cells cs e (0,0)):=hw
 show w.ownsRow base e sz (.slice (some ⟨b,0,none⟩) xs.length xs.length) xs.length (xs.flatMap cells)
 refine⟨by rw[hx];simpa using hl,.inr ⟨b,xs.length,cs,rfl,hb,hw',Nat.le_refl _,hm,hl, ?_⟩⟩
 rw[hx]
 exact List.take_of_length_le (Nat.le_of_eq (by rw[←hl,Array.length_toList]))
theorem app_keep{P:Program}{w:World}(base:Nat)(t ty e:TypeId)(i:TypeInfo)(z:Value)(ht:P.underlying t=some (.slice e))(hi:P.info? e=some i)(hz:i.zero=some z)(hzs:z.cells.size=i.size)(hsz:0<i.size)
   (v:Value) (n:Nat) (xs:List Value) (hown:w.ownsRow base e i.size v n xs) (a:Addr) (m c:Nat) (news:List Value) (hl:news.length=m*i.size) (hnews:∀ j u,news[j]? = some u→w.cell? (a.add j)=some u) (h1:∀ u∈news,u.oneCell'=true)
   (h63:n+m≤maxLen) (hbytes:(n+m)*i.bytes≤140737488355328) (hbase:base≤w.heap.size) :
   ∃ v' w',(Builtin.append_ #[t,t] ty #[v,.slice (some a) m c]).run P w = .ok v' w'∧w'.ownsRow base e i.size v' (n+m) (xs++news)∧w.grownBy w' v.ownBlock∧(v'.ownBlock=v.ownBlock∨(v'.ownBlock=some w.heap.size∧w.grownBy w' none)):=by
 have hsmall:n+m≤9223372036854775807:=by simp only[maxLen]at h63;omega
 obtain⟨v',w',hr,ho,hg,hnil,hat⟩:=run_append_own_at (P:=P) w base t ty e i z i.size i.bytes ht hi hz rfl rfl hzs hsz v n xs hown a m c news hl hnews h1 h63 hbytes hbase
 refine⟨v',w',hr,ho,hg, ?_⟩
 rcases hown.2 with⟨rfl,h0⟩ | ⟨g,cap,cur,rfl,hbg,hg',hnc,hcm,hcs,htake⟩
 · rcases hat with h | h
   · exact .inl h
   · exact .inr ⟨h,hg⟩
 · by_cases hroom:n+m≤cap
   · have hfit:n*i.size+news.length≤cur.size:=by rw[hl,hcs,←Nat.add_mul];exact Nat.mul_le_mul_right _ hroom
     have hr2:=run_append_room (P:=P) w t ty e i ht hi g n cap cur hg' a m c news hl hnews h1 hroom hfit
     rw[hr]at hr2
     injection hr2 with e1 e2
     subst e1
     exact .inl rfl
   · have holds:∀ j u,xs[j]? = some u→w.cell? ((⟨g,0,none⟩:Addr).add j)=some u:=hown.cells (g:=g) rfl
     have hr2:=run_append_grow (P:=P) w t ty e i z ht hi hz ⟨g,0,none⟩ n cap xs hown.1 holds a m c news hl hnews (by omega) (by omega) (growslice_fits (by omega) hbytes)
     rw[hr]at hr2
     injection hr2 with e1 e2
     subst e1;subst e2
     exact .inr ⟨rfl,⟨rfl,rfl,rfl,by simp,fun k hk _=>heap_alloc_old w.drew _ hk⟩⟩
theorem Sat.grow{A:AW}{w w':World}(h:Sat A w){i:Nat}{c c':Ch}(hi:A.σ[i]? = some c)(hrw:c.rw=true)(hrw':c'.rw=true)(hk:AV c.F w w')(hh:c'.holds w')(hst:c'.stable)
   (hF:∀ b,c'.F b→c.F b∨b=w.heap.size) (hb:∀ b,c'.F b→b<w'.heap.size):Sat { A with n:=w'.heap.size,σ:=A.σ.set i c' } w':=by
 obtain⟨hlt,hix⟩:=List.getElem?_eq_some_iff.1 hi
 have hsize:A.n≤w'.heap.size:=by have:=hk.size;rw[h.size]at this;exact this
 have hap:∀ j d,j≠i→A.σ[j]? = some d→∀ b,d.F b→¬ c.F b:=by
   intro j d hji hj b hd hb
   exact Ir h.Js (i:=i) (j:=j) (by rw[List.getElem?_map,hi];rfl) (by rw[List.getElem?_map,hj];rfl) (Ne.symm hji) hrw b hb hd
 refine⟨hk.os.trans h.os,hk.tape.trans h.tape,hk.output.trans h.output,rfl, ?_, ?_, ?_, ?_⟩
 · intro d hd
   obtain⟨j,hj⟩:=List.getElem?_of_mem hd
   by_cases hij:i=j
   · subst hij;rw[List.getElem?_set_self hlt]at hj;cases hj;exact hh
   · rw[List.getElem?_set_ne hij]at hj
     have hm:=List.mem_of_getElem? hj
     exact h.KQ d hm w w' (fun b hbd=>hk.block b (by rw[h.size];exact h.bnd d hm b hbd) (hap j d (Ne.symm hij) hj b hbd)) (h.all d hm)
 · intro d hd b hbd
   show b<w'.heap.size
   rcases List.mem_or_eq_of_mem_set hd with hd | rfl
   · have:=h.bnd d hd b hbd;omega
   · exact hb b hbd
 · intro d hd
   rcases List.mem_or_eq_of_mem_set hd with hd | rfl
   · exact h.KQ d hd
   · exact hst
 · show((A.σ.set i _).map Ch.key).Pairwise Key.apart
   rw[List.map_set,List.pairwise_iff_getElem]
   intro p q hp hq hpq
   simp only[List.length_set,List.length_map]at hp hq
   have key:∀ j (hj:j<A.σ.length),j≠i→Key.apart (Ch.key c') (Ch.key A.σ[j]):=by
     intro j hj hji _ b hbc hd
     have hjs:A.σ[j]? = some A.σ[j]:=by simp[hj]
     rcases hF b hbc with e1 | e1
     · exact hap j _ hji hjs b hd e1
     · have:=h.bnd _ (List.mem_of_getElem? hjs) b hd
       rw[←h.size]at this;omega
   simp only[List.getElem_set,List.getElem_map]
   by_cases h1:i=p
   · subst h1
     rw[if_pos rfl,if_neg (by omega)]
     exact key q hq (by omega)
   · rw[if_neg h1]
     by_cases h2:i=q
     · subst h2;rw[if_pos rfl];exact Key.QH (key p hp (by omega))
     · rw[if_neg h2]
       exact U0 h.Js (i:=p) (j:=q) (by simp[hp]) (by simp[hq]) (by omega)
structure Yx{α:Type}(cells:α→List Value)(w:World)(hd:Sl α):Prop where
 len:hd.xs.length≤140737488351232
 le:hd.xs.length≤hd.cap
 cells:hd.xs≠[]→∃ g,hd.a=some ⟨g,0,none⟩∧g<w.heap.size∧∀ (j:Nat) (u:Value),(hd.xs.flatMap cells)[j]? = some u→w.cell? ⟨g,j,none⟩=some u
def FC{α:Type}(base:Nat)(e:TypeId)(sz:Nat)(cells:α→List Value)(hd:Sl α)(v:Value)(xs:List α):Ch :=
 .inv (fun b=>v.ownBlock=some b∨hd.val.ownBlock=some b) (fun w=>w.ownsRow base e sz v xs.length (xs.flatMap cells)∧Yx cells w hd∧(v.ownBlock=hd.val.ownBlock→hd.xs <+: xs)) true
theorem Zq{α:Type}{hd:Sl α}{g:Nat}(h:hd.a=some ⟨g,0,none⟩):hd.val.ownBlock=some g:=by
 obtain⟨a,cap,xs⟩:=hd;simp only at h;subst h;rfl
theorem Yx.same{α:Type}{cells:α→List Value}{w w':World}{hd:Sl α}(h:Yx cells w hd)(hb:∀ b,hd.val.ownBlock=some b→w'.heap[b]? = w.heap[b]?):Yx cells w' hd :=
 ⟨h.len,h.le,fun hne=>by
  obtain⟨g,ha,hlt,hc⟩:=h.cells hne
  have hbg:=hb g (Zq ha)
  refine⟨g,ha, ?_,fun j u hu => ?_⟩
  ·rcases Nat.lt_or_ge g w'.heap.size with h1 | h1
   ·exact h1
   rw[Array.getElem?_eq_none h1,Array.getElem?_eq_getElem hlt]at hbg;cases hbg
  rw[←hc j u hu]
  simp only[World.cell?,hbg]⟩
theorem WA{α:Type}(base:Nat)(e:TypeId)(sz:Nat)(cells:α→List Value)(hd:Sl α)(v:Value)(xs:List α):(FC base e sz cells hd v xs).stable :=
 fun w w' h hw=>⟨SL (fun b hb=>h b (.inl hb)) hw.1,hw.2.1.same (fun b hb=>h b (.inr hb)),hw.2.2⟩
theorem row_hd{α:Type}{base:Nat}{e:TypeId}{sz:Nat}{cells:α→List Value}{a:Option Addr}{cap:Nat}{xs:List α}{w:World}(h:w.ownsRow base e sz (.slice a xs.length cap) xs.length (xs.flatMap cells))(hl:xs.length≤140737488351232):Yx cells w ⟨a,cap,xs⟩:=by
 rcases h.2 with⟨h1,h2⟩ | ⟨g,cap',cur,h1,hb,hg,hnc,hcm,hcs,ht⟩
 ·have hx:xs=[]:=List.eq_nil_of_length_eq_zero h2
  subst hx
  exact⟨Nat.zero_le _,Nat.zero_le _,fun hne=>absurd rfl hne⟩
 cases h1
 refine⟨hl,hnc,fun _=>⟨g,rfl,(Array.getElem?_eq_some_iff.1 hg).1,fun j u hu => ?_⟩⟩
 have:=h.cells (g:=g) rfl j u hu
 have e1:(⟨g,0,none⟩:Addr).add j=⟨g,j,none⟩:=by rw[Iz rfl];simp
 rwa [e1]at this
theorem pre_flat{α:Type}{cells:α→List Value}{xs ys:List α}(h:xs <+: ys):∀ (j:Nat) (u:Value),(xs.flatMap cells)[j]? = some u→(ys.flatMap cells)[j]? = some u:=by
 obtain⟨r,rfl⟩:=h
 intro j u hu
 have hlt:=(List.getElem?_eq_some_iff.1 hu).1
 rw[List.flatMap_append,List.getElem?_append_left hlt];exact hu
theorem own_cellF{base:Nat}{e:TypeId}{sz n:Nat}{v:Value}{xs:List Value}{w:World}(h:w.ownsRow base e sz v n xs){g:Nat}(hv:v.ownBlock=some g):∀ (j:Nat) (u:Value),xs[j]? = some u→w.cell? ⟨g,j,none⟩=some u:=by
 rcases h.2 with⟨rfl, -⟩ | ⟨g',cap',cur,rfl, -, -, -, -, -, -⟩
 ·cases hv
 have hg:g'=g:=by simpa[Value.ownBlock]using hv
 subst hg
 intro j u hu
 have:=h.cells (g:=g') rfl j u hu
 have e1:(⟨g',0,none⟩:Addr).add j=⟨g',j,none⟩:=by rw[Iz rfl];simp
 rwa [e1]at this
theorem rowO_grow{α:Type}{base:Nat}{e:TypeId}{sz:Nat}{cells:α→List Value}{hd:Sl α}{v v':Value}{xs ys:List α}{w w':World}(h:(FC base e sz cells hd v xs).holds w)(ho:w'.ownsRow base e sz v' (xs++ys).length ((xs++ys).flatMap cells))(hg:w.grownBy w' v.ownBlock)
   (hat:v'.ownBlock=v.ownBlock∨(v'.ownBlock=some w.heap.size∧w.grownBy w' none)):(FC base e sz cells hd v' (xs++ys)).holds w':=by
 obtain⟨h1,h2,h3⟩:=h
 have hsize:=hg.size
 refine⟨ho,⟨h2.len,h2.le,fun hne => ?_⟩,fun heq => ?_⟩
 · obtain⟨g,ha,hlt,hc⟩:=h2.cells hne
   refine⟨g,ha,Nat.lt_of_lt_of_le hlt hsize,fun j u hu => ?_⟩
   by_cases hgv:v.ownBlock=some g
   · rcases hat with hat | ⟨-,hn⟩
     · exact own_cellF ho (by rw[hat,hgv]) j u (pre_flat ((h3 (by rw[hgv,Zq ha])).trans (List.prefix_append _ _)) j u hu)
     · rw[←hc j u hu];simp only[World.cell?,hn.block g hlt (by simp)]
   · rw[←hc j u hu];simp only[World.cell?,hg.block g hlt (fun e1=>hgv e1.symm)]
 · rcases hat with hat | ⟨hat, -⟩
   · exact(h3 (by rw[←hat,heq])).trans (List.prefix_append _ _)
   · by_cases hne:hd.xs=[]
     · rw[hne];exact List.nil_prefix
     · obtain⟨g,ha,hlt,hc⟩:=h2.cells hne
       rw[Zq ha,hat]at heq
       simp only[Option.some.injEq]at heq
       omega
theorem Sat.FC{α:Type}{A:AW}{w:World}(h:Sat A w){i base:Nat}{e:TypeId}{sz:Nat}{cells:α→List Value}{a:Option Addr}{cap:Nat}{xs:List α}(hi:A.σ[i]? = some (Au base e sz cells (.slice a xs.length cap) xs))(hl:xs.length≤140737488351232):Sat { A with σ:=A.σ.set i (FC base e sz cells ⟨a,cap,xs⟩ (.slice a xs.length cap) xs) } w:=by
 refine h.conv hi ?_ (fun hw=>⟨hw,row_hd hw hl,fun _=>List.prefix_refl _⟩) (WA _ _ _ _ _ _ _)
 show(_,true)=(_,true)
 congr 1
 funext b
 apply propext
 exact⟨fun x=>x.elim id id,.inl⟩
theorem lt_own{base:Nat}{e:TypeId}{sz n:Nat}{v:Value}{xs:List Value}{w:World}(h:w.ownsRow base e sz v n xs):∀ b,v.ownBlock=some b→b<w.heap.size:=fun b hb=>(h.lt b hb).2
def BN(S:Nat→Prop)(ws:World):Ch:= .inv S (fun w=>∀ b,S b→w.heap[b]? = ws.heap[b]?) true
theorem Uw(S:Nat→Prop)(ws:World):(BN S ws).stable:=fun w1 w2 h hw b hb=>(h b hb).trans (hw b hb)
theorem MK{S:Nat→Prop}{ws:World}{b k:Nat}{v:Value}(hF:S b)(h:ws.cell? ⟨b,k,none⟩=some v):∀ w',(BN S ws).holds w'→w'.cell? ⟨b,k,none⟩=some v:=fun w' hw=>cell_of (hw b hF) h
theorem QM{S:Nat→Prop}{ws w:World}(h:(BN S ws).holds w):Ext S ws w:=fun b k v hb hv=>cell_of (h b hb) hv
theorem Sat.BN{A:AW}{w:World}(h:Sat A w)(i j:Nat)(is:List Nat){S:Nat→Prop}{ws:World}{c:Ch}{kept:List Ch}(hi:A.σ[i]? = some (BN S ws))(hj:A.σ[j]? = some c)(hr:c.rw=true)(hnd:nodupB is=true)(hni:is.contains i=false)(hnj:is.contains j=false)(hp:picks is A.σ=some kept):Sat { A with σ:=kept++[Eng.BN (fun b=>S b∨c.F b) w] } w:=by
 have:=h.exch is hnd hp (AV.refl (fun _=>False) w) (fun _ _ _ _ x=>x) [Eng.BN (fun b=>S b∨c.F b) w] (by
  intro d hd
  simp only[List.mem_singleton]at hd
  subst hd
  refine⟨fun b _=>rfl,Uw _ _, ?_⟩
  rintro b (hb | hb)
  ·rw[h.size];exact h.bnd _ (List.mem_of_getElem? hi) b hb
  ·rw[h.size];exact h.bnd _ (List.mem_of_getElem? hj) b hb) (by simp) (by
  intro d hd d' hd' _ b hb
  simp only[List.mem_singleton]at hd'
  subst hd'
  obtain⟨q,hq,hqs⟩:=Jv hp d hd
  rintro(hb' | hb')
  ·exact Ir h.Js (i:=i) (j:=q) (by rw[List.getElem?_map,hi];rfl) (by rw[List.getElem?_map,hqs];rfl) (fun e=>by subst e;simp[hq]at hni) rfl b hb' hb
  exact Ir h.Js (i:=j) (j:=q) (by rw[List.getElem?_map,hj];rfl) (by rw[List.getElem?_map,hqs];rfl) (fun e=>by subst e;simp[hq]at hnj) hr b hb' hb)
 rw[h.size]at this
 exact this
theorem Bf{α:Type}{cells:α→List Value}{sz:Nat}{F F':Nat→Prop}{W W':World}{s:Sl α}(he:Ext F W W')(hF:∀ b,F b→F' b)(h:BD cells sz F W s):BD cells sz F' W' s :=
 ⟨h.len,h.le,fun hne=>by
  obtain⟨b,off,ha,hb,hc⟩:=h.cells hne
  exact⟨b,off,ha,hF b hb,fun i hi k v hv=>he _ _ _ hb (hc i hi k v hv)⟩⟩
theorem Jp{α:Type}{cells:α→List Value}{sz base:Nat}{e:TypeId}{F:Nat→Prop}{w:World}{a:Option Addr}{cap:Nat}{xs:List α}(hsz:∀ x,(cells x).length=sz)(h:w.ownsRow base e sz (.slice a xs.length cap) xs.length (xs.flatMap cells))(hl:xs.length≤140737488351232)(hF:∀ b,(Value.slice a xs.length cap).ownBlock=some b→F b):BD cells sz F w ⟨a,cap,xs⟩:=by
 have:=Nq hsz h hl
 refine⟨this.len,this.le,fun hne => ?_⟩
 obtain⟨b,off,ha,hb,hc⟩:=this.cells hne
 exact⟨b,off,ha,hF b (by simp only at ha;subst ha;rfl),hc⟩
theorem U5{α:Type}{cells:α→List Value}{sz:Nat}{F:Nat→Prop}{w:World}{hd:Sl α}(hsz:∀ x,(cells x).length=sz)(h:Yx cells w hd)(hF:∀ b,hd.val.ownBlock=some b→F b):BD cells sz F w hd :=
 ⟨h.len,h.le,fun hne=>by
  obtain⟨g,ha, -,hc⟩:=h.cells hne
  refine⟨g,0,ha,hF g (Zq ha),fun i hi k v hv => ?_⟩
  rw[Nat.zero_add]
  exact hc _ _ (VE hsz hd.xs i hi k v hv)⟩
def EO(cs:List Ch):Nat→Prop:=fun b=>∃ c∈cs,c.F b
theorem Vj{w w0:World}{n:Nat}{cs:List Ch}(h:Sat ⟨w0,n,cs⟩ w)(hrw:∀ c∈cs,c.rw=true):Sat ⟨w,n,old (EO cs) w :: cs⟩ w:=by
 refine⟨rfl,rfl,rfl,h.size, ?_, ?_, ?_, ?_⟩
 ·intro c hc
  rcases List.mem_cons.1 hc with rfl | hc
  ·exact fun _ _ _=>rfl
  exact h.all c hc
 ·intro c hc b hb
  rcases List.mem_cons.1 hc with rfl | hc
  ·have:=hb.1;rw[h.size]at this;exact this
  exact h.bnd c hc b hb
 ·intro c hc
  rcases List.mem_cons.1 hc with rfl | hc
  ·exact U3 _ _
  exact h.KQ c hc
 show((old (EO cs) w :: cs).map Ch.key).Pairwise Key.apart
 rw[List.map_cons,List.pairwise_cons]
 refine⟨fun k hk _ b hb hb' => ?_,h.Js⟩
 obtain⟨c,hc,rfl⟩:=List.mem_map.1 hk
 exact hb.2 ⟨c,hc,hb'⟩
theorem Sat.spend{A:AW}{w w':World}(h:Sat A w)(is js:List Nat){cs kept:List Ch}(hn:nodupB is=true)(hp:picks is A.σ=some kept)(hjs:picks js A.σ=some cs)(hij:is.all (fun q => !js.contains q)=true)(hrw:∀ c∈cs,c.rw=true)(hk:AV (EO cs) w w'):Sat { A with n:=w'.heap.size,σ:=kept++[Eng.BN (EO cs) w'] } w':=by
 have hap:∀ d∈kept,∀ b,d.F b→¬ EO cs b:=by
  rintro d hd b hb ⟨c,hc,hcb⟩
  obtain⟨q,hq,hqs⟩:=Jv hp d hd
  obtain⟨p,hp',hps⟩:=Jv hjs c hc
  refine Ir h.Js (i:=p) (j:=q) (by rw[List.getElem?_map,hps];rfl) (by rw[List.getElem?_map,hqs];rfl) (fun e => ?_) (hrw c hc) b hcb hb
  subst e
  have:=List.all_eq_true.1 hij p hq
  simp[hp']at this
 refine h.exch is hn hp hk hap [Eng.BN (EO cs) w'] (by
  intro d hd
  simp only[List.mem_singleton]at hd
  subst hd
  refine⟨fun b _=>rfl,Uw _ _, ?_⟩
  rintro b ⟨c,hc,hcb⟩
  obtain⟨p,hp',hps⟩:=Jv hjs c hc
  have h1:=h.bnd c (List.mem_of_getElem? hps) b hcb
  have h2:=hk.size
  rw[h.size]at h2
  exact Nat.lt_of_lt_of_le h1 h2) (by simp) (by
  intro d hd d' hd' _ b hb
  simp only[List.mem_singleton]at hd'
  subst hd'
  exact hap d hd b hb)
theorem Sat.keepsO{A:AW}{w w' w0:World}{cs:List Ch}(h:Sat A w)(hk:AV (fun _=>False) w w')(hO:Sat ⟨w0,w'.heap.size,cs⟩ w')(hn:∀ c∈cs,∀ b,c.F b→A.n≤b):Sat { A with n:=w'.heap.size,σ:=A.σ++cs } w':=by
 have hsz:A.n≤w'.heap.size:=by have:=hk.size;rw[h.size]at this;exact this
 refine⟨hk.os.trans h.os,hk.tape.trans h.tape,hk.output.trans h.output,rfl, ?_, ?_, ?_, ?_⟩
 ·intro c hc
  rcases List.mem_append.1 hc with hc | hc
  ·exact h.KQ c hc w w' (fun b hb=>hk.block b (by rw[h.size];exact h.bnd c hc b hb) id) (h.all c hc)
  exact hO.all c hc
 ·intro c hc b hb
  rcases List.mem_append.1 hc with hc | hc
  ·exact Nat.lt_of_lt_of_le (h.bnd c hc b hb) hsz
  exact hO.bnd c hc b hb
 ·intro c hc
  rcases List.mem_append.1 hc with hc | hc
  ·exact h.KQ c hc
  exact hO.KQ c hc
 show((A.σ++cs).map Ch.key).Pairwise Key.apart
 rw[List.map_append,List.pairwise_append]
 refine⟨h.Js,hO.Js,fun k hk' k2 hk2 _ b hb hb' => ?_⟩
 obtain⟨c,hc,rfl⟩:=List.mem_map.1 hk'
 obtain⟨d,hd,rfl⟩:=List.mem_map.1 hk2
 have h1:=h.bnd c hc b hb
 have h2:=hn d hd b hb'
 omega
theorem MI{α:Type}{base:Nat}{e:TypeId}{sz:Nat}{cells:α→List Value}{v:Value}{xs:List α}{w:World}(h:(Au base e sz cells v xs).holds w):∀ b,(Au base e sz cells v xs).F b→base≤b:=by
 intro b hb
 have h':w.ownsRow base e sz v xs.length (xs.flatMap cells):=h
 exact(h'.lt b hb).1
theorem Ou{α:Type}{base:Nat}{e:TypeId}{sz:Nat}{cells:α→List Value}{hs:List (Sl α)}{w:World}(h:(Aq base e sz cells hs).holds w):∀ b,(Aq base e sz cells hs).F b→base≤b:=by
 rintro b ⟨s,hs',hb⟩
 exact((h.1 s hs').lt b hb).1
section
variable {P:Program}{N:Nat}{env:Env}{ds:List Deferred}{A:AW}{ops:Array Oper}
theorem appO_run{α:Type}{base:Nat}{o:Oper}{e:TypeId}{sz by':Nat}{v:Value}{ad:Addr}{m cp:Nat}(h:Rt P N ops env o=some (e,sz,by',v,ad,m,cp)){i:Nat}{hd:Sl α}{cells:α→List Value}{xs ys:List α}{a:Act}{w:World}(hst:St N env ds A a w)
   (hi:A.σ[i]? = some (FC base e sz cells hd v xs)) (hl:(ys.flatMap cells).length=m*sz) (h1:(ys.flatMap cells).all Value.oneCell'=true) (hnews:∀ j u,(ys.flatMap cells)[j]? = some u→w.cell? (ad.add j)=some u) (hm:ys.length=m) (h63:xs.length+m≤maxLen) (hb:(xs.length+m)*by'≤140737488355328) (hbase:base≤A.n) :
   Region.wanted o (yielded ops a.tmps)=true∧Jy N o.dst=true∧∃ a' cap' w',(execOp a.eval o).run P w = .ok (.value (.slice a' (xs++ys).length cap')) w'∧A.n≤w'.heap.size∧Sat { A with n:=w'.heap.size,σ:=A.σ.set i (FC base e sz cells hd (.slice a' (xs++ys).length cap') (xs++ys)) } w':=by
 unfold Rt at h
 split at h
 · rename_i x y t u hop0 hw hk hd0
   have hop:=OU hop0
   split at h
   · rename_i e' ad' m' cp' htu ht hy
     split at h
     · rename_i f' hf
       split at h
       · rename_i z' hz
         split at h
         · rename_i hsz
           simp only[Option.some.injEq,Prod.mk.injEq]at h
           obtain⟨rfl,rfl,rfl,rfl,rfl,rfl,rfl⟩:=h
           have htu':=Nat.eq_of_beq_eq_true htu
           subst htu'
           rw[Bool.and_eq_true]at hsz
           refine⟨Dp hw hst,hd0, ?_⟩
           rw[Ej hst hk]
           have hpc:=hst.mem.at hi
           obtain⟨v',w',hr,ho,hg,hat⟩:=app_keep (P:=P) base t o.type e' f' z' ht hf hz (Nat.eq_of_beq_eq_true hsz.1) (by simpa using hsz.2) (DL env x) xs.length (xs.flatMap cells) hpc.1 ad' m' cp' (ys.flatMap cells) hl hnews (fun u hu=>List.all_eq_true.1 h1 u hu) h63 hb (by rw[hst.mem.size];exact hbase)
           have ho':w'.ownsRow base e' f'.size v' (xs++ys).length ((xs++ys).flatMap cells):=by rw[List.length_append,hm,List.flatMap_append];exact ho
           obtain⟨a',cap',rfl⟩:=SN ho'
           have hk':AV (fun k=>some k=(DL env x).ownBlock) w w':=AV.of_grownBy hg
           have hsize:A.n≤w'.heap.size:=by have:=hk'.size;rw[hst.mem.size]at this;exact this
           refine⟨a',cap',w', ?_,hsize, ?_⟩
           · unfold execOp
             simp only[hop,resolve,invoke,builtin,Sem.run_bind,Sem.run_pure,Result.andThen_ok,List.map_toArray,List.map_cons,List.map_nil,hy,hr,List.length_append,hm]
           · refine hst.mem.grow hi rfl rfl ⟨hk'.os,hk'.tape,hk'.output,hk'.size,fun b hb hS=>hk'.block b hb (fun e1=>hS (.inl e1.symm))⟩ (rowO_grow hpc ho' hg hat) (WA _ _ _ _ _ _ _) ?_ ?_
             · rintro b (hb1 | hb1)
               · rcases hat with e1 | ⟨e1, -⟩
                 · exact .inl (.inl (by rw[←e1];exact hb1))
                 · rw[e1]at hb1;exact .inr (by simpa using hb1.symm)
               · exact .inl (.inr hb1)
             · rintro b (hb1 | hb1)
               · exact lt_own ho' b hb1
               · have:=hst.mem.bnd _ (List.mem_of_getElem? hi) b (.inr hb1);omega
         · cases h
       · cases h
     · cases h
   · cases h
 · cases h
end
section
variable {P:Program}{N:Nat}{env:Env}{ds:List Deferred}{A:AW}{ops:Array Oper}{l:List Oper}{s:List Kt}{Q:Exit→Act→World→Prop}{c:Code}
theorem RQ{α:Type}(i base:Nat)(e:TypeId)(sz:Nat)(cells:α→List Value)(a:Option Addr)(cap:Nat)(xs:List α)(hl:xs.length≤140737488351232)(K:G P N env ds { A with σ:=A.σ.set i (FC base e sz cells ⟨a,cap,xs⟩ (.slice a xs.length cap) xs) } c s Q)(hi:A.σ[i]? = some (Au base e sz cells (.slice a xs.length cap) xs):=by rfl):G P N env ds A c s Q :=
 fun a' w hst=>K a' w ⟨hst.sz,hst.df,hst.kn,hst.mem.FC hi hl⟩
theorem g_frz0(w0:World)(K:G P N env ds { A with σ:=A.σ++[BN (fun _=>False) w0] } c s Q):G P N env ds A c s Q :=
 fun a w hst=>K a w ⟨hst.sz,hst.df,hst.kn,hst.mem.more _ (fun _ h=>h.elim) (Uw _ _) (fun _ h=>h)⟩
theorem g_frz(i j:Nat)(is:List Nat)(S:Nat→Prop)(ws:World)(c0:Ch)(kept:List Ch)(K:∀ w1 S2,Ext S ws w1→(∀ b,S b→S2 b)→(∀ b,c0.F b→S2 b)→c0.holds w1→w1.heap.size=A.n→G P N env ds { A with σ:=kept++[BN S2 w1] } c s Q)
   (hi:A.σ[i]? = some (BN S ws):=by rfl) (hj:A.σ[j]? = some c0:=by rfl) (hr:c0.rw=true:=by rfl) (hnd:nodupB is=true:=by rfl) (hni:is.contains i=false:=by rfl) (hnj:is.contains j=false:=by rfl) (hp:picks is A.σ=some kept:=by rfl):G P N env ds A c s Q :=
 fun a w hst=>K w _ (QM (hst.mem.at hi)) (fun _ h=> .inl h) (fun _ h=> .inr h) (hst.mem.at hj) hst.mem.size a w ⟨hst.sz,hst.df,hst.kn,hst.mem.BN i j is hi hj hr hnd hni hnj hp⟩
theorem PS{α:Type}(base i j:Nat)(hd:Sl α)(xs ys:List α)(cells:α→List Value)(e:TypeId)(sz by':Nat)(v:Value)(b m cp:Nat)(cs:Array Value)(t:TypeId)(fr:Nat×Nat)(rw':Bool)(d:Option Nat)
   (h63:xs.length+ys.length≤1000000000000) (hbase:base≤A.n)
   (K:∀ a' cap' n',A.n≤n'→Lg P N (Gy env d (.slice a' (xs++ys).length cap')) ds { A with n:=n',σ:=A.σ.set i (FC base e sz cells hd (.slice a' (xs++ys).length cap') (xs++ys)) } ops (l.drop 1) s Q)
   (h:(match l with | o :: _=>(Rt P N ops env o).map (fun x=>(x,o.dst)) | []=>none)=some ((e,sz,by',v,⟨b,0,none⟩,m,cp),d):=by as_aux_lemma=>kernel_rfl) (hi:A.σ[i]? = some (FC base e sz cells hd v xs):=by rfl) (hj:A.σ[j]? = some (.blk b (.cells cs t fr) rw'):=by rfl) (hn:cs.toList=ys.flatMap cells:=by rfl) (hm:ys.length=m:=by rfl)
   (hl:Nat.beq (ys.flatMap cells).length (ys.length*sz)=true:=by as_aux_lemma=>kernel_rfl) (h1:(ys.flatMap cells).all Value.oneCell'=true:=by as_aux_lemma=>kernel_rfl) (hb:Nat.ble by' 140=true:=by as_aux_lemma=>kernel_rfl):Lg P N env ds A ops l s Q:=by
 intro a w hst
 have hb':=Nat.le_of_ble_eq_true hb
 subst hm
 cases l with
 | nil=>cases h
 | cons o l =>
   simp only[Option.map_eq_some_iff]at h
   obtain⟨y,hy,h⟩:=h
   simp only[Prod.mk.injEq]at h
   obtain⟨rfl,rfl⟩:=h
   obtain⟨hw,hdst,a',cap',w',hr,hsz,hs'⟩:=appO_run (xs:=xs) (ys:=ys) hy hst hi (Nat.eq_of_beq_eq_true hl) h1 (UB hst.mem hj hn) rfl (by unfold maxLen;omega) (Nat.le_trans (Nat.mul_le_mul h63 hb') (by decide)) hbase
   refine Gs hw (.inl hr) ?_
   exact K a' cap' _ hsz _ _ (hst.put hs' _ hdst _)
end
theorem Vo{α:Type}{cells:α→List Value}{sz:Nat}(hsz:∀ x,(cells x).length=sz)(y:α):∀ (xs:List α) (j:Nat),j<xs.length→(xs.set j y).flatMap cells=(xs.flatMap cells).take (j*sz)++cells y++(xs.flatMap cells).drop (j*sz+sz)
 | x :: xs,0,_=>by
  simp only[List.set_cons_zero,List.flatMap_cons,Nat.zero_mul,List.take_zero,List.nil_append,Nat.zero_add]
  rw[List.drop_left' (hsz x)]
 | x :: xs,j+1,h=>by
  have ih:=Vo hsz y xs j (by simpa using h)
  simp only[List.set_cons_succ,List.flatMap_cons,ih]
  rw[show(j+1)*sz=sz+j*sz from by rw[Nat.succ_mul];omega]
  rw[List.take_append,List.drop_append,hsz,List.take_of_length_le (l:=cells x) (by rw[hsz];omega),List.drop_of_length_le (l:=cells x) (by rw[hsz];omega)]
  rw[show sz+j*sz - sz=j*sz from by omega,show sz+j*sz+sz - sz=j*sz+sz from by omega]
  simp only[List.append_assoc,List.nil_append]
theorem take_put{α:Type}{l m:List α}{o n L:Nat}(ho:o+n≤L)(hm:m.length=n)(hl:L≤l.length):(l.take o++m++l.drop (o+n)).take L=(l.take L).take o++m++(l.take L).drop (o+n):=by
 rw[List.take_append,List.take_append,List.take_of_length_le (l:=l.take o) (by rw[List.length_take];omega),List.take_of_length_le (l:=m) (by rw[List.length_take];omega),List.take_take,Nat.min_eq_left (by omega),List.drop_take]
 congr 2
 rw[List.length_append,List.length_take,hm];omega
theorem Sat.rowsetN{α:Type}{A:AW}{w:World}(h:Sat A w){i base:Nat}{e:TypeId}{sz:Nat}{cells:α→List Value}{g n cap:Nat}{xs:List α}(hi:A.σ[i]? = some (Au base e sz cells (.slice (some ⟨g,0,none⟩) n cap) xs))(hsz:∀ x,(cells x).length=sz){j:Nat}(hj:j<xs.length)(y:α) :
   ∃ cur,w.heap[g]? = some (.cells cur e (0,0))∧EC sz j+sz≤cur.size∧Sat { A with σ:=A.σ.set i (Au base e sz cells (.slice (some ⟨g,0,none⟩) n cap) (xs.set j y)) } (w.setRow g (cur.toList.take (EC sz j)++cells y++cur.toList.drop (EC sz j+sz)).toArray):=by
 have hown:w.ownsRow base e sz (.slice (some ⟨g,0,none⟩) n cap) xs.length (xs.flatMap cells):=h.at hi
 have hle:j*sz+sz≤xs.length*sz:=by have:=Nat.mul_le_mul_right sz hj;rw[Nat.succ_mul]at this;exact this
 rcases hown.2 with⟨h1, -⟩ | ⟨g',cap',cur,h1,hb,hg,hnc,hcm,hcs,ht⟩
 · cases h1
 · cases h1
   have hlen:=hown.1
   have hcl:xs.length*sz≤cur.size:=by rw[hcs];exact Nat.mul_le_mul_right _ hnc
   refine⟨cur,hg,by rw[GL];omega, ?_⟩
   have hnew:(cur.toList.take (EC sz j)++cells y++cur.toList.drop (EC sz j+sz)).length=cur.size:=by
     simp only[List.length_append,List.length_take,List.length_drop,Array.length_toList,hsz,GL];omega
   refine h.put (w':=w.setRow g _) hi rfl (c':=Au base e sz cells (.slice (some ⟨g,0,none⟩) xs.length cap) (xs.set j y)) rfl (D9 _ _ _ _ _ _) rfl rfl rfl (by simp[World.setRow]) (fun q hq=>setRow_other w g q _ (fun e1=>hq (by simp[Au,MW,Ch.F,Value.ownBlock,e1]))) ?_
   show(w.setRow g _).ownsRow base e sz (.slice (some ⟨g,0,none⟩) xs.length cap) (xs.set j y).length ((xs.set j y).flatMap cells)
   have hfl:((xs.set j y).flatMap cells).length=xs.length*sz:=by
     rw[Vo hsz y xs j hj,List.length_append,List.length_append,List.length_take,List.length_drop,hsz,hlen];omega
   refine⟨by rw[hfl,List.length_set],.inr ⟨g,cap,_,by rw[List.length_set],hb,setRow_heap w g cur _ e _ hg,by rw[List.length_set];exact hnc,hcm,by rw[List.size_toArray,hnew,hcs], ?_⟩⟩
   rw[List.length_set,Vo hsz y xs j hj,GL]
   show List.take _ (cur.toList.take (j*sz)++cells y++cur.toList.drop (j*sz+sz))=_
   rw[take_put hle (hsz y) (by rw[Array.length_toList];exact hcl),ht]
section
variable {P:Program}{N:Nat}{env:Env}{ds:List Deferred}{A:AW}{ops:Array Oper}{l:List Oper}{s:List Kt}{Q:Exit→Act→World→Prop}{c:Code}
def stoN(P:Program)(N:Nat)(ops:Array Oper)(env:Env)(o:Oper):Option (Nat×Nat×Array Value):=match o.op,J4 ops env o,GU env o,Jy N o.dst with
 | .store t a x,some true,true,true=>match DL env a,DL env x,P.info? t with
  | .pointer (some ⟨b,k,none⟩),.agg arr,some f=>match Nat.beq f.size arr.size with
   | true=>some (b,k,arr)
   | false=>none
  | _,_,_=>none
 | _,_,_,_=>none
theorem stoN_run{o:Oper}{b k:Nat}{arr:Array Value}(h:stoN P N ops env o=some (b,k,arr)){a:Act}{w:World}{cur:Array Value}{t0:TypeId}(hst:St N env ds A a w)(hg:w.heap[b]? = some (.cells cur t0 (0,0)))(hfit:k+arr.size≤cur.size)(h1:∀ v∈arr.toList,v.oneCell'=true) :
   Region.wanted o (yielded ops a.tmps)=true∧Jy N o.dst=true∧(execOp a.eval o).run P w = .ok .skip (w.setRow b (cur.toList.take k++arr.toList++cur.toList.drop (k+arr.size)).toArray):=by
 unfold stoN at h
 split at h
 · rename_i t x y hop hw hk hd
   split at h
   · rename_i b' k' arr' f hx hy hf'
     split at h
     · rename_i hsz
       simp only[Option.some.injEq,Prod.mk.injEq]at h
       obtain⟨rfl,rfl,rfl⟩:=h
       refine⟨Dp hw hst,hd, ?_⟩
       rw[Ej hst hk]
       have hsz':=Nat.eq_of_beq_eq_true hsz
       have hst2:=run_storeCells_at P b' k' t0 arr'.toList 0 cur w hg (by simpa using hfit) h1
       simp only[Nat.add_zero,Array.length_toList]at hst2
       unfold execOp
       simp only[hop,hx,hy]
       simp[Instr.storeAt,Instr.sureAddr,storeVar,Value.cells,sizeOf,typeInfo,program,Sem.run,hf',hsz',hst2]
     · cases h
   · cases h
 · cases h
theorem Qv{α:Type}(i j:Nat)(xs:List α)(y:α)(cells:α→List Value)(base:Nat)(e:TypeId)(sz g n cap:Nat)(arr:Array Value)(d:Option Nat)
   (hj:j<xs.length) (K:Lg P N (Gy env d undef) ds { A with σ:=A.σ.set i (Au base e sz cells (.slice (some ⟨g,0,none⟩) n cap) (xs.set j y)) } ops (l.drop 1) s Q)
   (h:(match l with | o :: _=>(stoN P N ops env o).map (fun x=>(x,o.dst)) | []=>none)=some ((g,0+EC sz j,arr),d):=by as_aux_lemma=>kernel_rfl) (ha:arr.toList=cells y:=by rfl) (h1:arr.toList.all Value.oneCell'=true:=by as_aux_lemma=>kernel_rfl) (hi:A.σ[i]? = some (Au base e sz cells (.slice (some ⟨g,0,none⟩) n cap) xs):=by rfl) (hsz:∀ x,(cells x).length=sz:=by intro _;rfl):Lg P N env ds A ops l s Q:=by
 intro a w hst
 cases l with
 | nil=>cases h
 | cons o l =>
   simp only[Option.map_eq_some_iff]at h
   obtain⟨q,hq,h⟩:=h
   simp only[Prod.mk.injEq]at h
   obtain⟨rfl,rfl⟩:=h
   obtain⟨cur,hg,hfit,hs'⟩:=hst.mem.rowsetN hi hsz hj y
   have hsa:arr.size=sz:=by rw[←Array.length_toList,ha,hsz]
   obtain⟨hw,hd,hr⟩:=stoN_run hq hst hg (by rw[hsa,Nat.zero_add];exact hfit) (fun v hv=>List.all_eq_true.1 h1 v hv)
   rw[ha,hsa,Nat.zero_add]at hr
   refine Gs hw (.inr ⟨hr,rfl⟩) ?_
   exact K _ _ (hst.put hs' _ hd _)
end
theorem flat_ix{α:Type}{cells:α→List Value}{sz:Nat}(hsz:∀ x,(cells x).length=sz):∀ (ys:List α) (j:Nat) (u:Value),(ys.flatMap cells)[j]? = some u→∃ i k,j=i*sz+k∧∃ h:i<ys.length,(cells ys[i])[k]? = some u
 | [],j,u,h=>by simp at h
 | y :: ys,j,u,h=>by
  rw[List.flatMap_cons]at h
  by_cases hj:j<(cells y).length
  ·rw[List.getElem?_append_left hj]at h
   exact⟨0,j,by omega,by simp,h⟩
  rw[List.getElem?_append_right (by omega),hsz]at h
  obtain⟨i,k,e,hi,hu⟩:=flat_ix hsz ys _ u h
  rw[hsz]at hj
  exact⟨i+1,k,by rw[Nat.succ_mul];omega,by simpa using hi,by simpa using hu⟩
theorem sl_news{α:Type}{cells:α→List Value}{sz:Nat}{F:Nat→Prop}{W:World}{s:Sl α}(hsz:∀ x,(cells x).length=sz)(h:BD cells sz F W s){b off:Nat}(ha:s.a=some ⟨b,off,none⟩):∀ j u,(s.xs.flatMap cells)[j]? = some u→W.cell? ((⟨b,off,none⟩:Addr).add j)=some u:=by
 intro j u hu
 obtain⟨i,k,rfl,hi,hc⟩:=flat_ix hsz s.xs j u hu
 obtain⟨b',off',ha', -,hh⟩:=h.cells (fun e=>by rw[e]at hi;simp at hi)
 rw[ha]at ha'
 simp only[Option.some.injEq,Addr.mk.injEq,and_true]at ha'
 obtain⟨rfl,rfl⟩:=ha'
 have:=hh i hi k u hc
 have e1:(⟨b,off,none⟩:Addr).add (i*sz+k)=⟨b,off+EC sz i+k,none⟩:=by rw[Iz rfl,GL,Nat.add_assoc]
 rw[e1];exact this
theorem sl_old{α:Type}{cells:α→List Value}{sz:Nat}{F S:Nat→Prop}{w:World}{s:Sl α}(h:BD cells sz F w s)(hF:∀ b,F b→¬ S b):∀ w',(old S w).holds w'→BD cells sz Any w' s:=fun w' hw=>⟨h.len,h.le,fun hne=>by
 obtain⟨b,off,ha,hb,hc⟩:=h.cells hne
 exact⟨b,off,ha,Ac,fun i hi k v hv=>BC (hc i hi k v hv) (hF b hb) w' hw⟩⟩
section
variable {P:Program}{N:Nat}{env:Env}{ds:List Deferred}{A:AW}{ops:Array Oper}{l:List Oper}{s:List Kt}{Q:Exit→Act→World→Prop}{c:Code}
theorem Xt{w:World}{t ty e:TypeId}{f:TypeInfo}{a ya:Option Addr}{n cap cp:Nat}(ht:P.underlying t=some (.slice e))(hf:P.info? e=some f)(hn:n≤cap):(Builtin.append_ #[t,t] ty #[.slice a n cap,.slice ya 0 cp]).run P w = .ok (.slice a n cap) w:=by
 cases a <;> cases ya <;> simp[Builtin.append_,run_underlying ht,sizeOf,typeInfo,hf,Builtin.lenOf,Builtin.firstCells,loadCells,loadCellsFrom,hn,storeCells]
def appS(P:Program)(N:Nat)(ops:Array Oper)(env:Env)(o:Oper):Option (TypeId×Nat×Nat×Value×Option Addr×Nat×Nat):=match X8 o,J4 ops env o,GU env o,Jy N o.dst with
 | some (x,y,t,u),some true,true,true=>match Nat.beq t u,P.underlying t,DL env y with
  | true,some (.slice e),.slice ad m cp=>match P.info? e with
   | some f=>match f.zero with
    | some z=>match Nat.beq z.cells.size f.size&&Nat.blt 0 f.size with
     | true=>some (e,f.size,f.bytes,DL env x,ad,m,cp)
     | false=>none
    | none=>none
   | none=>none
  | _,_,_=>none
 | _,_,_,_=>none
theorem appS_run{α:Type}{base:Nat}{o:Oper}{e:TypeId}{sz by':Nat}{v:Value}{ya:Option Addr}{m cp:Nat}(h:appS P N ops env o=some (e,sz,by',v,ya,m,cp)){i:Nat}{cells:α→List Value}{xs ys:List α}{a:Act}{w:World}(hst:St N env ds A a w)
   (hi:A.σ[i]? = some (Au base e sz cells v xs)) (hsz:∀ x,(cells x).length=sz) (h1:∀ x,∀ u∈cells x,u.oneCell'=true) (hd:BD cells sz Any w ⟨ya,cp,ys⟩) (hm:ys.length=m) (h63:xs.length+m≤maxLen) (hb:(xs.length+m)*by'≤140737488355328) (hbase:base≤A.n) :
   Region.wanted o (yielded ops a.tmps)=true∧Jy N o.dst=true∧∃ a' cap' w',(execOp a.eval o).run P w = .ok (.value (.slice a' (xs++ys).length cap')) w'∧A.n≤w'.heap.size∧Sat { A with n:=w'.heap.size,σ:=A.σ.set i (Au base e sz cells (.slice a' (xs++ys).length cap') (xs++ys)) } w':=by
 unfold appS at h
 split at h
 · rename_i x y t u hop0 hw hk hd0
   have hop:=OU hop0
   split at h
   · rename_i e' ad' m' cp' htu ht hy
     split at h
     · rename_i f' hf
       split at h
       · rename_i z' hz
         split at h
         · rename_i hzz
           simp only[Option.some.injEq,Prod.mk.injEq]at h
           obtain⟨rfl,rfl,rfl,rfl,rfl,rfl,rfl⟩:=h
           have htu':=Nat.eq_of_beq_eq_true htu
           subst htu'
           rw[Bool.and_eq_true]at hzz
           refine⟨Dp hw hst,hd0, ?_⟩
           rw[Ej hst hk]
           by_cases h0:ys=[]
           · subst h0
             have hm0:m'=0:=by simpa using hm.symm
             subst hm0
             have hown:w.ownsRow base e' f'.size (DL env x) xs.length (xs.flatMap cells):=hst.mem.at hi
             have hle:∃ a0 cap0,DL env x = .slice a0 xs.length cap0∧xs.length≤cap0:=by
               rcases hown.2 with⟨e1,e2⟩ | ⟨g,cap,cur,e1, -, -,hnc, -⟩
               · exact⟨none,0,by rw[e1,e2],by omega⟩
               · exact⟨_,cap,e1,hnc⟩
             obtain⟨a0,cap0,hx,hnc⟩:=hle
             refine⟨a0,cap0,w, ?_,by rw[hst.mem.size];exact Nat.le_refl _, ?_⟩
             · unfold execOp
               simp only[hop,resolve,invoke,builtin,Sem.run_bind,Sem.run_pure,Result.andThen_ok,List.map_toArray,List.map_cons,List.map_nil,hy,hx,Xt ht hf hnc,List.append_nil]
             · rw[List.append_nil,←hx,hst.mem.size]
               have hset:A.σ.set i (Au base e' f'.size cells (DL env x) xs)=A.σ:=by
                 obtain⟨hlt,hix⟩:=List.getElem?_eq_some_iff.1 hi
                 rw[←hix,List.set_getElem_self]
               rw[hset];exact hst.mem
           · obtain⟨b,off,ha, -, -⟩:=hd.cells h0
             simp only at ha
             subst ha
             obtain⟨a',cap',w',hr,hsize,hs'⟩:=Xp (ρ:=DL env) (news:=ys.flatMap cells) hop ht hf hz (Nat.eq_of_beq_eq_true hzz.1) (by simpa using hzz.2) hi rfl hy (by
               rw[←hm]
               have:∀ zs:List α,(zs.flatMap cells).length=zs.length*f'.size:=by
                 intro zs
                 induction zs with
                 | nil=>simp
                 | cons z zs ih=>rw[List.flatMap_cons,List.length_append,hsz,ih,List.length_cons,Nat.succ_mul];omega
               exact this ys) (fun u hu=>by
               obtain⟨q, -,hq⟩:=List.mem_flatMap.1 hu
               exact h1 q u hq) hst.mem (sl_news hsz hd rfl) h63 hb hbase
             subst hm
             rw[V6,←List.length_append]at hs'
             rw[←List.length_append]at hr
             exact⟨a',cap',w',hr,hsize,hs'⟩
         · cases h
       · cases h
     · cases h
   · cases h
 · cases h
theorem Nv{α:Type}(base i k:Nat)(xs ys:List α)(ya:Option Addr)(cells:α→List Value)(e:TypeId)(sz by':Nat)(v:Value)(m cp:Nat)(c0:Ch)(d:Option Nat)(h63:xs.length+ys.length≤1000000000000)(hbase:base≤A.n)(hd:∀ w',c0.holds w'→BD cells sz Any w' ⟨ya,cp,ys⟩)
   (K:∀ a' cap' n',A.n≤n'→Lg P N (Gy env d (.slice a' (xs++ys).length cap')) ds { A with n:=n',σ:=A.σ.set i (Au base e sz cells (.slice a' (xs++ys).length cap') (xs++ys)) } ops (l.drop 1) s Q)
   (hm:ys.length=m:=by rfl) (h:(match l with | o :: _=>(appS P N ops env o).map (fun x=>(x,o.dst)) | []=>none)=some ((e,sz,by',v,ya,m,cp),d):=by as_aux_lemma=>kernel_rfl) (hi:A.σ[i]? = some (Au base e sz cells v xs):=by rfl) (hk:A.σ[k]? = some c0:=by rfl) (hsz:∀ x,(cells x).length=sz:=by intro _;rfl) (h1:∀ x,(cells x).all Value.oneCell'=true:=by intro _;rfl) (hb:Nat.ble by' 140=true:=by as_aux_lemma=>kernel_rfl):Lg P N env ds A ops l s Q:=by
 intro a w hst
 have hb':=Nat.le_of_ble_eq_true hb
 have h64:xs.length+m≤1000000000000:=by omega
 cases l with
 | nil=>cases h
 | cons o l =>
   simp only[Option.map_eq_some_iff]at h
   obtain⟨y,hy,h⟩:=h
   simp only[Prod.mk.injEq]at h
   obtain⟨rfl,rfl⟩:=h
   obtain⟨hw,hdst,a',cap',w',hr,hsz',hs'⟩:=appS_run (xs:=xs) (ys:=ys) hy hst hi hsz (fun x u hu=>List.all_eq_true.1 (h1 x) u hu) (hd w (hst.mem.at hk)) hm (by unfold maxLen;omega) (Nat.le_trans (Nat.mul_le_mul h64 hb') (by decide)) hbase
   refine Gs hw (.inl hr) ?_
   exact K a' cap' _ hsz' _ _ (hst.put hs' _ hdst _)
end
section
variable {P:Program}{N:Nat}{env:Env}{ds:List Deferred}{A:AW}{ops:Array Oper}{l:List Oper}{s:List Kt}{Q:Exit→Act→World→Prop}{c:Code}
theorem Om{α:Type}{base:Nat}{e:TypeId}{sz:Nat}{cells:α→List Value}{a:Option Addr}{n cap:Nat}{xs:List α}(i:Nat)(hx:xs.length=n)(K:n≤cap→G P N env ds A c s Q)(hi:A.σ[i]? = some (Au base e sz cells (.slice a n cap) xs):=by rfl):G P N env ds A c s Q:=fun a' w hs=>by
 refine K ?_ a' w hs
 have hown:w.ownsRow base e sz (.slice a n cap) xs.length (xs.flatMap cells):=hs.mem.at hi
 rcases hown.2 with⟨h1,h2⟩ | ⟨g,cap',cur,h1, -, -,hnc, -⟩
 ·omega
 cases h1;omega
end
theorem VK{α:Type}{cells:α→List Value}{sz:Nat}{F:Nat→Prop}{W:World}{a:Option Addr}{cap:Nat}{xs ys:List α}(h:BD cells sz F W ⟨a,cap,xs++ys⟩):BD cells sz F W ⟨a,cap,xs⟩:=by
 refine⟨by have:=h.len;simp at this ⊢;omega,by have:=h.le;simp at this ⊢;omega,fun hne => ?_⟩
 obtain⟨b,off,ha,hF,hc⟩:=h.cells (by simp at hne ⊢;intro h;exact absurd h hne)
 refine⟨b,off,ha,hF,fun i hi k v hv=>hc i (by simp at hi ⊢;omega) k v (by simp only at hi ⊢;rw[List.getElem_append_left hi];exact hv)⟩
theorem far{α:Type}{cells:α→List Value}{sz:Nat}{A:AW}{w W:World}(h:Sat A w)(h0:A.σ[0]? = some (A8 W)){S:Nat→Prop}(hS:∀ b,b<W.heap.size→¬ S b){s:Sl α}(hs:BD cells sz Any W s)(hc:∀ x,0<(cells x).length):BD cells sz (fun b=>¬ S b) w s:=by
 refine⟨hs.len,hs.le,fun hne => ?_⟩
 obtain⟨b,off,ha, -,hh⟩:=hs.cells hne
 refine⟨b,off,ha,hS b ?_,fun i hi k v hv=>(h.ext h0) _ _ _ Ac (hh i hi k v hv)⟩
 have hp:0<s.xs.length:=by
  rcases Nat.eq_zero_or_pos s.xs.length with h | h
  ·exact absurd (List.eq_nil_of_length_eq_zero h) hne
  exact h
 obtain⟨v,hv⟩:∃ v,(cells s.xs[0])[0]? = some v:=⟨_,List.getElem?_eq_getElem (hc _)⟩
 exact cell_lt (hh 0 hp 0 v hv)
theorem Sat.far{A:AW}{w W:World}(h:Sat A w)(h0:A.σ[0]? = some (A8 W)){i:Nat}{c:Ch}(hi:A.σ[i]? = some c)(hne:0≠i)(hr:c.rw=true):∀ b,b<W.heap.size→¬ c.F b:=by
 intro b hb hcb
 exact Ir (d:=(A8 W).key) h.Js (i:=i) (j:=0) (by rw[List.getElem?_map,hi];rfl) (by rw[List.getElem?_map,h0];rfl) (fun e=>hne e.symm) hr b hcb ⟨hb,id⟩
theorem Sat.two{A:AW}{w:World}(h:Sat A w){i j:Nat}{c d:Ch}(hi:A.σ[i]? = some c)(hj:A.σ[j]? = some d)(hne:i≠j)(hr:c.rw=true):∀ b,c.F b→¬ d.F b :=
 fun b hcb hdb=>Ir h.Js (i:=i) (j:=j) (by rw[List.getElem?_map,hi];rfl) (by rw[List.getElem?_map,hj];rfl) hne hr b hcb hdb
theorem Sat.turn{A:AW}{w w':World}(h:Sat A w)(is js:List Nat){cs kept new:List Ch}(hn:nodupB is=true)(hp:picks is A.σ=some kept)(hjs:picks js A.σ=some cs)(hij:is.all (fun q => !js.contains q)=true)(hrw:∀ c∈cs,c.rw=true)(hk:AV (EO cs) w w')
   (h1:∀ c∈new,c.holds w'∧c.stable∧∀ b,c.F b→b<w'.heap.size∧(EO cs b∨w.heap.size≤b)) (h2:(new.map Ch.key).Pairwise Key.apart):Sat { A with n:=w'.heap.size,σ:=kept++new } w':=by
 have hap:∀ d∈kept,∀ b,d.F b→¬ EO cs b:=by
   rintro d hd b hb ⟨c,hc,hcb⟩
   obtain⟨q,hq,hqs⟩:=Jv hp d hd
   obtain⟨p,hp',hps⟩:=Jv hjs c hc
   refine Ir h.Js (i:=p) (j:=q) (by rw[List.getElem?_map,hps];rfl) (by rw[List.getElem?_map,hqs];rfl) (fun e => ?_) (hrw c hc) b hcb hb
   subst e
   have:=List.all_eq_true.1 hij p hq
   simp[hp']at this
 refine h.exch is hn hp hk hap new (fun c hc=>⟨(h1 c hc).1,(h1 c hc).2.1,fun b hb=>((h1 c hc).2.2 b hb).1⟩) h2 ?_
 intro d hd c hc _ b hb hcb
 rcases((h1 c hc).2.2 b hcb).2 with h3 | h3
 · exact hap d hd b hb h3
 · have:=h.bnd d (BI hp d hd) b hb
   rw[←h.size]at this;omega
section
variable {P:Program}{N:Nat}{env:Env}{ds:List Deferred}{A:AW}{ops:Array Oper}{l:List Oper}{s:List Kt}{Q:Exit→Act→World→Prop}{c:Code}
theorem UD{ch:List PanicEntry}:∀ (s:List Kt) {a:Act} {w:World},Q (.panic ch) a w→QQ P s Q (.panic ch) a w
 | [],_,_,h=>h
 | .seq _ :: s,_,_,h=>UD s h
 | .blk _ :: s,_,_,h=>UD s h
 | .inv _ :: s,_,_,h=>UD s h
theorem e_panic{ch:List PanicEntry}(h:∀ a w,St N env ds A a w→Q (.panic ch) a w):E P N env ds A (.panic ch) s Q:=fun a w hs=>UD s (h a w hs)
theorem Ba{fn:Func}{R:Ending→World→Prop}{ch:List PanicEntry}(K:∀ w,Sat A w→R (.panicked ch) w):E P N env [] A (.panic ch) s (bodyPost P fn R):=e_panic (fun a w hs=>⟨hs.df,K w hs.mem⟩)
theorem CJ(cs:List LC)(vs:List Prop)(f:FuncId)(args:Array Value)(d:Option Nat)(hv:Fv vs)
   (hc:∀ w,Sat A w→Calls P f args w fun e w'=>(∃ v A',e = .returned v∧Sat A' w'∧Lg P N (Gy env d v) ds A' ops (l.drop 1) s Q)∨(∃ ch A',e = .panicked ch∧Sat A' w'∧E P N env ds A' (.panic ch) s Q)) (h:OY P env A cs ops l=some (vs,f,args,d):=by as_aux_lemma=>kernel_rfl) (hd:Jy N d=true:=by kernel_rfl):Lg P N env ds A ops l s Q:=by
 intro a w hs
 cases l with
 | nil=>simp[OY]at h
 | cons o l =>
   simp only[OY]at h
   split at h
   · rename_i vs' f' args' A' hw hk hr
     simp only[Option.some.injEq,Prod.mk.injEq]at h
     obtain⟨rfl,rfl,rfl,rfl⟩:=h
     obtain⟨hrun, -⟩:=LU _ _ _ _ _ _ _ hr hv w hs.mem.all
     unfold wpList
     rw[if_pos (Dp hw hs)]
     left
     unfold Oper.wp
     rw[Ej hs hk,hrun]
     refine(hc w hs.mem).mono ?_
     rintro e w' (⟨v,A1,rfl,hs1,K⟩ | ⟨ch,A1,rfl,hs1,K⟩)
     · exact K _ _ (hs.put hs1 _ hd v)
     · exact K _ _ ⟨hs.sz,hs.df,hs.kn,hs1⟩
   · cases h
def panicA(ops:Array Oper)(env:Env):List Oper→Option Value
 | []=>none
 | o :: _=>match o.op,J4 ops env o,GU env o with
  | .panic x,some true,true=>match DL env x with
   | .iface t v=>some (.iface t v)
   | _=>none
  | _,_,_=>none
theorem G6(v:Value)(K:E P N env ds A (.panic [{ v,recovered:=false }]) s Q)(h:panicA ops env l=some v:=by as_aux_lemma=>kernel_rfl):Lg P N env ds A ops l s Q:=by
 intro a w hs
 cases l with
 | nil=>cases h
 | cons o l =>
  simp only[panicA]at h
  split at h
  ·rename_i x hop hw hk
   split at h
   ·rename_i t u hx
    simp only[Option.some.injEq]at h
    subst h
    unfold wpList
    rw[if_pos (Dp hw hs)]
    left
    unfold Oper.wp
    rw[Ej hs hk]
    have hr:(execOp (DL env) o).run P w = .halt (.panic (.iface t u)) w:=by
     unfold execOp
     simp only[hop,hx]
     rfl
    rw[hr]
    exact K a w hs
   cases h
  cases h
def deferA(ops:Array Oper)(env:Env):List Oper→Option Deferred
 | []=>none
 | o :: _=>match o.op,J4 ops env o,GU env o,o.dst with
  | .defer c,some true,true,none=>match c.callee with
   | .value f=>match DL env f with
    | .func (.func i) first cap=>some { target:= .fn (.func i) cap,args:=first++c.args.map (DL env) }
    | _=>none
   | _=>none
  | _,_,_,_=>none
theorem l_defer(d:Deferred)(K:Lg P N env (d :: ds) A ops (l.drop 1) s Q)(h:deferA ops env l=some d:=by as_aux_lemma=>kernel_rfl):Lg P N env ds A ops l s Q:=by
 intro a w hs
 cases l with
 | nil=>cases h
 | cons o l =>
  simp only[deferA]at h
  split at h
  ·rename_i c hop hw hk hd
   split at h
   ·rename_i f hf
    split at h
    ·rename_i i first cap hv
     simp only[Option.some.injEq]at h
     subst h
     unfold wpList
     rw[if_pos (Dp hw hs)]
     left
     unfold Oper.wp
     rw[Ej hs hk]
     have hr:(execOp (DL env) o).run P w = .ok (.defer { target:= .fn (.func i) cap,args:=first++c.args.map (DL env) }) w:=by
      unfold execOp
      simp only[hop,resolve,hf,hv]
      rfl
     rw[hr]
     show wpList P ops (QQ P s Q) l (({ a with defers:=_ :: a.defers }:Act).put o.dst undef) w
     rw[hd]
     exact K _ w ⟨hs.sz,by show _ :: a.defers=_ :: ds;rw[hs.df],hs.kn,hs.mem⟩
    cases h
   cases h
  cases h
end
theorem ZK{P:Program}{f:FuncId}{fn:Func}{c:Code}{args:List Value}{w:World}{R:Ending→World→Prop}(N:Nat)(A:AW)(hf:P.funcs[f]? = some fn)(hb:fn.body=some c)(hn:fn.ntmps=N)(hl:Nat.ble args.length N=true)(hs:Sat A w)
   (h:G P N (YA args 0) [] A c [] (bodyPostD P fn R)):Calls P f args.toArray w R:=by
 refine calls_of_wp_defers hf hb (h _ _ ⟨?_,rfl, ?_,hs⟩)
 · have:=Nat.le_of_ble_eq_true hl
   simp[hn];omega
 · intro t v ht
   obtain⟨-,h2⟩:=WJ args 0 t v ht
   have hlt:t<args.length:=(List.getElem?_eq_some_iff.1 h2).1
   simp only[Array.getD_eq_getD_getElem?]
   rw[Array.getElem?_append_left (by simpa using hlt)]
   simp at h2 ⊢
   rw[h2];rfl
section
variable {P:Program}{N:Nat}{env:Env}{A:AW}{s:List Kt}{fn:Func}{R:Ending→World→Prop}
theorem Yb{u:FrameMode}(hu:u ≠ .run){fv:Fn}{cap dargs args:Array Value}{f:FuncId}{a:Act}{w:World}(hst:St N env [{ target:= .fn fv cap,args:=dargs }] A a w)(hinv:∀ w,(invoke (.fn fv cap) dargs).run P w = .ok (.enter f args) w)
   (hc:∀ w,Sat A w→CallsD P f args u w fun e u' w'=>∃ v,e = .returned v∧settle u' = .returning∧∃ A',Sat A' w'∧E P N env [] A' .ret [] (bodyPost P fn R)):Leaves P fn a.tmps R a.defers u w:=by
 rw[hst.df]
 refine leaves_cons hu (hinv w) ((hc w hst.mem).mono ?_)
 rintro e u' w' ⟨v,rfl,hu',A',hS,K⟩
 show Leaves P fn a.tmps R [] (settle u') w'
 rw[hu']
 obtain⟨-,v',hr,hR⟩:=K { a with defers:=[] } w' ⟨hst.sz,rfl,hst.kn,hS⟩
 exact⟨v',hr,hR⟩
theorem e_retD{fv:Fn}{cap dargs args:Array Value}{f:FuncId}(hinv:∀ w,(invoke (.fn fv cap) dargs).run P w = .ok (.enter f args) w)
   (hc:∀ w,Sat A w→CallsD P f args .returning w fun e u' w'=>∃ v,e = .returned v∧settle u' = .returning∧∃ A',Sat A' w'∧E P N env [] A' .ret [] (bodyPost P fn R)):E P N env [{ target:= .fn fv cap,args:=dargs }] A .ret s (bodyPostD P fn R) :=
 fun a w hst=>Tm s (Yb (by simp) hst hinv hc)
theorem MZ{ch:List PanicEntry}{fv:Fn}{cap dargs args:Array Value}{f:FuncId}(hinv:∀ w,(invoke (.fn fv cap) dargs).run P w = .ok (.enter f args) w)
   (hc:∀ w,Sat A w→CallsD P f args (.panicking ch) w fun e u' w'=>∃ v,e = .returned v∧settle u' = .returning∧∃ A',Sat A' w'∧E P N env [] A' .ret [] (bodyPost P fn R)):E P N env [{ target:= .fn fv cap,args:=dargs }] A (.panic ch) s (bodyPostD P fn R) :=
 e_panic (fun a w hst=>Yb (by simp) hst hinv hc)
end
open Go Go.Lib Go.Proofs.Ytjmcjekhgpakoaa.Mem
theorem Sat.QB{A:AW}{w w':World}(h:Sat A w){i:Nat}{c c':Ch}(hi:A.σ[i]? = some c)(hrw:c.rw=true)(hrw':c'.rw=true)(hk:AV c.F w w')(hh:c'.holds w')(hst:c'.stable)
   (hF:∀ b,c'.F b→c.F b∨w.heap.size≤b) (hb:∀ b,c'.F b→b<w'.heap.size):Sat { A with n:=w'.heap.size,σ:=A.σ.set i c' } w':=by
 obtain⟨hlt,hix⟩:=List.getElem?_eq_some_iff.1 hi
 have hsize:A.n≤w'.heap.size:=by have:=hk.size;rw[h.size]at this;exact this
 have hap:∀ j d,j≠i→A.σ[j]? = some d→∀ b,d.F b→¬ c.F b:=by
   intro j d hji hj b hd hb
   exact Ir h.Js (i:=i) (j:=j) (by rw[List.getElem?_map,hi];rfl) (by rw[List.getElem?_map,hj];rfl) (Ne.symm hji) hrw b hb hd
 refine⟨hk.os.trans h.os,hk.tape.trans h.tape,hk.output.trans h.output,rfl, ?_, ?_, ?_, ?_⟩
 · intro d hd
   obtain⟨j,hj⟩:=List.getElem?_of_mem hd
   by_cases hij:i=j
   · subst hij;rw[List.getElem?_set_self hlt]at hj;cases hj;exact hh
   · rw[List.getElem?_set_ne hij]at hj
     have hm:=List.mem_of_getElem? hj
     exact h.KQ d hm w w' (fun b hbd=>hk.block b (by rw[h.size];exact h.bnd d hm b hbd) (hap j d (Ne.symm hij) hj b hbd)) (h.all d hm)
 · intro d hd b hbd
   show b<w'.heap.size
   rcases List.mem_or_eq_of_mem_set hd with hd | rfl
   · have:=h.bnd d hd b hbd;omega
   · exact hb b hbd
 · intro d hd
   rcases List.mem_or_eq_of_mem_set hd with hd | rfl
   · exact h.KQ d hd
   · exact hst
 · show((A.σ.set i _).map Ch.key).Pairwise Key.apart
   rw[List.map_set,List.pairwise_iff_getElem]
   intro p q hp hq hpq
   simp only[List.length_set,List.length_map]at hp hq
   have key:∀ j (hj:j<A.σ.length),j≠i→Key.apart (Ch.key c') (Ch.key A.σ[j]):=by
     intro j hj hji _ b hbc hd
     have hjs:A.σ[j]? = some A.σ[j]:=by simp[hj]
     rcases hF b hbc with e1 | e1
     · exact hap j _ hji hjs b hd e1
     · have:=h.bnd _ (List.mem_of_getElem? hjs) b hd
       rw[←h.size]at this;omega
   simp only[List.getElem_set,List.getElem_map]
   by_cases h1:i=p
   · subst h1
     rw[if_pos rfl,if_neg (by omega)]
     exact key q hq (by omega)
   · rw[if_neg h1]
     by_cases h2:i=q
     · subst h2;rw[if_pos rfl];exact Key.QH (key p hp (by omega))
     · rw[if_neg h2]
       exact U0 h.Js (i:=p) (j:=q) (by simp[hp]) (by simp[hq]) (by omega)
abbrev Bh:Int→List Value:=fun x:Int=>[Value.int .u8 x]
def Ci(s:ByteArray):List Int:=s.data.toList.map fun b=>(b.toNat:Int)
theorem CV(s:ByteArray):(Ci s).length=s.size:=by unfold Ci;rw[List.length_map,Array.length_toList];rfl
theorem u8_flat(xs:List Int):xs.flatMap Bh=xs.map (Value.int .u8):=by
 induction xs with
 | nil=>rfl
 | cons x xs ih=>rw[List.flatMap_cons,ih];rfl
theorem strB_cells(s:ByteArray):strCells s=(Ci s).flatMap Bh:=by
 rw[u8_flat];unfold strCells Ci;rw[List.map_map];rfl
theorem run_str{P:Program}(w:World)(base:Nat)(t u ty e:TypeId)(i:TypeInfo)(ht:P.underlying t=some (.slice e))(hu:P.underlying u=some .string)(hi:P.info? e=some i)(hz:i.zero=some (.int .u8 0))(hsize:i.size=1)(hby:i.bytes=1)
   (v:Value) (n:Nat) (xs:List Value) (hown:w.ownsRow base e 1 v n xs) (s:ByteArray) (h63:n+s.size≤maxLen) (hbytes:n+s.size≤140737488355328) (hbase:base≤w.heap.size) :
   ∃ v' w',(Builtin.append_ #[t,u] ty #[v,.string s]).run P w = .ok v' w'∧w'.ownsRow base e 1 v' (n+s.size) (xs++strCells s)∧w.grownBy w' v.ownBlock∧(∀ b,v'.ownBlock=some b→v.ownBlock=some b∨w.heap.size≤b):=by
 obtain⟨v',w',hr,ho,hg, -⟩:=run_append_own_string (P:=P) w base t u ty e i ht hu hi hz hsize hby v n xs hown s h63 hbytes hbase
 refine⟨v',w',hr,ho,hg,fun b hb => ?_⟩
 rcases hown.2 with⟨rfl,h0⟩ | ⟨g,cap,cur,rfl,hbg,hgg,hnc,hcm,hcs,htake⟩
 · obtain⟨v2,w2,hr2,ho2, -⟩:=run_append_own_string (P:=P) w w.heap.size t u ty e i ht hu hi hz hsize hby (.slice none 0 0) n xs ⟨hown.1,.inl ⟨rfl,h0⟩⟩ s h63 hbytes (Nat.le_refl _)
   rw[hr]at hr2
   injection hr2 with e1 e2
   subst e1
   exact .inr (ho2.lt b hb).1
 · have hxl:xs.length=n:=by simpa using hown.1
   by_cases hroom:n+s.size≤cap
   · have hcs':cur.size=cap:=by simpa using hcs
     have hr2:=run_append_room_string (P:=P) w t u ty e i ht hu hi hsize g n cap cur hgg s hroom (by omega)
     rw[hr]at hr2
     injection hr2 with e1 e2
     subst e1
     exact .inl hb
   · have holds:∀ j u,xs[j]? = some u→w.cell? ((⟨g,0,none⟩:Addr).add j)=some u:=hown.cells (g:=g) rfl
     have hr2:=run_append_grow_string (P:=P) w t u ty e i (.int .u8 0) ht hu hi hz ⟨g,0,none⟩ n cap xs (by rw[hsize];simpa using hxl) holds s (by omega) (by simp only[maxLen]at h63;omega) (by rw[hby];exact growslice_fits (by omega) (by omega))
     rw[hr]at hr2
     injection hr2 with e1 e2
     subst e1
     simp only[Value.ownBlock,Option.some.injEq]at hb
     exact .inr (by omega)
section
variable {P:Program}{N:Nat}{env:Env}{ds:List Deferred}{A:AW}{ops:Array Oper}{l:List Oper}{s:List Kt}{Q:Exit→Act→World→Prop}{c:Code}
def strA(P:Program)(N:Nat)(ops:Array Oper)(env:Env)(o:Oper):Option (TypeId×Value×ByteArray):=match X8 o,J4 ops env o,GU env o,Jy N o.dst with
 | some (x,y,t,u),some true,true,true=>match P.underlying t,P.underlying u,DL env y with
  | some (.slice e),some .string,.string s=>match P.info? e with
   | some f=>match f.zero with
    | some (.int .u8 (.ofNat 0))=>match Nat.beq f.size 1&&Nat.beq f.bytes 1 with
     | true=>some (e,DL env x,s)
     | false=>none
    | _=>none
   | none=>none
  | _,_,_=>none
 | _,_,_,_=>none
theorem strA_run{base:Nat}{o:Oper}{e:TypeId}{v:Value}{t:ByteArray}(h:strA P N ops env o=some (e,v,t)){i:Nat}{xs:List Int}{a:Act}{w:World}(hst:St N env ds A a w)
   (hi:A.σ[i]? = some (Au base e 1 Bh v xs)) (h63:xs.length+t.size≤140737488355328) (hbase:base≤A.n) :
   Region.wanted o (yielded ops a.tmps)=true∧Jy N o.dst=true∧∃ a' cap' w',(execOp a.eval o).run P w = .ok (.value (.slice a' (xs++Ci t).length cap')) w'∧A.n≤w'.heap.size∧Sat { A with n:=w'.heap.size,σ:=A.σ.set i (Au base e 1 Bh (.slice a' (xs++Ci t).length cap') (xs++Ci t)) } w':=by
 unfold strA at h
 split at h
 · rename_i x y ty u hop0 hw hk hd0
   have hop:=OU hop0
   split at h
   · rename_i e' s' ht hu hy
     split at h
     · rename_i f' hf
       split at h
       · rename_i hz
         split at h
         · rename_i hzz
           simp only[Option.some.injEq,Prod.mk.injEq]at h
           obtain⟨rfl,rfl,rfl⟩:=h
           rw[Bool.and_eq_true]at hzz
           refine⟨Dp hw hst,hd0, ?_⟩
           rw[Ej hst hk]
           have hown:w.ownsRow base e' 1 (DL env x) xs.length (xs.flatMap Bh):=hst.mem.at hi
           obtain⟨v',w',hr,ho,hg,hat⟩:=run_str (P:=P) w base ty u o.type e' f' ht hu hf hz (Nat.eq_of_beq_eq_true hzz.1) (Nat.eq_of_beq_eq_true hzz.2) (DL env x) xs.length (xs.flatMap Bh) hown s' (by unfold maxLen;omega) h63 (by rw[hst.mem.size];exact hbase)
           rw[strB_cells,←List.flatMap_append,←CV s',←List.length_append]at ho
           obtain⟨a',cap',rfl⟩:=SN ho
           have hk':AV (fun k=>some k=(DL env x).ownBlock) w w':=AV.of_grownBy hg
           have hsize:A.n≤w'.heap.size:=by have:=hk'.size;rw[hst.mem.size]at this;exact this
           refine⟨a',cap',w', ?_,hsize, ?_⟩
           · unfold execOp
             simp only[hop,resolve,invoke,builtin,Sem.run_bind,Sem.run_pure,Result.andThen_ok,List.map_toArray,List.map_cons,List.map_nil,hy,hr]
           · exact hst.mem.QB hi rfl rfl ⟨hk'.os,hk'.tape,hk'.output,hk'.size,fun b hb hS=>hk'.block b hb (fun e1=>hS e1.symm)⟩ ho (D9 _ _ _ _ _ _) hat (fun b hb=>(ho.lt b hb).2)
         · cases h
       · cases h
     · cases h
   · cases h
 · cases h
theorem l_pushStr(base i:Nat)(xs:List Int)(e:TypeId)(v:Value)(t:ByteArray)(d:Option Nat)(h63:xs.length+t.size≤140737488355328)(hbase:base≤A.n)
   (K:∀ a' cap' n',A.n≤n'→Lg P N (Gy env d (.slice a' (xs++Ci t).length cap')) ds { A with n:=n',σ:=A.σ.set i (Au base e 1 Bh (.slice a' (xs++Ci t).length cap') (xs++Ci t)) } ops (l.drop 1) s Q)
   (h:(match l with | o :: _=>(strA P N ops env o).map (fun x=>(x,o.dst)) | []=>none)=some ((e,v,t),d):=by as_aux_lemma=>kernel_rfl) (hi:A.σ[i]? = some (Au base e 1 Bh v xs):=by rfl):Lg P N env ds A ops l s Q:=by
 intro a w hst
 cases l with
 | nil=>cases h
 | cons o l =>
   simp only[Option.map_eq_some_iff]at h
   obtain⟨y,hy,h⟩:=h
   simp only[Prod.mk.injEq]at h
   obtain⟨rfl,rfl⟩:=h
   obtain⟨hw,hdst,a',cap',w',hr,hsz',hs'⟩:=strA_run (xs:=xs) hy hst hi h63 hbase
   refine Gs hw (.inl hr) ?_
   exact K a' cap' _ hsz' _ _ (hst.put hs' _ hdst _)
theorem wo_pushStr{σC:List Ch}{late fuel:Nat}{listed:List Bool}{p:Nat}(base i:Nat)(xs:List Int)(e:TypeId)(v:Value)(t:ByteArray)(d:Option Nat)(cix:List Nat)(h63:xs.length+t.size≤140737488355328)(hbase:base≤A.n)
   (hC:Nat.beq p late=true∨(picks cix A.σ=some σC∧cix.contains i=false))
   (K:∀ a' cap' n',A.n≤n'→Wg P N (Gy env d (.slice a' (xs++Ci t).length cap')) ds { A with n:=n',σ:=A.σ.set i (Au base e 1 Bh (.slice a' (xs++Ci t).length cap') (xs++Ci t)) } ops σC late fuel (listed.set p true) s Q)
   (hp:Nat.blt p listed.length=true:=by rfl)
   (h:(match ops[p]? with | some o=>(strA P N ops env o).map (fun x=>(x,o.dst)) | none=>none)=some ((e,v,t),d):=by as_aux_lemma=>kernel_rfl) (hi:A.σ[i]? = some (Au base e 1 Bh v xs):=by rfl):WO P N env ds A ops σC late fuel listed s Q p:=by
 intro a w hst hcl
 have hlt:p<listed.length:=by simpa using hp
 split at h
 · rename_i o ho
   simp only[Option.map_eq_some_iff]at h
   obtain⟨y,hy,h⟩:=h
   simp only[Prod.mk.injEq]at h
   obtain⟨rfl,rfl⟩:=h
   obtain⟨hw,hd,a',cap',w',hr,hsz,hs'⟩:=strA_run (xs:=xs) hy hst hi h63 hbase
   unfold wpOp
   simp only[ho]
   rw[if_pos hw]
   left
   unfold Oper.wp
   rw[hr]
   have hcs:(listed.set p true).toArray.getD late false=false→Cs σC w':=by
     intro hl
     rcases hC with hC | ⟨hC,hci⟩
     · have:=Nat.eq_of_beq_eq_true hC
       subst this
       simp[hlt]at hl
     · intro c hc
       obtain⟨q,hq,hqs⟩:=Jv hC c hc
       have hqi:i≠q:=fun e1=>by subst e1;simp[hq]at hci
       refine hs'.all c (List.mem_of_getElem? (i:=q) ?_)
       show(A.σ.set i _)[q]? = some c
       rw[List.getElem?_set_ne hqi];exact hqs
   exact⟨hcs,K a' cap' _ hsz _ _ (hst.put hs' _ hd _) hcl hcs⟩
 · cases h
theorem l_blkrow{α:Type}(i b base:Nat)(e:TypeId)(sz:Nat)(cells:α→List Value)(xs:List α)(cs:Array Value)(hb:base≤b)(K:Lg P N env ds { A with σ:=A.σ.set i (Au base e sz cells (.slice (some ⟨b,0,none⟩) xs.length xs.length) xs) } ops l s Q)(hi:A.σ[i]? = some (.blk b (.cells cs e (0,0)) true):=by rfl)(hx:xs.flatMap cells=cs.toList:=by rfl)(hl:cs.size=xs.length*sz:=by rfl)(hm:Nat.ble xs.length 1000=true:=by rfl):Lg P N env ds A ops l s Q :=
 fun a w hst=>K a w ⟨hst.sz,hst.df,hst.kn,hst.mem.blkrow hi hx hl hb (Nat.le_trans (Nat.le_of_ble_eq_true hm) (by decide))⟩
def strOf(xs:List Int):ByteArray:=⟨(xs.map (fun x=>UInt8.ofNat x.toNat)).toArray⟩
def XD(P:Program)(N:Nat)(ops:Array Oper)(env:Env):List Oper→Option (Option Addr×Nat×Nat×Option Nat)
 | []=>none
 | o :: _=>match o.op,J4 ops env o,GU env o,Jy N o.dst with
  | .convert src dst x,some true,true,true=>match P.underlying src,P.underlying dst,DL env x with
   | some (.slice e),some .string,.slice a n cap=>match P.underlying e with
    | some (.int .u8)=>some (a,n,cap,o.dst)
    | _=>none
   | _,_,_=>none
  | _,_,_,_=>none
theorem N7(k:Nat)(xs:List Int)(a:Option Addr)(n cap:Nat)(c0:Ch)(d:Option Nat)(hr:∀ x∈xs,0≤x∧x<256)(hd:∀ w',c0.holds w'→BD Bh 1 Any w' ⟨a,cap,xs⟩)
   (K:Lg P N (Gy env d (.string (strOf xs))) ds A ops (l.drop 1) s Q) (hn:xs.length=n:=by rfl) (h:XD P N ops env l=some (a,n,cap,d):=by as_aux_lemma=>kernel_rfl) (hk:A.σ[k]? = some c0:=by rfl):Lg P N env ds A ops l s Q:=by
 intro a0 w hst
 cases l with
 | nil=>cases h
 | cons o l =>
   simp only[XD]at h
   split at h
   · rename_i src dst x hop hw hkn hdst
     split at h
     · rename_i e a1 n1 cap1 hs hd1 hx
       split at h
       · rename_i he
         simp only[Option.some.injEq,Prod.mk.injEq]at h
         obtain⟨rfl,rfl,rfl,rfl⟩:=h
         have hsl:=hd w (hst.mem.at hk)
         have hrun:(convert src dst (.slice a1 n1 cap1)).run P w = .ok (.string (strOf xs)) w:=by
           subst hn
           by_cases h0:xs=[]
           · subst h0
             have:=run_convert_bytes_string (P:=P) w src dst e a1 0 cap1 hs he hd1
             rw[show([]:List Int).length=0 from rfl,this]
             cases a1 <;> simp[Conv.bytesToString,Builtin.firstCells,loadCells,loadCellsFrom,strOf] <;> rfl
           · obtain⟨b,off,ha, -,hc⟩:=hsl.cells h0
             simp only at ha
             subst ha
             have:=run_convert_bytes_back (P:=P) w src dst e ⟨b,off,none⟩ cap1 (xs.map (fun x=>UInt8.ofNat x.toNat)) hs he hd1 (fun j hj=>by
               rw[List.length_map]at hj
               have h1:=hc j hj 0 (.int .u8 xs[j]) rfl
               rw[GL,Nat.mul_one,Nat.add_zero]at h1
               rw[Iz rfl,h1,List.getElem_map]
               have h2:=hr xs[j] (List.getElem_mem hj)
               congr 2
               rw[UInt8.toNat_ofNat_of_lt' (by show _<256;omega)]
               omega)
             rw[List.length_map]at this
             exact this
         have hr2:(execOp a0.eval o).run P w = .ok (.value (.string (strOf xs))) w:=by
           rw[Ej hst hkn]
           unfold execOp
           simp only[hop,hx,Sem.run_bind,hrun,Result.andThen_ok,Sem.run_pure]
         refine Gs (Dp hw hst) (.inl hr2) ?_
         exact K _ _ (hst.put hst.mem _ hdst _)
       · cases h
     · cases h
   · cases h
def copyOf(o:Oper):Option (Operand×Operand×TypeId×TypeId):=match o.op with
 | .call c=>match c.callee,c.args.toList,c.argTypes.toList with
  | .builtin .copy,[x,y],[t,u]=>some (x,y,t,u)
  | _,_,_=>none
 | _=>none
theorem copyOf_spec{o:Oper}{x y:Operand}{t u:TypeId}(h:copyOf o=some (x,y,t,u)):o.op = .call { callee:= .builtin .copy,args:= #[x,y],argTypes:= #[t,u] }:=by
 unfold copyOf at h
 split at h
 ·rename_i c hop
  split at h
  ·rename_i x' y' t' u' h1 h2 h3
   simp only[Option.some.injEq,Prod.mk.injEq]at h
   obtain⟨rfl,rfl,rfl,rfl⟩:=h
   obtain⟨c1,c2,c3⟩:=c
   simp only at h1 h2 h3
   rw[hop,h1]
   congr 2
   ·apply Array.ext';rw[h2]
   apply Array.ext';rw[h3]
  cases h
 cases h
def copyA(P:Program)(N:Nat)(ops:Array Oper)(env:Env)(o:Oper):Option (TypeId×Nat×Nat×Nat×Option Addr×Nat×Nat):=match copyOf o,J4 ops env o,GU env o,Jy N o.dst with
 | some (x,y,t,_),some true,true,true=>match P.underlying t,DL env x,DL env y with
  | some (.slice e),.slice (some ⟨g,0,none⟩) n c,.slice ya m cp=>match P.info? e with
   | some f=>match Nat.beq f.size 1 with
    | true=>some (e,g,n,c,ya,m,cp)
    | false=>none
   | none=>none
  | _,_,_=>none
 | _,_,_,_=>none
theorem copyA_run{α:Type}{base:Nat}{o:Oper}{e:TypeId}{g n c' m cp:Nat}{ya:Option Addr}(h:copyA P N ops env o=some (e,g,n,c',ya,m,cp)){i:Nat}{cells:α→List Value}{xs ys:List α}{a:Act}{w:World}(hst:St N env ds A a w)
   (hi:A.σ[i]? = some (Au base e 1 cells (.slice (some ⟨g,0,none⟩) n c') xs)) (hsz:∀ x,(cells x).length=1) (h1:∀ x,∀ u∈cells x,u.oneCell'=true) (hd:BD cells 1 Any w ⟨ya,cp,ys⟩) (hm:ys.length=m) (hn:xs.length=n) (hmn:m=n) :
   Region.wanted o (yielded ops a.tmps)=true∧Jy N o.dst=true∧∃ w',(execOp a.eval o).run P w = .ok (.value (.int .i64 (n:Int))) w'∧A.n≤w'.heap.size∧Sat { A with n:=w'.heap.size,σ:=A.σ.set i (Au base e 1 cells (.slice (some ⟨g,0,none⟩) n c') ys) } w':=by
 unfold copyA at h
 split at h
 · rename_i x y t u hop0 hw hk hd0
   have hop:=copyOf_spec hop0
   split at h
   · rename_i e' g' n' c2 ya' m' cp' ht hx hy
     split at h
     · rename_i f' hf
       split at h
       · rename_i hs1
         simp only[Option.some.injEq,Prod.mk.injEq]at h
         obtain⟨rfl,rfl,rfl,rfl,rfl,rfl,rfl⟩:=h
         subst hmn
         refine⟨Dp hw hst,hd0, ?_⟩
         rw[Ej hst hk]
         have hinfo:(P.info? e').map (·.size)=some 1:=by rw[hf];exact congrArg some (Nat.eq_of_beq_eq_true hs1)
         have hfl:∀ zs:List α,(zs.flatMap cells).length=zs.length:=by
           intro zs
           induction zs with
           | nil=>rfl
           | cons z zs ih=>rw[List.flatMap_cons,List.length_append,hsz,ih,List.length_cons];omega
         by_cases h0:ys=[]
         · subst h0
           have hm0:m'=0:=by simpa using hm.symm
           subst hm0
           have hx0:xs=[]:=List.eq_nil_of_length_eq_zero hn
           subst hx0
           refine⟨w, ?_,by rw[hst.mem.size];exact Nat.le_refl _, ?_⟩
           · unfold execOp
             simp only[hop,resolve,invoke,builtin,Sem.run_bind,Sem.run_pure,Result.andThen_ok,List.map_toArray,List.map_cons,List.map_nil,hy,hx,run_copy_none (P:=P) w t u o.type e' (some ⟨g',0,none⟩) ya' 0 c2 0 cp' ht hinfo rfl]
             rfl
           · rw[hst.mem.size]
             obtain⟨hlt,hix⟩:=List.getElem?_eq_some_iff.1 hi
             rw[←hix,List.set_getElem_self];exact hst.mem
         · obtain⟨b,off,ha, -, -⟩:=hd.cells h0
           simp only at ha
           subst ha
           have hown:w.ownsRow base e' 1 (.slice (some ⟨g',0,none⟩) m' c2) xs.length (xs.flatMap cells):=hst.mem.at hi
           have hyp:0<ys.length:=by
             rcases Nat.eq_zero_or_pos ys.length with h | h
             · exact absurd (List.eq_nil_of_length_eq_zero h) h0
             · exact h
           rcases hown.2 with⟨h2,h3⟩ | ⟨g2,cap2,cur,h2,hbg,hg,hnc,hcm,hcs,htake⟩
           · cases h2
           · cases h2
             have hcl:(ys.flatMap cells).length=xs.length:=by rw[hfl,hm]
             have hr:=run_copy_row (P:=P) w t u o.type e' g' 0 xs.length c2 ⟨b,off,none⟩ xs.length cp' cur e' (ys.flatMap cells) ht hinfo hg (by rw[hcl];exact(Nat.min_self _).symm) (sl_news hsz hd rfl) (by rw[hcl,hcs];omega) (fun v hv=>by
               obtain⟨q, -,hq⟩:=List.mem_flatMap.1 hv
               exact h1 q v hq)
             have hk':AV (fun k=>k=g') w (w.setRow g' (cur.toList.take 0++ys.flatMap cells++cur.toList.drop (0+(ys.flatMap cells).length)).toArray) :=
               ⟨rfl,rfl,rfl,by simp[World.setRow],fun k _ hkg=>setRow_other w g' k _ hkg⟩
             have ho:(w.setRow g' (cur.toList.take 0++ys.flatMap cells++cur.toList.drop (0+(ys.flatMap cells).length)).toArray).ownsRow base e' 1 (.slice (some ⟨g',0,none⟩) xs.length c2) ys.length (ys.flatMap cells):=by
               refine⟨by rw[hfl,Nat.mul_one],.inr ⟨g',c2,_,by rw[hm],hbg,setRow_heap w g' cur _ e' _ hg,by omega,hcm, ?_, ?_⟩⟩
               · simp only[List.size_toArray,List.length_append,List.length_take,List.length_drop,Array.length_toList,hcl]
                 omega
               · simp only[List.take_zero,List.nil_append,Nat.zero_add,Nat.mul_one]
                 rw[show ys.length=(ys.flatMap cells).length from(hfl ys).symm]
                 exact List.take_left
             refine⟨_, ?_,by rw[←hst.mem.size];exact hk'.size, ?_⟩
             · unfold execOp
               simp only[hop,resolve,invoke,builtin,Sem.run_bind,Sem.run_pure,Result.andThen_ok,List.map_toArray,List.map_cons,List.map_nil,hy,hx,hr,hcl]
               rfl
             · exact hst.mem.QB hi rfl rfl ⟨hk'.os,hk'.tape,hk'.output,hk'.size,fun b hb hS=>hk'.block b hb (fun e1=>hS (by rw[e1];rfl))⟩ ho (D9 _ _ _ _ _ _) (fun b hb=> .inl hb) (fun b hb=>(ho.lt b hb).2)
       · cases h
     · cases h
   · cases h
 · cases h
theorem l_copy{α:Type}(base i k:Nat)(xs ys:List α)(ya:Option Addr)(cells:α→List Value)(e:TypeId)(g n c' m cp:Nat)(c0:Ch)(d:Option Nat)(hn:xs.length=n)(hmn:m=n)(hd:∀ w',c0.holds w'→BD cells 1 Any w' ⟨ya,cp,ys⟩)
   (K:∀ n',A.n≤n'→Lg P N (Gy env d (.int .i64 (n:Int))) ds { A with n:=n',σ:=A.σ.set i (Au base e 1 cells (.slice (some ⟨g,0,none⟩) n c') ys) } ops (l.drop 1) s Q)
   (hm:ys.length=m:=by rfl) (h:(match l with | o :: _=>(copyA P N ops env o).map (fun x=>(x,o.dst)) | []=>none)=some ((e,g,n,c',ya,m,cp),d):=by as_aux_lemma=>kernel_rfl) (hi:A.σ[i]? = some (Au base e 1 cells (.slice (some ⟨g,0,none⟩) n c') xs):=by rfl) (hk:A.σ[k]? = some c0:=by rfl) (hsz:∀ x,(cells x).length=1:=by intro _;rfl) (h1:∀ x,(cells x).all Value.oneCell'=true:=by intro _;rfl):Lg P N env ds A ops l s Q:=by
 intro a w hst
 cases l with
 | nil=>cases h
 | cons o l =>
   simp only[Option.map_eq_some_iff]at h
   obtain⟨y,hy,h⟩:=h
   simp only[Prod.mk.injEq]at h
   obtain⟨rfl,rfl⟩:=h
   obtain⟨hw,hdst,w',hr,hsz',hs'⟩:=copyA_run (xs:=xs) (ys:=ys) hy hst hi hsz (fun x u hu=>List.all_eq_true.1 (h1 x) u hu) (hd w (hst.mem.at hk)) hm hn hmn
   refine Gs hw (.inl hr) ?_
   exact K _ hsz' _ _ (hst.put hs' _ hdst _)
end
def VM(P:Program){α:Type}:Sem α→Option α
 | .pure a=>some a
 | .program k=>VM P (k P)
 | .mark _ k=>VM P k
 | _=>none
theorem pureA_run{P:Program}{α:Type}(s:Sem α):∀ {x:α},VM P s=some x→∀ w,s.run P w = .ok x w:=by
 induction s with
 | pure a=>intro x h w;simp[VM]at h;subst h;rfl
 | program k ih=>intro x h w;exact ih P h w
 | mark m k ih=>intro x h w;exact ih h w
 | _=>intro x h;simp[VM]at h
inductive Cst where
 | tk (i:Nat) (c:OC)
 | cl (i:Nat) (v:Value)
abbrev Zu:=FuncId×Array Value×Value
def AllCK(P:Program)(σC:List Ch):List Zu→Prop
 | []=>True
 | (f,args,v) :: r=>(∀ w,Cs σC w→Calls P f args w fun e w'=>e = .returned v∧AV (fun _=>False) w w')∧AllCK P σC r
theorem Cs.ext{σC:List Ch}{W w:World}(h:Cs σC w)(hi:σC[0]? = some (A8 W)):Ext Any W w:=fun b k v _ hv=>Bg hv w (h _ (List.mem_of_getElem? hi))
def takeV(P:Program)(N:Nat)(ops:Array Oper)(σC:List Ch)(w0:World)(env:Env)(c:OC)(o:Oper):Option (List Prop×Value):=match Jy N o.dst,J4 ops env o with
 | true,some false=>some ([],undef)
 | true,some true=>match GU env o,QA P true (DL env) o ⟨w0,0,σC⟩ c.k with
  | true,some (vs,v,_)=>match c.asv with
   | none=>some (vs,v)
   | some u=>some (vs++[v=u],u)
  | _,_=>none
 | _,_=>none
def callV(P:Program)(ops:Array Oper)(env:Env)(o:Oper):Option (FuncId×Array Value):=match J4 ops env o,GU env o,VM P (execOp (DL env) o)with
 | some true,true,some (.enter f args)=>some (f,args)
 | _,_,_=>none
def notDst(d:Nat):Option Nat→Bool
 | none=>true
 | some t => !Nat.beq t d
def SQ:Option (Nat×Nat)→List Bool→List Bool
 | none,l=>l
 | some (f,_),l=>l.set f true
def flnot:Option (Nat×Nat)→Option Nat→Bool
 | none,_=>true
 | some (_,d),x=>notDst d x
def flready:Option (Nat×Nat)→Nat→List Nat→Bool
 | none,i,l=>l==[i]
 | some (f,_),i,l => !Nat.beq i f&&(l==[i,f]||l==[f,i])
def tkOk(ops:Array Oper)(late i:Nat)(l:List Bool):Bool:=ahead .any ops late i && !Nat.beq i late&&Region.free .any ops l.toArray i&&(Region.ready .any ops l.toArray).contains i
def Si(P:Program)(N:Nat)(ops:Array Oper)(σC:List Ch)(w0:World)(late:Nat)(fl:Option (Nat×Nat)):List Cst→List Bool→Env→Option (List Prop×List Zu×List Bool×Env)
 | [],l,env=>some ([],[],l,env)
 | .tk i c :: r,l,env=>match tkOk ops late i l&&tkOk ops late i (SQ fl l),ops[i]? with
  | true,some o=>match takeV P N ops σC w0 env c o,flnot fl o.dst with
   | some (vs,v),true=>match Si P N ops σC w0 late fl r (l.set i true) (Gy env o.dst v)with
    | some (us,x)=>some (vs++us,x)
    | none=>none
   | _,_=>none
  | _,_=>none
 | .cl i v :: r,l,env=>match Nat.blt i l.length && !Nat.beq i late&&flready fl i (Region.ready .any ops l.toArray)&&(Region.ready .any ops (SQ fl l).toArray==[i]),ops[i]? with
  | true,some o=>match callV P ops env o,flnot fl o.dst&&Jy N o.dst with
   | some (f,args),true=>match Si P N ops σC w0 late fl r (l.set i true) (Gy env o.dst v)with
    | some (us,cs,x)=>some (us,(f,args,v) :: cs,x)
    | none=>none
   | _,_=>none
  | _,_=>none
section
variable {P:Program}{N:Nat}{env:Env}{ds:List Deferred}{A:AW}{ops:Array Oper}{σC:List Ch}{late fuel:Nat}{listed:List Bool}{s:List Kt}{Q:Exit→Act→World→Prop}
def WR(R:Act→Prop)(P:Program)(N:Nat)(env:Env)(ds:List Deferred)(A:AW)(ops:Array Oper)(σC:List Ch)(late fuel:Nat)(listed:List Bool)(s:List Kt)(Q:Exit→Act→World→Prop):Prop :=
 ∀ a w,R a→St N env ds A a w→Closed .any ops listed.toArray→(listed.toArray.getD late false=false→Cs σC w)→JS P .any ops (Quiet (QQ P s Q)) late (Cs σC) fuel listed.toArray a w
theorem VX(l:List Bool)(i:Nat):l.toArray.setIfInBounds i true=(l.set i true).toArray:=by simp
theorem tk_one{R:Act→Prop}{i:Nat}{c:OC}{o:Oper}{vs:List Prop}{v:Value}(hs:Region.noSelect ops=true)(ht:tkOk ops late i listed=true)(hi:ops[i]? = some o)(hv:takeV P N ops σC A.w0 env c o=some (vs,v))(hall:Fv vs)
   (hR:∀ a u,R a→R (a.put o.dst u)) (K:WR R P N (Gy env o.dst v) ds A ops σC late fuel (listed.set i true) s Q):WR R P N env ds A ops σC late (fuel+1) listed s Q:=by
 simp only[tkOk,Bool.and_eq_true,Bool.not_eq_true']at ht
 obtain⟨⟨⟨hah,hil0⟩,hfr⟩,hrd⟩:=ht
 intro a w hRa hst hcl hC
 have hil:i≠late:=fun e=>by subst e;rw[Nat.beq_refl]at hil0;cases hil0
 have hrd':i∈Region.ready .any ops listed.toArray:=by simpa using hrd
 have hC0:=hC (UC hah hi hcl hrd')
 have hQ:∀ v c a w,Quiet (QQ P s Q) (.panic c) (a.put o.dst v) w→Quiet (QQ P s Q) (.panic c) a w:=fun _ _ _ _ h=>YM h
 have hcl':Closed .any ops (listed.set i true).toArray:=by rw[←VX];exact N8 hcl hrd'
 have go:∀ u,YieldsIf P ops (Cs σC) o u a→JS P .any ops (Quiet (QQ P s Q)) late (Cs σC) fuel (listed.set i true).toArray (a.put o.dst u) w→JS P .any ops (Quiet (QQ P s Q)) late (Cs σC) (fuel+1) listed.toArray a w:=by
   intro u hy hw
   exact first (md:= .any) (late:=late) (C:=Cs σC) hah hi (Region.noSelect_spec hs) (hQ u) fuel listed.toArray a w hcl (Region.free_spec hi hfr) hrd' hy hC0 hil (by rw[VX];exact hw)
 unfold takeV at hv
 split at hv
 · rename_i hd hw
   simp only[Option.some.injEq,Prod.mk.injEq]at hv
   obtain⟨rfl,rfl⟩:=hv
   exact go undef (.inr ⟨Dp hw hst,rfl⟩) (K _ _ (hR _ _ hRa) (hst.put hst.mem _ hd undef) hcl' (fun _=>hC0))
 · rename_i hd hw
   have hw':=Dp hw hst
   split at hv
   · rename_i vs1 v1 A1 hk hx
     have hcg:=Ej hst hk
     have hy:Fv vs1→YieldsIf P ops (Cs σC) o v1 a:=fun h1=> .inl ⟨hw',fun w1 hC1=>by rw[hcg];exact Zy hx h1 hC1⟩
     split at hv
     · simp only[Option.some.injEq,Prod.mk.injEq]at hv
       obtain⟨rfl,rfl⟩:=hv
       exact go _ (hy hall) (K _ _ (hR _ _ hRa) (hst.put hst.mem _ hd _) hcl' (fun _=>hC0))
     · simp only[Option.some.injEq,Prod.mk.injEq]at hv
       obtain⟨rfl,rfl⟩:=hv
       rw[CS]at hall
       obtain⟨h1,h2, -⟩:=hall
       have h2':v1=_:=h2
       subst h2'
       exact go _ (hy h1) (K _ _ (hR _ _ hRa) (hst.put hst.mem _ hd _) hcl' (fun _=>hC0))
   · cases hv
 · cases hv
theorem cl_op{R:Act→Prop}{i n:Nat}{o:Oper}{v:Value}{f:FuncId}{args:Array Value}{a:Act}{w:World}{σ:List Ch}(hi:ops[i]? = some o)(hc:callV P ops env o=some (f,args))(hd:Jy N o.dst=true)(hck:∀ w,Cs σC w→Calls P f args w fun e w'=>e = .returned v∧AV (fun _=>False) w w')
   (hsub:∀ c∈σC,c∈σ) (hRa:R a) (hR:∀ a u,R a→R (a.put o.dst u)) (hst:St N env ds ⟨A.w0,n,σ⟩ a w) (hcl:Closed .any ops (listed.set i true).toArray)
   (K:∀ n',n≤n'→WR R P N (Gy env o.dst v) ds ⟨A.w0,n',σ⟩ ops σC late fuel (listed.set i true) s Q) :
   wpOp P ops (Quiet (QQ P s Q)) i (fun a' w'=>((listed.set i true).toArray.getD late false=false→Cs σC w')∧JS P .any ops (Quiet (QQ P s Q)) late (Cs σC) fuel (listed.set i true).toArray a' w') a w:=by
 unfold callV at hc
 split at hc
 · rename_i f' args' x hw hk hr
   simp only[Option.some.injEq,Prod.mk.injEq]at hc
   obtain⟨rfl,rfl⟩:=hc
   unfold wpOp
   simp only[hi]
   rw[if_pos (Dp hw hst)]
   left
   unfold Oper.wp
   rw[Ej hst hk,pureA_run _ hr w]
   refine(hck w (fun c hc=>hst.mem.all c (hsub c hc))).mono ?_
   rintro e w' ⟨rfl,hkp⟩
   have hs1:=hst.mem.keeps hkp
   have hcs:Cs σC w':=fun c hc=>hs1.all c (hsub c hc)
   exact⟨fun _=>hcs,K _ (AB hst.mem hkp) _ _ (hR _ _ hRa) (hst.put hs1 _ hd _) hcl (fun _=>hcs)⟩
 · cases hc
theorem YR{fl:Option (Nat×Nat)}{l:List Bool}{i:Nat}:(SQ fl l).set i true=SQ fl (l.set i true):=by
 cases fl with
 | none=>rfl
 | some x =>
  obtain⟨f,d⟩:=x
  show(l.set f true).set i true=(l.set i true).set f true
  by_cases h:f=i
  ·subst h;rfl
  exact List.set_comm _ _ h
theorem chain_T{R:Act→Prop}{fl:Option (Nat×Nat)}(hs:Region.noSelect ops=true){σ:List Ch}{w0:World}(hsub:∀ c∈σC,c∈σ)(hR:∀ a dst u,flnot fl dst=true→R a→R (a.put dst u)){m:Nat} :
   ∀ (steps:List Cst) (l:List Bool) (env:Env) (vs:List Prop) (cs:List Zu) (l':List Bool) (env':Env) (n:Nat),Si P N ops σC w0 late fl steps l env=some (vs,cs,l',env')→Fv vs→AllCK P σC cs →
     (∀ n',n≤n'→WR R P N env' ds ⟨w0,n',σ⟩ ops σC late m (SQ fl l') s Q)→WR R P N env ds ⟨w0,n,σ⟩ ops σC late (m+steps.length) (SQ fl l) s Q:=by
 intro steps
 induction steps with
 | nil =>
   intro l env vs cs l' env' n h hv hc K
   simp only[Si,Option.some.injEq,Prod.mk.injEq]at h
   obtain⟨-, -,rfl,rfl⟩:=h
   exact K n (Nat.le_refl _)
 | cons x r ih =>
   intro l env vs cs l' env' n h hv hc K
   cases x with
   | tk i c =>
     simp only[Si]at h
     split at h
     · rename_i o hok hi
       rw[Bool.and_eq_true]at hok
       split at h
       · rename_i vs1 v hx hfl
         split at h
         · rename_i us y hy
           obtain⟨cs1,l1,e1⟩:=y
           simp only[Option.some.injEq,Prod.mk.injEq]at h
           obtain⟨rfl,rfl,rfl,rfl⟩:=h
           rw[CS]at hv
           have:=ih (l.set i true) _ us _ _ _ n hy hv.2 hc K
           refine tk_one (A:=⟨w0,n,σ⟩) (fuel:=m+r.length) hs hok.2 hi hx hv.1 (fun a u=>hR a _ u hfl) ?_
           rw[YR];exact this
         · cases h
       · cases h
     · cases h
   | cl i v =>
     simp only[Si]at h
     split at h
     · rename_i o hok hi
       simp only[Bool.and_eq_true]at hok
       obtain⟨⟨⟨hlt,hlate⟩,hrd0⟩,hrd⟩:=hok
       split at h
       · rename_i f args hx hfl
         rw[Bool.and_eq_true]at hfl
         split at h
         · rename_i us cs1 y hy
           obtain⟨l1,e1⟩:=y
           simp only[Option.some.injEq,Prod.mk.injEq]at h
           obtain⟨rfl,rfl,rfl,rfl⟩:=h
           obtain⟨hc1,hc2⟩:=hc
           intro a w hRa hst hcl hC
           have hr:Region.ready .any ops (SQ fl l).toArray=[i]:=by simpa using hrd
           refine⟨fun h0=>(by rw[hr]at h0;cases h0),fun j hj => ?_⟩
           have hcl':Closed .any ops ((SQ fl l).set j true).toArray:=by rw[←VX];exact N8 hcl hj
           rw[hr]at hj
           obtain rfl:=List.mem_singleton.1 hj
           rw[VX]
           refine cl_op (A:=⟨w0,n,σ⟩) (R:=R) hi hx hfl.2 hc1 hsub hRa (fun a u=>hR a _ u hfl.1) hst hcl' (fun n' hn' => ?_)
           rw[YR]
           exact ih (l.set j true) _ us _ _ _ n' hy hv hc2 (fun n2 hn2=>K n2 (Nat.le_trans hn' hn2))
         · cases h
       · cases h
     · cases h
theorem picks_sub{is:List Nat}{l cs:List Ch}(h:picks is l=some cs):∀ c∈cs,c∈l:=BI h
theorem w_chainN(steps:List Cst)(keep:List Nat)(cs:List Zu)(l':List Bool)(vs:List Prop)(env':Env)(cix:List Nat)
   (hv:Fv vs) (hc:AllCK P σC cs) (K:∀ n,A.n≤n→Wg P N env' ds ⟨A.w0,n,A.σ⟩ ops σC late (fuel - steps.length) l' s Q)
   (h:(match Si P N ops σC A.w0 late none steps listed env with | some (vs,cs,l,e)=>some (vs,cs,l,JZ keep e) | none=>none)=some (vs,cs,l',env'):=by as_aux_lemma=>kernel_rfl)
   (hC:picks cix A.σ=some σC:=by rfl) (hf:Nat.ble steps.length fuel=true:=by as_aux_lemma=>kernel_rfl) (hs:Region.noSelect ops=true:=by as_aux_lemma=>kernel_rfl):Wg P N env ds A ops σC late fuel listed s Q:=by
 split at h
 · rename_i vs1 cs1 l1 e1 h1
   simp only[Option.some.injEq,Prod.mk.injEq]at h
   obtain⟨rfl,rfl,rfl,rfl⟩:=h
   have hle:=Nat.le_of_ble_eq_true hf
   obtain⟨w0,n,σ⟩:=A
   have key:=chain_T (R:=fun _=>True) (m:=fuel - steps.length) (ds:=ds) (s:=s) (Q:=Q) (fl:=none) hs (picks_sub hC) (fun _ _ _ _ h=>h) steps listed env _ _ _ _ n h1 hv hc (fun n' hn a w _ hst hcl hcc=>K n' hn a w (hst.sub (fun t v=>Jg)) hcl hcc)
   rw[show fuel - steps.length+steps.length=fuel from by omega]at key
   exact fun a w=>key a w trivial
 · cases h
end
open Go Go.ChangeShapes Go.WideShapes Go.Deep
theorem weightsAll_mem{H:Type}{P:Program}{e:TypeId}:∀ {l:List (DataW H)} {d:DataW H},d∈l→∀ n∈d.weights P e,n∈DataW.weightsAll P e l
 | a :: l,d,h,n,hn=>by
  simp only[DataW.weightsAll,List.mem_append]
  rcases List.mem_cons.1 h with rfl | h
  ·exact .inl hn
  exact .inr (weightsAll_mem h n hn)
def Rd(P:Program){α:Type}(t:TypeId)(cells:α→List Value)(ok:(Nat→Prop)→World→α→Prop):Prop :=
 ∀ (H:Type) (enc:TypeId×Value→H) (W:World) (fuel:Nat) (cs:List Value) (x:DataW H×List MemPlace),DataW.trod enc P W 0 (fun _=>true) true fuel t cs=some x→(∀ n∈x.1.weights P t,n≤reachBytes)→∃ a:α,cs=cells a∧ok Any W a
section
variable {P:Program}{t:TypeId}
theorem H7{k:IntKind}(ht:P.underlying t=some (.int k)):Rd P t (fun x:Int=>[Value.int k x]) (fun _ _ x=>FV k x):=by
 intro H enc W fuel cs x h _
 obtain⟨n,rfl,rfl,hw⟩:=DataW.trod_int ht h
 refine⟨n,rfl, ?_⟩
 simp only[Lit.wf,Bool.and_eq_true,decide_eq_true_eq]at hw
 cases k <;> simp only[FV] <;> simp[IntKind.min,IntKind.max,IntKind.bits,IntKind.signed]at hw <;> first | omega | exact⟨by omega,by omega⟩ | trivial
theorem rd_bool(ht:P.underlying t=some .bool):Rd P t (fun x:Bool=>[Value.bool x]) (fun _ _ _=>True):=by
 intro H enc W fuel cs x h _
 obtain⟨b,rfl,rfl⟩:=DataW.trod_bool ht h
 exact⟨b,rfl,Ac⟩
theorem rd_string(ht:P.underlying t=some .string):Rd P t (fun x:ByteArray=>[Value.string x]) (fun _ _ x=>x.size≤140737488351232):=by
 intro H enc W fuel cs x h hw
 obtain⟨s,rfl,rfl, -⟩:=DataW.trod_string ht h
 refine⟨s,rfl, ?_⟩
 have:=hw s.data.toList.length (by simp[DataW.weights])
 simpa[reachBytes]using this
theorem Qa{α:Type}[Inhabited α]{cells:α→List Value}{ok:(Nat→Prop)→World→α→Prop}{e:TypeId}{sz:Nat}(ht:P.underlying t=some (.slice e))(hc:P.cellsOf e=sz)(hsz:∀ x,(cells x).length=sz)(hs0:0<sz)(hpos:Nat.blt 0 (P.bytesOf e)=true)(h:Rd P e cells ok) :
   Rd P t (fun s:Sl α=>[s.val]) (fun F W s=>Dc cells sz ok F W s):=by
 intro H enc W fuel cs x hx hw
 rcases open_slice ht hx with⟨rfl,rfl⟩ | ⟨a,len,cap,m,n,D,Pl,rfl,hb,hl,hm,hmm,rfl,hi⟩
 · exact⟨⟨none,0,[]⟩,rfl,⟨Nat.zero_le _,Nat.le_refl _,fun h=>absurd rfl h⟩,fun i hi=>absurd hi (Nat.not_lt_zero i)⟩
 · simp only[if_true]at hmm
   subst hmm
   rw[hc]at hi
   have hww:∀ q∈DataW.weightsAll P e ((List.range len).map D),q≤reachBytes:=fun q hq=>hw q (by simp only[DataW.weights,ht,List.mem_cons,List.mem_append];exact .inr (.inl hq))
   have hY:∀ i,i<len→∃ y:α,(W.cells? 0 (a.add (i*sz)) sz=some (cells y))∧ok Any W y:=by
     intro i hi'
     obtain⟨cs',h1,h2⟩:=hi i (by omega)
     obtain⟨y,rfl,hy⟩:=h H enc W n cs' _ h2 (fun q hq=>hww q (weightsAll_mem (d:=D i) (List.mem_map_of_mem (List.mem_range.2 hi')) q hq))
     exact⟨y,h1,hy⟩
   obtain⟨Y,hY⟩:=choose_lt hY
   have hbig:(len+(m - len))*P.bytesOf e≤reachBytes:=hw _ (by simp[DataW.weights,ht])
   have hlen:len+(m - len)≤140737488351232:=Nat.le_trans (Nat.le_mul_of_pos_right _ (by simpa using hpos)) hbig
   have hg:∀ i,i<len→gd ((List.range len).map Y) i=Y i:=fun i hi'=>by rw[Di (by simpa using hi')];simp
   refine⟨⟨some a,m,(List.range len).map Y⟩,by simp[Sl.val],⟨by simp;omega,by simpa using hl,fun hne => ?_⟩,fun i hi' => ?_⟩
   · have h0:0<len:=by
       rcases Nat.eq_zero_or_pos len with h | h
       · subst h;exact absurd rfl hne
       · exact h
     have hsp:a.spot=none:=by
       obtain⟨-, -,h3⟩:=World.cells?_some (hY 0 h0).1
       have h4:=h3 0 hs0
       rw[List.getElem?_eq_getElem (by rw[hsz];exact hs0)]at h4
       have:=World.cell?_spot h4
       simpa[Addr.add]using this
     obtain⟨b,off,sp⟩:=a
     simp only at hsp;subst hsp
     refine⟨b,off,rfl,Ac,fun i hi' k v hv => ?_⟩
     have hi2:i<len:=by simpa using hi'
     obtain⟨-, -,h3⟩:=World.cells?_some (hY i hi2).1
     have hv':(cells (Y i))[k]? = some v:=by simpa using hv
     have hk:k<sz:=by rw[←hsz (Y i)];exact(List.getElem?_eq_some_iff.1 hv').1
     have:=h3 k hk
     rw[hv']at this
     rw[GL]
     have e1:(⟨b,off,none⟩:Addr).add (i*sz)=⟨b,off+i*sz,none⟩:=Iz rfl _
     have e2:(⟨b,off+i*sz,none⟩:Addr).add k=⟨b,off+i*sz+k,none⟩:=Iz rfl _
     rw[e1,e2]at this
     exact this
   · have hi2:i<len:=by simpa using hi'
     rw[hg i hi2];exact(hY i hi2).2
theorem EG{H:Type}{enc:TypeId×Value→H}{W:World}{α:Type}{cells:α→List Value}{ok:(Nat→Prop)→World→α→Prop}{fs:Array Field}{xs:List (DataW H×List MemPlace)}{n:Nat}{cs:List Value}(ht:P.underlying t=some (.struct fs))(hlen:xs.length=fs.size)
   (hf:∀ (i:Nat) (f:Field),fs[i]? = some f→DataW.trod enc P W 0 (fun _=>true) true n f.type ((cs.drop f.offset).take (P.cellsOf f.type))=xs[i]?) (hw:∀ n∈(DataW.agg (xs.map (·.1))).weights P t,n≤reachBytes)
   (i o c:Nat) (f:Field) (hi:fs[i]? = some f) (ho:f.offset=o) (hc:P.cellsOf f.type=c) (hr:Rd P f.type cells ok):∃ y:α,(cs.drop o).take c=cells y∧ok Any W y:=by
 subst ho;subst hc
 have hlt:i<xs.length:=by rw[hlen];exact(Array.getElem?_eq_some_iff.1 hi).1
 have h1:=hf i f hi
 rw[List.getElem?_eq_getElem hlt]at h1
 refine hr H enc W n _ _ h1 (fun q hq=>hw q ?_)
 simp only[DataW.weights,ht]
 exact DataW.weights_mem_each (j:=i) (t:=f.type) (d:=(xs[i]).1) (by rw[List.getElem?_map];simp only[Array.getElem?_toList,hi];rfl) (by simp[hlt]) q hq
theorem cs1{cs:List Value}(h:cs.length=1):∃ a,cs=[a]:=match cs,h with | [a],_=>⟨a,rfl⟩
theorem rd_arg{H:Type}{enc:TypeId×Value→H}{W:World}{base j:Nat}{α:Type}{cells:α→List Value}{ok:(Nat→Prop)→World→α→Prop}{fs:Array Field}{v:Value}{d:DataW H}{p:List MemPlace}{ts:List TypeId}{ds:List (DataW H)}
   (hr:Rd P t cells ok) (ht:P.underlying t=some (.struct fs)) (hv:Value.okWide P W .any base t v) (h:DataW.Trod enc P W 0 (fun _=>true) true t v d p) (hsz:(DataW.weightsEach P ts ds).all (· ≤ reachBytes)=true) (hj:ts[j]? = some t) (hd:ds[j]? = some d):∃ a:α,v = .agg (cells a).toArray∧ok Any W a:=by
 obtain⟨arr,rfl, -⟩:=okWide_struct ht hv
 obtain⟨fuel,h⟩:=h
 obtain⟨a,ha,hok⟩:=hr H enc W fuel _ _ h (fun n hn=>by have:=List.all_eq_true.1 hsz _ (DataW.weights_mem_each hj hd n hn);simpa using this)
 refine⟨a, ?_,hok⟩
 have ha':arr.toList=cells a:=ha
 rw[←ha']
end
open Go Go.Lib Go.Proofs.Ytjmcjekhgpakoaa.Mem
def LJ{α:Type}(base:Nat)(e:TypeId)(sz:Nat)(cells:α→List Value)(j:Nat)(v:Value)(xs:List α):Ch :=
 .inv (fun b=>v.ownBlock=some b) (fun w=>w.ownsRow base e sz v xs.length (xs.flatMap cells)∨(j=0∧(xs.flatMap cells).length=xs.length*sz∧∃ g cs fr,v = .slice (some ⟨g,0,none⟩) xs.length xs.length∧base≤g∧w.heap[g]? = some (.cells cs e fr)∧cs.toList=xs.flatMap cells)) true
theorem SY{α:Type}(base:Nat)(e:TypeId)(sz:Nat)(cells:α→List Value)(j:Nat)(v:Value)(xs:List α):(LJ base e sz cells j v xs).stable:=by
 rintro w w' h (hw | ⟨h0,hl,g,cs,fr,hv,hbg,hg,hc⟩)
 ·exact .inl (SL h hw)
 exact .inr ⟨h0,hl,g,cs,fr,hv,hbg,(h g (by rw[hv];rfl)).trans hg,hc⟩
theorem rowM_own{α:Type}{base:Nat}{e:TypeId}{sz:Nat}{cells:α→List Value}{j:Nat}{v:Value}{xs:List α}{w:World}(h:(LJ base e sz cells j v xs).holds w)(hj:j≠0):w.ownsRow base e sz v xs.length (xs.flatMap cells):=by
 rcases h with h | ⟨h0, -⟩
 ·exact h
 exact absurd h0 hj
theorem grown_owns{w:World}{base:Nat}{e:TypeId}{z:Value}{sz n m cap:Nat}{xs news:List Value}(hx:xs.length=n*sz)(hl:news.length=m*sz)(hz:z.cells.size=sz)(h63:n+m≤maxLen)(hb:base≤w.heap.size) :
   (w.drew.alloc (.cells (xs.toArray++news.toArray++Builtin.zeroCells z.cells (grownCap w (n+m) cap e - (n+m))) e)).ownsRow base e sz (.slice (some ⟨w.heap.size,0,none⟩) (n+m) (grownCap w (n+m) cap e)) (n+m) (xs++news):=by
 have hge:=grownCap_ge w (n+m) cap e
 have hcm:grownCap w (n+m) cap e≤maxLen:=grownCap_le_maxLen w (n+m) cap e h63
 have hlen:(xs++news).length=(n+m)*sz:=by rw[List.length_append,hx,hl,Nat.add_mul]
 refine⟨hlen,.inr ⟨w.heap.size,_,_,rfl,hb,heap_alloc_new w.drew _,hge,hcm, ?_, ?_⟩⟩
 · simp only[Array.size_append,List.size_toArray,size_zeroCells,hz,hx,hl]
   rw[←Nat.add_mul,←Nat.add_mul]
   congr 1;omega
 · simp only[Array.toList_append,List.append_assoc]
   rw[←List.append_assoc,←hlen]
   exact List.take_left
section
variable {P:Program}{N:Nat}{env:Env}{ds:List Deferred}{A:AW}{ops:Array Oper}{l:List Oper}{s:List Kt}{Q:Exit→Act→World→Prop}{c:Code}
theorem appM_run{α:Type}{base:Nat}{o:Oper}{e:TypeId}{sz by':Nat}{v:Value}{ad:Addr}{m cp j:Nat}(h:Rt P N ops env o=some (e,sz,by',v,ad,m,cp)){i:Nat}{cells:α→List Value}{xs ys:List α}{a:Act}{w:World}(hst:St N env ds A a w)
   (hi:A.σ[i]? = some (LJ base e sz cells j v xs)) (hl:(ys.flatMap cells).length=m*sz) (h1:(ys.flatMap cells).all Value.oneCell'=true) (hnews:∀ j u,(ys.flatMap cells)[j]? = some u→w.cell? (ad.add j)=some u) (hm:ys.length=m) (hm0:0<m) (h63:xs.length+m≤maxLen) (hb:(xs.length+m)*by'≤140737488355328) (hbase:base≤A.n) :
   Region.wanted o (yielded ops a.tmps)=true∧Jy N o.dst=true∧∃ a' cap' w',(execOp a.eval o).run P w = .ok (.value (.slice a' (xs++ys).length cap')) w'∧A.n≤w'.heap.size∧Sat { A with n:=w'.heap.size,σ:=A.σ.set i (LJ base e sz cells (j+1) (.slice a' (xs++ys).length cap') (xs++ys)) } w':=by
 unfold Rt at h
 split at h
 · rename_i x y t u hop0 hw hk hd
   have hop:=OU hop0
   split at h
   · rename_i e' ad' m' cp' htu ht hy
     split at h
     · rename_i f' hf
       split at h
       · rename_i z' hz
         split at h
         · rename_i hsz
           simp only[Option.some.injEq,Prod.mk.injEq]at h
           obtain⟨rfl,rfl,rfl,rfl,rfl,rfl,rfl⟩:=h
           have htu':=Nat.eq_of_beq_eq_true htu
           subst htu'
           rw[Bool.and_eq_true]at hsz
           refine⟨Dp hw hst,hd, ?_⟩
           rw[Ej hst hk]
           have hsize:=hst.mem.size
           have key:∀ v' w',(Builtin.append_ #[t,t] o.type #[DL env x,.slice (some ad') m' cp']).run P w = .ok v' w'→w'.ownsRow base e' f'.size v' (xs.length+m') (xs.flatMap cells++ys.flatMap cells)→w.grownBy w' (DL env x).ownBlock→(v'.ownBlock=(DL env x).ownBlock∨v'.ownBlock=some w.heap.size) →
               ∃ a' cap' w',(execOp (DL env) o).run P w = .ok (.value (.slice a' (xs++ys).length cap')) w'∧A.n≤w'.heap.size∧Sat { A with n:=w'.heap.size,σ:=A.σ.set i (LJ base e' f'.size cells (j+1) (.slice a' (xs++ys).length cap') (xs++ys)) } w':=by
             intro v' w' hr ho hg hat
             rw[←hm,←List.length_append,←List.flatMap_append]at ho
             obtain⟨a',cap',rfl⟩:=SN ho
             have hk':AV (fun k=>some k=(DL env x).ownBlock) w w':=AV.of_grownBy hg
             refine⟨a',cap',w', ?_,by have:=hk'.size;rw[hsize]at this;exact this, ?_⟩
             · unfold execOp
               simp only[hop,resolve,invoke,builtin,Sem.run_bind,Sem.run_pure,Result.andThen_ok,List.map_toArray,List.map_cons,List.map_nil,hy,hr]
             · exact hst.mem.QB hi rfl rfl ⟨hk'.os,hk'.tape,hk'.output,hk'.size,fun b hb hS=>hk'.block b hb (fun e1=>hS e1.symm)⟩ (.inl ho) (SY _ _ _ _ _ _ _) (fun b hb=>by
                 rcases hat with e1 | e1
                 · have hb':(Value.slice a' (xs++ys).length cap').ownBlock=some b:=hb
                   rw[e1]at hb';exact .inl hb'
                 · have hb':(Value.slice a' (xs++ys).length cap').ownBlock=some b:=hb
                   rw[e1]at hb';simp only[Option.some.injEq]at hb';exact .inr (by omega)) (fun b hb=>(ho.lt b hb).2)
           rcases hst.mem.at hi with hown | ⟨h0,hxl,g,cs,fr,hv,hbg,hg,hc⟩
           · obtain⟨v',w',hr,ho',hgr, -,hat⟩:=run_append_own_at (P:=P) w base t o.type e' f' z' f'.size f'.bytes ht hf hz rfl rfl (Nat.eq_of_beq_eq_true hsz.1) (by simpa using hsz.2) (DL env x) xs.length (xs.flatMap cells) hown ad' m' cp' (ys.flatMap cells) hl hnews (fun u hu=>List.all_eq_true.1 h1 u hu) h63 hb (by rw[hsize];exact hbase)
             exact key v' w' hr ho' hgr hat
           · have hA:At w g (.cells cs e' fr):=hg
             have holds:∀ k u,(xs.flatMap cells)[k]? = some u→w.cell? ((⟨g,0,none⟩:Addr).add k)=some u:=by
               intro k u hu
               have e1:(⟨g,0,none⟩:Addr).add k=⟨g,k,none⟩:=by rw[Iz rfl];simp
               rw[e1]
               exact hA.cell (by rw[←Array.getElem?_toList,hc];exact hu)
             have hr:=run_append_grow (P:=P) w t o.type e' f' z' ht hf hz ⟨g,0,none⟩ xs.length xs.length (xs.flatMap cells) hxl holds ad' m' cp' (ys.flatMap cells) hl hnews (by omega) (by simp only[maxLen]at h63;omega) (growslice_fits (by omega) hb)
             rw[←hv]at hr
             refine key _ _ hr (grown_owns hxl hl (Nat.eq_of_beq_eq_true hsz.1) h63 (by rw[hsize];exact hbase)) ⟨rfl,rfl,rfl,by simp,fun k hk _=>heap_alloc_old w.drew _ hk⟩ (.inr rfl)
         · cases h
       · cases h
     · cases h
   · cases h
 · cases h
theorem l_pushM{α:Type}(base i k j:Nat)(xs ys:List α)(cells:α→List Value)(e:TypeId)(sz by':Nat)(v:Value)(b m cp:Nat)(cs:Array Value)(t:TypeId)(fr:Nat×Nat)(rw':Bool)(d:Option Nat)
   (h63:xs.length+ys.length≤1000000000000) (hbase:base≤A.n)
   (K:∀ a' cap' n',A.n≤n'→Lg P N (Gy env d (.slice a' (xs++ys).length cap')) ds { A with n:=n',σ:=A.σ.set i (LJ base e sz cells (j+1) (.slice a' (xs++ys).length cap') (xs++ys)) } ops (l.drop 1) s Q)
   (h:(match l with | o :: _=>(Rt P N ops env o).map (fun x=>(x,o.dst)) | []=>none)=some ((e,sz,by',v,⟨b,0,none⟩,m,cp),d):=by as_aux_lemma=>kernel_rfl) (hi:A.σ[i]? = some (LJ base e sz cells j v xs):=by rfl) (hj:A.σ[k]? = some (.blk b (.cells cs t fr) rw'):=by rfl) (hn:cs.toList=ys.flatMap cells:=by rfl) (hm:ys.length=m:=by rfl)
   (hl:Nat.beq (ys.flatMap cells).length (ys.length*sz)=true:=by as_aux_lemma=>kernel_rfl) (h1:(ys.flatMap cells).all Value.oneCell'=true:=by as_aux_lemma=>kernel_rfl) (hb:Nat.ble by' 140=true:=by as_aux_lemma=>kernel_rfl) (hm0:Nat.blt 0 m=true:=by rfl):Lg P N env ds A ops l s Q:=by
 intro a w hst
 have hb':=Nat.le_of_ble_eq_true hb
 subst hm
 cases l with
 | nil=>cases h
 | cons o l =>
   simp only[Option.map_eq_some_iff]at h
   obtain⟨y,hy,h⟩:=h
   simp only[Prod.mk.injEq]at h
   obtain⟨rfl,rfl⟩:=h
   obtain⟨hw,hdst,a',cap',w',hr,hsz,hs'⟩:=appM_run (xs:=xs) (ys:=ys) hy hst hi (Nat.eq_of_beq_eq_true hl) h1 (UB hst.mem hj hn) rfl (by simpa using hm0) (by unfold maxLen;omega) (Nat.le_trans (Nat.mul_le_mul h63 hb') (by decide)) hbase
   refine Gs hw (.inl hr) ?_
   exact K a' cap' _ hsz _ _ (hst.put hs' _ hdst _)
def markA(P:Program)(N:Nat)(ops:Array Oper)(env:Env):List Oper→Option (Nat×Nat×Nat×TypeId×Option Nat)
 | []=>none
 | o :: _=>match o.op,J4 ops env o,GU env o,Jy N o.dst with
  | .convert src dst x,some true,true,true=>match Nat.beq src dst,P.underlying src,DL env x with
   | true,some (.slice e),.slice (some ⟨b,0,none⟩) n cap=>match P.underlying e with
    | some (.int .u8)=>some (b,n,cap,e,o.dst)
    | _=>none
   | _,_,_=>none
  | _,_,_,_=>none
theorem l_mark(i b n cap:Nat)(cs:Array Value)(e:TypeId)(d:Option Nat)(K:Lg P N (Gy env d (.slice (some ⟨b,0,none⟩) n cap)) ds { A with σ:=A.σ.set i (.blk b (.cells cs e (cs.size,cs.size+1)) true) } ops (l.drop 1) s Q)
   (h:markA P N ops env l=some (b,n,cap,e,d):=by as_aux_lemma=>kernel_rfl) (hi:A.σ[i]? = some (.blk b (.cells cs e (0,0)) true):=by rfl):Lg P N env ds A ops l s Q:=by
 intro a0 w hst
 cases l with
 | nil=>cases h
 | cons o l =>
   simp only[markA]at h
   split at h
   · rename_i src dst x hop hw hkn hdst
     split at h
     · rename_i e1 b1 n1 cap1 hsd hs hx
       split at h
       · rename_i he
         simp only[Option.some.injEq,Prod.mk.injEq]at h
         obtain⟨rfl,rfl,rfl,rfl,rfl⟩:=h
         have hsd':=Nat.eq_of_beq_eq_true hsd
         subst hsd'
         have hg:w.heap[b1]? = some (.cells cs e1 (0,0)):=hst.mem.at hi
         have hsh:w.shape? b1=some (e1,cs.size):=by unfold World.shape?;rw[hg]
         have hfz:(w.freeze ⟨b1,cs.size,none⟩ 1).heap[b1]? = some (.cells cs e1 (cs.size,cs.size+1)):=by
           unfold World.freeze
           rw[if_neg (by decide)]
           simp[Array.getElem?_modify,hg]
         have hoth:∀ k,k≠b1→(w.freeze ⟨b1,cs.size,none⟩ 1).heap[k]? = w.heap[k]? := by
           intro k hk
           unfold World.freeze
           rw[if_neg (by decide)]
           simp[Array.getElem?_modify,Ne.symm hk]
         have hr2:(execOp a0.eval o).run P w = .ok (.value (.slice (some ⟨b1,0,none⟩) n1 cap1)) (w.freeze ⟨b1,cs.size,none⟩ 1):=by
           rw[Ej hst hkn]
           unfold execOp
           simp[hop,hx,convert,run_underlying hs,run_underlying he,markStringish,hsh]
         refine Gs (Dp hw hst) (.inl hr2) ?_
         refine K _ _ (hst.put (hst.mem.put (c':= .blk b1 (.cells cs e1 (cs.size,cs.size+1)) true) hi rfl rfl (Ch.DI _ _ _) ?_ ?_ ?_ ?_ (fun k hk=>hoth k hk) hfz) _ hdst _)
         · unfold World.freeze;rw[if_neg (by decide)]
         · unfold World.freeze;rw[if_neg (by decide)]
         · unfold World.freeze;rw[if_neg (by decide)]
         · unfold World.freeze;rw[if_neg (by decide)];simp
       · cases h
     · cases h
   · cases h
theorem g_rowM{α:Type}(i b base:Nat)(e:TypeId)(sz:Nat)(cells:α→List Value)(xs:List α)(cs:Array Value)(fr:Nat×Nat)(hb:base≤b)(K:G P N env ds { A with σ:=A.σ.set i (LJ base e sz cells 0 (.slice (some ⟨b,0,none⟩) xs.length xs.length) xs) } c s Q)(hi:A.σ[i]? = some (.blk b (.cells cs e fr) true):=by rfl)(hx:xs.flatMap cells=cs.toList:=by rfl)(hl:(xs.flatMap cells).length=xs.length*sz:=by rfl):G P N env ds A c s Q :=
 fun a w hst=>K a w ⟨hst.sz,hst.df,hst.kn,hst.mem.conv hi (by
  show(_,true)=(_,true)
  congr 1
  funext k
  apply propext
  show some b=some k↔k=b
  exact⟨fun e=>(Option.some.inj e).symm,fun e=>by rw[e]⟩) (fun hw=> .inr ⟨rfl,hl,b,cs,fr,rfl,hb,hw,hx.symm⟩) (SY _ _ _ _ _ _ _)⟩
end
end Go.Proofs.Ytjmcjekhgpakoaa.Eng
