/- Packed: SlE, SlF, SlV, TlA, Rng, Held, TlB, TlG, Ty, TlH, TlJ. No conditions. -/
import Derived.Test.YtjdkigkknhefpaaDoorPc1
import Derived.RangeFuncBox
import Derived.RangeFuncNested
import Derived.RangeFuncBound
import Derived.RangeFuncCalls
import Derived.RangeFuncLeaves
import Derived.Shelf.Abstract
import Derived.OwnWalkIn
import Derived.TacticsInMore
import Derived.LoopNIn
import Derived.LoopIn
import Derived.Maps.AppendAt
import Derived.Maps.OwnIn
import Derived.Sort.LoopGhostIn
import Derived.Deep.DeepCutAuto
import Derived.Deep.CutBlock
import Derived.RegionIn
import Derived.BigRegionIn
import Derived.Shelf.RegionOpen
import Derived.OrdersHeld
import Derived.OrdersIn
set_option maxHeartbeats 4000000
namespace Go.Proofs.YtjdkigkknhefpaaDoor.Sl
open Go.RowKit Go.Proofs.YtjdkigkknhefpaaDoor.Mem
set_option linter.unusedSimpArgs false
set_option linter.unusedVariables false
theorem Full.laid{w1 w2:World}{s m:Nat}{room:Int}{ns:List Node}{es:List (Int×Value)}(h1:Full w1 s m room ns es)(nd:Node)(hb:nd.b=w1.heap.size)
   (hk2:Af (· = m) (w1.alloc (BH nd none none)) w2):Raw w2 s m room ns∧At w2 nd.b (BH nd none none)∧(s :: (ns++[nd]).map (·.b)).Nodup:=by
 have hma:∀ b,b∈s :: ns.map (·.b)→b≠m:=fun b hb e=>h1.apart (e ▸ hb)
 have ha:=(h1.alloc (BH nd none none)).raw
 have hml:=h1.map.lt
 refine⟨ha.frame (hk2.block s ha.head.lt (hma s (by simp))) (fun z hz=>hk2.block z.b (ha.chain.lt z hz) (hma z.b (List.mem_cons_of_mem _ (List.mem_map.2 ⟨z,hz,rfl⟩)))), ?_, ?_⟩
 · rw[hb];exact hk2.get (At.new w1 _) (by omega)
 · have hd:=h1.raw.nodup
   simp only[List.map_append,List.map_cons,List.map_nil,List.nodup_cons,List.nodup_append,List.mem_append,List.mem_cons,List.not_mem_nil,or_false]at hd ⊢
   refine⟨fun x => ?_,hd.2,⟨fun x=>x,List.nodup_nil⟩,fun a ha' b hb' => ?_⟩
   · rcases x with x | x
     · exact hd.1 x
     · have:=h1.raw.head.lt;omega
   · have:=h1.lt (.inr (.inr ha'));omega
theorem Full.added{w1 w3:World}{s m:Nat}{room:Int}{ns:List Node}{es:List (Int×Value)}(h1:Full w1 s m room ns es)(nd:Node)(hb:nd.b=w1.heap.size)(hn:nd.k ∉ ns.map (·.k))
   (hr:Raw w3 s m room (ns++[nd])) (hm:BX w3 m (es++[(nd.k,np (some nd.b))])):Full w3 s m room (ns++[nd]) (es++[(nd.k,np (some nd.b))]):=by
 refine⟨hr,hm, ?_, ?_, ?_⟩
 · rw[List.map_append];exact h1.perm.append_right _
 · rw[List.map_append,List.nodup_append]
   refine⟨h1.keys,by simp,fun a ha b hb' e => ?_⟩
   simp only[List.map_cons,List.map_nil,List.mem_cons,List.not_mem_nil,or_false]at hb'
   exact hn (by rw[←hb',←e];exact ha)
 · intro x
   have:=h1.map.lt
   simp only[List.map_append,List.map_cons,List.map_nil,List.mem_append,List.mem_cons,List.not_mem_nil,or_false]at x
   rcases x with x | x | x
   · exact h1.apart (by simp[x])
   · exact h1.apart (List.mem_cons_of_mem _ x)
   · omega
theorem Ir(w:World)(s m:Nat)(room:Int)(ns:List Node)(es:List (Int×Value))(k:Int)(v:V)(h:Full w s m room ns es)(hn:k ∉ ns.map (·.k))(hl:(ns.length:Int)≠room) :
   Calls Tryd.prog 79 #[.pointer (some ⟨s,0,none⟩),.int .i64 k,(Value.agg #[.int .i64 (v).1,.int .i64 (v).2.1,.int .i64 (v).2.2])] w fun e w'=>e = .returned (.tuple #[.int .i64 0,.bool false]) ∧
     (∃ b es',w.heap.size≤b∧b<w'.heap.size∧Full w' s m room (ns++[⟨b,k,v⟩]) es')∧Af (fun b=>b=s∨b=m∨b∈ns.map (·.b)) w w':=by
 have hlen:es.length=ns.length:=by have:=h.perm.length_eq;simpa using this
 have hm:∀ A,(w.alloc A).cell? ⟨s,1,none⟩=some (.map (some m)):=Cm h.raw.head rfl
 have hr:∀ A,(w.alloc A).cell? ⟨s,0,none⟩=some (.int .i64 room):=Cm h.raw.head rfl
 have hk:∀ A,(Instr.lookup 121 (.map (some m)) (.int .i64 k) true).run Tryd.prog (w.alloc A) = .ok (.tuple #[.pointer none,.bool false]) (w.alloc A) :=
   fun A=>(h.map.alloc A).Dh Tryd.underlying121 Tryd.underlying3 (DV _) k (h.D7 hn) true
 have hle:∀ A n ty,(Builtin.len_ #[121] ty #[.map (some m)]).run Tryd.prog ((w.alloc A).drewN n) = .ok (.int .i64 (ns.length:Int)) ((w.alloc A).drewN n):=by
   intro A n ty
   rw[←hlen]
   exact BX.Gw (w:=(w.alloc A).drewN n) (h.map.alloc A) Tryd.underlying121 ty
 have hneB:((ns.length:Int)==room)=false:=by simpa using hl
 go_enter Tryd.func79,Tryd.ntmps79
 go_wp2
 go_quiet (fail)
 obtain⟨w1,hw1⟩:∃ w1,World.drewN (w.alloc (.cells #[.int .i64 (v).1,.int .i64 (v).2.1,.int .i64 (v).2.2] 60)) nq=w1:=⟨_,rfl⟩
 have hk1:Af (fun _=>False) w w1:=by rw[←hw1];exact((Af.refl _ w).alloc _).drewN _
 have hz1:w1.heap.size=w.heap.size+1:=by rw[←hw1];exact size_alloc _ _
 have hv0:At w1 w.heap.size (.cells #[.int .i64 (v).1,.int .i64 (v).2.1,.int .i64 (v).2.2] 60 (0,0)):=by rw[←hw1];exact At.new w _
 have hv1:w1.cell? ⟨w.heap.size,0,none⟩=some (.int .i64 v.1):=hv0.cell rfl
 have hv2:w1.cell? ⟨w.heap.size,1,none⟩=some (.int .i64 v.2.1):=hv0.cell rfl
 have hv3:w1.cell? ⟨w.heap.size,2,none⟩=some (.int .i64 v.2.2):=hv0.cell rfl
 rw[hw1]
 clear hm hr hk hle hw1
 have h1:Full w1 s m room ns es:=h.keeps hk1 (fun _ _=>id)
 have hm:∀ A,(w1.alloc A).cell? ⟨s,1,none⟩=some (.map (some m)):=Cm h1.raw.head rfl
 go_wp2_with (at_mapUpdate;refine Dl rfl _ _ _ rfl Tryd.underlying121 Tryd.underlying3 rfl k rfl (np (some (w.heap.size+1))) rfl (h1.map.alloc _) (h1.D7 hn) ?_;intro w2 hm2 hk2 hz2)
 obtain⟨hr2,hn2,hd2⟩:=h1.laid ⟨w.heap.size+1,k,v⟩ hz1.symm hk2
 have hz2':w2.heap.size=w.heap.size+2:=by rw[hz2,size_alloc,hz1]
 refine(Dp _ s m room ns ⟨w.heap.size+1,k,v⟩ hr2 hn2 hd2).mono ?_
 rintro e w3 ⟨rfl,hr3,hk3,hz3⟩
 have hm3:BX w3 m (es++[(k,np (some (w.heap.size+1)))]):=hm2.of_heap (hk3.block m hm2.lt (fun x=>by
   have:=h1.map.lt
   simp only[List.map_append,List.map_cons,List.map_nil,List.mem_append,List.mem_cons,List.not_mem_nil,or_false]at x
   rcases x with x | x | x
   · exact h1.apart (by simp[x])
   · exact h1.apart (List.mem_cons_of_mem _ x)
   · have:=h.map.lt;omega))
 have hf:Full w3 s m room (ns++[⟨w.heap.size+1,k,v⟩]) (es++[(k,np (some (w.heap.size+1)))]):=h1.added ⟨w.heap.size+1,k,v⟩ hz1.symm hn hr3 hm3
 have hk:Af (fun b=>b=s∨b=m∨b∈ns.map (·.b)) w w3:=by
   refine(((hk1.mono (fun _ _ x=>x.elim)).alloc _).trans hk2 (fun _ _ x=> .inr (.inl x))).trans hk3 (fun i hi x => ?_)
   simp only[List.map_append,List.map_cons,List.map_nil,List.mem_append,List.mem_cons,List.not_mem_nil,or_false]at x ⊢
   rcases x with x | x | x
   · exact .inl x
   · exact .inr (.inr x)
   · omega
 have hz:w3.heap.size=w.heap.size+2:=by rw[hz3,hz2']
 clear hr2 hn2 hd2 hz2 hz2' hk2 hk3 hz3 hm2 hr3 hm3 hm h1 hz1 hk1
 go_wp2
 go_ret2
 exact⟨rfl,⟨_,_,by omega,by omega,hf⟩,hk⟩
theorem GZ(w:World)(s m:Nat)(room:Int)(n0:Node)(ns:List Node)(es:List (Int×Value))(k:Int)(v:V)(h:Full w s m room (n0 :: ns) es)(hn:k ∉ (n0 :: ns).map (·.k))(hl:((n0 :: ns).length:Int)=room) :
   Calls Tryd.prog 79 #[.pointer (some ⟨s,0,none⟩),.int .i64 k,(Value.agg #[.int .i64 (v).1,.int .i64 (v).2.1,.int .i64 (v).2.2])] w fun e w'=>e = .returned (.tuple #[.int .i64 n0.k,.bool true]) ∧
     (∃ b es',w.heap.size≤b∧b<w'.heap.size∧Full w' s m room (ns++[⟨b,k,v⟩]) es')∧Af (fun b=>b=s∨b=m∨b∈(n0 :: ns).map (·.b)) w w':=by
 have hlen:es.length=(n0 :: ns).length:=by have:=h.perm.length_eq;simpa using this
 have hm:∀ A,(w.alloc A).cell? ⟨s,1,none⟩=some (.map (some m)):=Cm h.raw.head rfl
 have hr:∀ A,(w.alloc A).cell? ⟨s,0,none⟩=some (.int .i64 room):=Cm h.raw.head rfl
 have hk:∀ A,(Instr.lookup 121 (.map (some m)) (.int .i64 k) true).run Tryd.prog (w.alloc A) = .ok (.tuple #[.pointer none,.bool false]) (w.alloc A) :=
   fun A=>(h.map.alloc A).Dh Tryd.underlying121 Tryd.underlying3 (DV _) k (h.D7 hn) true
 have hle:∀ A n ty,(Builtin.len_ #[121] ty #[.map (some m)]).run Tryd.prog ((w.alloc A).drewN n) = .ok (.int .i64 room) ((w.alloc A).drewN n):=by
   intro A n ty
   rw[←hl,←hlen]
   exact BX.Gw (w:=(w.alloc A).drewN n) (h.map.alloc A) Tryd.underlying121 ty
 have hneB:(room==room)=true:=by simp
 go_enter Tryd.func79,Tryd.ntmps79
 go_wp2
 go_quiet (fail)
 obtain⟨w1,hw1⟩:∃ w1,World.drewN (w.alloc (.cells #[.int .i64 (v).1,.int .i64 (v).2.1,.int .i64 (v).2.2] 60)) nq=w1:=⟨_,rfl⟩
 have hk1:Af (fun _=>False) w w1:=by rw[←hw1];exact((Af.refl _ w).alloc _).drewN _
 have hz1:w1.heap.size=w.heap.size+1:=by rw[←hw1];exact size_alloc _ _
 have hv0:At w1 w.heap.size (.cells #[.int .i64 (v).1,.int .i64 (v).2.1,.int .i64 (v).2.2] 60 (0,0)):=by rw[←hw1];exact At.new w _
 have hv1:w1.cell? ⟨w.heap.size,0,none⟩=some (.int .i64 v.1):=hv0.cell rfl
 have hv2:w1.cell? ⟨w.heap.size,1,none⟩=some (.int .i64 v.2.1):=hv0.cell rfl
 have hv3:w1.cell? ⟨w.heap.size,2,none⟩=some (.int .i64 v.2.2):=hv0.cell rfl
 rw[hw1]
 clear hm hr hk hle hw1
 have h1:Full w1 s m room (n0 :: ns) es:=h.keeps hk1 (fun _ _=>id)
 have hf1:w1.cell? ⟨s,2,none⟩=some (.pointer (some ⟨n0.b,0,none⟩)):=h1.raw.head.cell rfl
 have hf2:w1.cell? ⟨n0.b,0,none⟩=some (.int .i64 n0.k):=h1.raw.chain.1.cell rfl
 go_wp2_with fail
 refine(Hm _ s m room [] ns es n0 h1).mono ?_
 rintro e w1' ⟨rfl,hd1,hdk,hdz⟩
 have hkd:Af (fun b=>b=s∨b=m∨b∈(n0 :: ns).map (·.b)) w w1':=(hk1.mono (fun _ _ x=>x.elim)).trans hdk (fun _ _ x=>x)
 have hz1':w1'.heap.size=w.heap.size+1:=by rw[hdz,hz1]
 have hvo:¬ (w.heap.size=s∨w.heap.size=m∨w.heap.size∈(n0 :: ns).map (·.b)):=by
   intro x
   have:=h.lt x
   omega
 have hv0':=hdk.get hv0 hvo
 have hw1:w1'.cell? ⟨w.heap.size,0,none⟩=some (.int .i64 v.1):=hv0'.cell rfl
 have hw2:w1'.cell? ⟨w.heap.size,1,none⟩=some (.int .i64 v.2.1):=hv0'.cell rfl
 have hw3:w1'.cell? ⟨w.heap.size,2,none⟩=some (.int .i64 v.2.2):=hv0'.cell rfl
 clear hv0 hv1 hv2 hv3 hv0' hvo
 simp only[List.nil_append]at hd1
 have hn':k ∉ ns.map (·.k):=fun x=>hn (List.mem_cons_of_mem _ x)
 generalize es.eraseP (fun x=>x.1==n0.k)=es1 at hd1
 clear hf1 hf2 hk1 hz1 hdk hdz
 have hm:∀ A,(w1'.alloc A).cell? ⟨s,1,none⟩=some (.map (some m)):=Cm hd1.raw.head rfl
 go_wp2_with (at_mapUpdate;refine Dl rfl _ _ _ rfl Tryd.underlying121 Tryd.underlying3 rfl k rfl (np (some (w.heap.size+1))) rfl (hd1.map.alloc _) (hd1.D7 hn') ?_;intro w2 hm2 hk2 hz2)
 obtain⟨hr2,hn2,hd2⟩:=hd1.laid ⟨w.heap.size+1,k,v⟩ hz1'.symm hk2
 have hz2':w2.heap.size=w.heap.size+2:=by rw[hz2,size_alloc,hz1']
 refine(Dp _ s m room ns ⟨w.heap.size+1,k,v⟩ hr2 hn2 hd2).mono ?_
 rintro e w3 ⟨rfl,hr3,hk3,hz3⟩
 have hm3:BX w3 m (es1++[(k,np (some (w.heap.size+1)))]):=hm2.of_heap (hk3.block m hm2.lt (fun x=>by
   have:=hd1.map.lt
   simp only[List.map_append,List.map_cons,List.map_nil,List.mem_append,List.mem_cons,List.not_mem_nil,or_false]at x
   rcases x with x | x | x
   · exact hd1.apart (by simp[x])
   · exact hd1.apart (List.mem_cons_of_mem _ x)
   · omega))
 have hf:Full w3 s m room (ns++[⟨w.heap.size+1,k,v⟩]) (es1++[(k,np (some (w.heap.size+1)))]):=hd1.added ⟨w.heap.size+1,k,v⟩ hz1'.symm hn' hr3 hm3
 have hk:Af (fun b=>b=s∨b=m∨b∈(n0 :: ns).map (·.b)) w w3:=by
   refine((hkd.alloc _).trans hk2 (fun _ _ x=> .inr (.inl x))).trans hk3 (fun i hi x => ?_)
   simp only[List.map_append,List.map_cons,List.map_nil,List.mem_append,List.mem_cons,List.not_mem_nil,or_false]at x ⊢
   rcases x with x | x | x
   · exact .inl x
   · exact .inr (.inr (.inr x))
   · omega
 have hz:w3.heap.size=w.heap.size+2:=by rw[hz3,hz2']
 clear hr2 hn2 hd2 hz2 hz2' hk2 hk3 hz3 hm2 hr3 hm3 hm h1 hkd hd1
 go_wp2
 go_ret2
 exact⟨rfl,⟨_,_,by omega,by omega,hf⟩,hk⟩
theorem KX(w:World)(r:Int)(h1:1≤r)(h2:r≤4096) :
   Calls Tryd.prog 36 #[.int .i64 r] w fun e w'=>e = .returned (.tuple #[.pointer (some ⟨w.heap.size+1,0,none⟩),.int .i64 0])∧Full w' (w.heap.size+1) w.heap.size r [] []∧Af (fun _=>False) w w'∧w'.heap.size=w.heap.size+2:=by
 have hmm := @run_makeMap Tryd.prog
 have b1:decide (r<1)=false:=by simp;omega
 have b2:decide (4096<r)=false:=by simp;omega
 go_enter Tryd.func36,Tryd.ntmps36
 go_wp2
 go_ret2
 refine⟨rfl,⟨⟨?_,trivial,by simp⟩,⟨#[],0,(At.new _ _).alloc _,rfl⟩,List.Perm.refl _,List.nodup_nil,by simp⟩,((Af.refl _ _).alloc _).alloc _,by simp⟩
 have:=At.new (w.alloc (.map #[] 0)) (.cells #[.int .i64 r,.map (some w.heap.size),.pointer none,.pointer none] 124 (0,0))
 rw[size_alloc]at this
 exact this
def KQ(s m:Nat)(ns:List Node)(b:Nat):Prop:=b=s∨b=m∨b∈ns.map (·.b)
def Held(w:World)(s:Nat)(F:Nat→Prop)(room:Int)(L:List (Int×V)):Prop :=
 ∃ m ns es,Full w s m room ns es∧(∀ b,KQ s m ns b→F b)∧L=ns.map (fun n=>(n.k,n.v))
def More(F:Nat→Prop)(w w':World)(b:Nat):Prop:=F b∨(w.heap.size≤b∧b<w'.heap.size)
section
variable {w w':World}{s:Nat}{F G:Nat→Prop}{room:Int}{L:List (Int×V)}
theorem Held.keeps{S:Nat→Prop}(h:Held w s F room L)(hk:Af S w w')(hS:∀ b,F b→¬ S b):Held w' s F room L:=by
 obtain⟨m,ns,es,hf,hF,hL⟩:=h
 exact⟨m,ns,es,hf.keeps hk (fun b hb=>hS b (hF b hb)),hF,hL⟩
theorem Held.mono(h:Held w s F room L)(hFG:∀ b,F b→G b):Held w s G room L:=by
 obtain⟨m,ns,es,hf,hF,hL⟩:=h
 exact⟨m,ns,es,hf,fun b hb=>hFG b (hF b hb),hL⟩
theorem Held.mem(h:Held w s F room L):F s:=by
 obtain⟨m,ns,es,hf,hF,hL⟩:=h;exact hF s (.inl rfl)
theorem Held.nodup(h:Held w s F room L):(L.map (·.1)).Nodup:=by
 obtain⟨m,ns,es,hf,hF,rfl⟩:=h;rw[List.map_map];exact hf.keys
end
theorem FO{ns:List Node}{xs ys:List (Int×V)}{k:Int}{v:V}(h:xs++(k,v) :: ys=ns.map (fun n=>(n.k,n.v))) :
   ∃ ps n bs,ns=ps++n :: bs∧xs=ps.map (fun n=>(n.k,n.v))∧n.k=k∧n.v=v∧ys=bs.map (fun n=>(n.k,n.v)):=by
 obtain⟨ps,r,rfl,h1,h2⟩:=List.map_eq_append_iff.1 h.symm
 obtain⟨n,bs,rfl,h3,h4⟩:=List.map_eq_cons_iff.1 h2
 exact⟨ps,n,bs,rfl,h1.symm,(Prod.mk.inj h3).1,(Prod.mk.inj h3).2,h4.symm⟩
theorem Hy(w:World)(s:Nat)(F:Nat→Prop)(room:Int)(xs ys:List (Int×V))(k:Int)(v:V)(h:Held w s F room (xs++(k,v) :: ys)) :
   Calls Tryd.prog 77 #[.pointer (some ⟨s,0,none⟩),.int .i64 k] w fun e w'=>e = .returned (.tuple #[(Value.agg #[.int .i64 (v).1,.int .i64 (v).2.1,.int .i64 (v).2.2]),.bool true])∧Held w' s F room (xs++ys++[(k,v)])∧Af F w w':=by
 obtain⟨m,ns,es,hf,hF,hL⟩:=h
 obtain⟨ps,n,bs,rfl,rfl,rfl,rfl,rfl⟩:=FO hL
 refine(Ig w s m room ps bs es n hf).mono ?_
 rintro e w' ⟨rfl,hf',hk⟩
 refine⟨rfl,⟨m,ps++bs++[n],es,hf',fun b hb=>hF b ?_,by simp⟩,hk.mono fun b _ hb=>hF b ?_⟩
 · rcases hb with e | e | e
   · exact .inl e
   · exact .inr (.inl e)
   · refine .inr (.inr ?_)
     simp only[List.map_append,List.map_cons,List.map_nil,List.mem_append,List.mem_cons,List.not_mem_nil,or_false]at e ⊢
     rcases e with(e | e) | e <;> simp[e]
 · rcases hb with e | e
   · exact .inl e
   · exact .inr (.inr e)
theorem EC{ns:List Node}{L:List (Int×V)}{k:Int}(hL:L=ns.map (fun n=>(n.k,n.v)))(h:k ∉ L.map (·.1)):k ∉ ns.map (·.k):=by
 rw[hL,List.map_map]at h;exact h
theorem Ic(w:World)(s:Nat)(F:Nat→Prop)(room:Int)(L:List (Int×V))(k:Int)(h:Held w s F room L)(hn:k ∉ L.map (·.1)) :
   Calls Tryd.prog 77 #[.pointer (some ⟨s,0,none⟩),.int .i64 k] w fun e w'=>e = .returned (.tuple #[(Value.agg #[.int .i64 0,.int .i64 0,.int .i64 0]),.bool false])∧Af (fun _=>False) w w':=by
 obtain⟨m,ns,es,hf,hF,hL⟩:=h
 exact Ja w s m room ns es k hf (EC hL hn)
theorem GV(w:World)(s:Nat)(F:Nat→Prop)(room:Int)(L:List (Int×V))(k:Int)(v:V)(h:Held w s F room L)(hn:k ∉ L.map (·.1))(hl:(L.length:Int)≠room) :
   Calls Tryd.prog 79 #[.pointer (some ⟨s,0,none⟩),.int .i64 k,(Value.agg #[.int .i64 (v).1,.int .i64 (v).2.1,.int .i64 (v).2.2])] w fun e w'=>e = .returned (.tuple #[.int .i64 0,.bool false])∧Held w' s (More F w w') room (L++[(k,v)])∧Af F w w':=by
 obtain⟨m,ns,es,hf,hF,hL⟩:=h
 refine(Ir w s m room ns es k v hf (EC hL hn) (by rw[hL]at hl;simpa using hl)).mono ?_
 rintro e w' ⟨rfl,⟨b,es',h1,h2,hf'⟩,hk⟩
 refine⟨rfl,⟨m,_,es',hf',fun i hi => ?_,by simp[hL]⟩,hk.mono fun i _ hi=>hF i hi⟩
 rcases hi with e | e | e
 · exact .inl (hF i (.inl e))
 · exact .inl (hF i (.inr (.inl e)))
 · simp only[List.map_append,List.map_cons,List.map_nil,List.mem_append,List.mem_cons,List.not_mem_nil,or_false]at e
   rcases e with e | e
   · exact .inl (hF i (.inr (.inr e)))
   · exact .inr (by omega)
theorem FY(w:World)(s:Nat)(F:Nat→Prop)(room:Int)(x:Int×V)(L:List (Int×V))(k:Int)(v:V)(h:Held w s F room (x :: L))(hn:k ∉ (x :: L).map (·.1))(hl:((x :: L).length:Int)=room) :
   Calls Tryd.prog 79 #[.pointer (some ⟨s,0,none⟩),.int .i64 k,(Value.agg #[.int .i64 (v).1,.int .i64 (v).2.1,.int .i64 (v).2.2])] w fun e w'=>e = .returned (.tuple #[.int .i64 x.1,.bool true])∧Held w' s (More F w w') room (L++[(k,v)])∧Af F w w':=by
 obtain⟨m,ns,es,hf,hF,hL⟩:=h
 obtain⟨n0,ns,rfl,rfl,rfl⟩:=List.map_eq_cons_iff.1 hL.symm
 refine(GZ w s m room n0 ns es k v hf (EC hL hn) (by simpa using hl)).mono ?_
 rintro e w' ⟨rfl,⟨b,es',h1,h2,hf'⟩,hk⟩
 refine⟨rfl,⟨m,_,es',hf',fun i hi => ?_,by simp⟩,hk.mono fun i _ hi=>hF i hi⟩
 rcases hi with e | e | e
 · exact .inl (hF i (.inl e))
 · exact .inl (hF i (.inr (.inl e)))
 · simp only[List.map_append,List.map_cons,List.map_nil,List.mem_append,List.mem_cons,List.not_mem_nil,or_false]at e
   rcases e with e | e
   · exact .inl (hF i (.inr (.inr (by simp[e]))))
   · exact .inr (by omega)
theorem hnew(w:World)(r:Int)(h1:1≤r)(h2:r≤4096) :
   Calls Tryd.prog 36 #[.int .i64 r] w fun e w'=>e = .returned (.tuple #[.pointer (some ⟨w.heap.size+1,0,none⟩),.int .i64 0])∧Held w' (w.heap.size+1) (fun b=>b=w.heap.size∨b=w.heap.size+1) r [] ∧
     Af (fun _=>False) w w'∧w'.heap.size=w.heap.size+2:=by
 refine(KX w r h1 h2).mono ?_
 rintro e w' ⟨rfl,hf,hk,hz⟩
 refine⟨rfl,⟨_,[],[],hf,fun i hi => ?_,rfl⟩,hk,hz⟩
 rcases hi with e | e | e
 · exact .inr e
 · exact .inl e
 · simp at e
theorem JL{w:World}{s m:Nat}{room:Int}{xs ys:List Node}{n:Node}{es:List (Int×Value)}(h:Full w s m room (xs++n :: ys) es)(v:V) :
   ∃ e l,At w n.b (BH n e l)∧∀ w',At w' n.b (BH ⟨n.b,n.k,v⟩ e l)→(∀ b,b≠n.b→w'.heap[b]? = w.heap[b]?)→Full w' s m room (xs++(⟨n.b,n.k,v⟩:Node) :: ys) es:=by
 obtain⟨c1,c2⟩:=BD.1 h.raw.chain
 have hd:=h.raw.nodup
 have hb:(xs++(⟨n.b,n.k,v⟩:Node) :: ys).map (·.b)=(xs++n :: ys).map (·.b):=by simp
 have hks:(xs++(⟨n.b,n.k,v⟩:Node) :: ys).map (·.k)=(xs++n :: ys).map (·.k):=by simp
 have hp:(xs++(⟨n.b,n.k,v⟩:Node) :: ys).map (fun n=>(n.k,np (some n.b)))=(xs++n :: ys).map (fun n=>(n.k,np (some n.b))):=by simp
 have hsn:s≠n.b:=by
   intro e;exact(List.nodup_cons.1 hd).1 (by rw[e];simp)
 have hmn:m≠n.b:=by
   intro e;exact h.apart (by rw[e];simp)
 have hd2:=(List.nodup_cons.1 hd).2
 rw[List.map_append,List.map_cons]at hd2
 have hx:∀ x∈xs,x.b≠n.b:=by
   intro x hx e
   exact(List.nodup_append.1 hd2).2.2 x.b (List.mem_map.2 ⟨x,hx,rfl⟩) n.b (by simp) e
 have hy:∀ y∈ys,y.b≠n.b:=by
   intro y hy e
   exact(List.nodup_cons.1 (List.nodup_append.1 hd2).2.1).1 (by rw[←e];exact List.mem_map.2 ⟨y,hy,rfl⟩)
 refine⟨_,_,c2.1,fun w' hn' ho=>⟨⟨(by rw[DW,Eg];have:=h.raw.head;rw[DW,Eg]at this;exact(ho s hsn).trans this),BD.2 ⟨Cc (fun x hxx=>ho _ (hx x hxx)) c1,hn',Cc (fun y hyy=>ho _ (hy y hyy)) c2.2⟩,by rw[hb];exact hd⟩,h.map.of_heap (ho m hmn),by rw[hp];exact h.perm,by rw[hks];exact h.keys,by rw[hb];exact h.apart⟩⟩
theorem Lu(w:World)(s m:Nat)(room:Int)(xs ys:List Node)(n:Node)(es:List (Int×Value))(v:V)(h:Full w s m room (xs++n :: ys) es) :
   Calls Tryd.prog 79 #[.pointer (some ⟨s,0,none⟩),.int .i64 n.k,(Value.agg #[.int .i64 (v).1,.int .i64 (v).2.1,.int .i64 (v).2.2])] w fun e w'=>e = .returned (.tuple #[.int .i64 0,.bool false]) ∧
     Full w' s m room (xs++ys++[⟨n.b,n.k,v⟩]) es∧Af (fun b=>b=s∨b∈(xs++n :: ys).map (·.b)) w w':=by
 have hlt:=fun b hb=>h.lt (b:=b) hb
 have hm:∀ A,(w.alloc A).cell? ⟨s,1,none⟩=some (.map (some m)):=Cm h.raw.head rfl
 have hl:∀ A,(Instr.lookup 121 (.map (some m)) (.int .i64 n.k) true).run Tryd.prog (w.alloc A) = .ok (.tuple #[.pointer (some ⟨n.b,0,none⟩),.bool true]) (w.alloc A) :=
   fun A=>(h.map.alloc A).DF Tryd.underlying121 Tryd.underlying3 n.k _ h.entries (h.mem (by simp)) true
 obtain⟨e,l,hA,hV⟩:=JL h v
 obtain⟨e0,l0,hB⟩:=h.raw.chain.node (n:=n) (by simp)
 have a1:w.cell? ⟨n.b,1,none⟩=some (.int .i64 n.v.1):=hB.cell rfl
 have a2:w.cell? ⟨n.b,2,none⟩=some (.int .i64 n.v.2.1):=hB.cell rfl
 have a3:w.cell? ⟨n.b,3,none⟩=some (.int .i64 n.v.2.2):=hB.cell rfl
 have f1:w.frozen? ⟨n.b,1,none⟩=false:=hB.free 1
 have f2:w.frozen? ⟨n.b,2,none⟩=false:=hB.free 2
 have f3:w.frozen? ⟨n.b,3,none⟩=false:=hB.free 3
 have HA:=Lib.hid (And.intro hA hV)
 clear hA hV hB
 go_enter Tryd.func79,Tryd.ntmps79
 go_wp2_with fail
 obtain⟨w2,hw2⟩:∃ w2,(((w.setCell ⟨n.b,1,none⟩ (.int .i64 v.1)).setCell ⟨n.b,2,none⟩ (.int .i64 v.2.1)).setCell ⟨n.b,3,none⟩ (.int .i64 v.2.2)).alloc (.cells #[.int .i64 (v).1,.int .i64 (v).2.1,.int .i64 (v).2.2] 60)=w2:=⟨_,rfl⟩
 have hF:Full w2 s m room (xs++(⟨n.b,n.k,v⟩:Node) :: ys) es:=by
   rw[←hw2]
   refine Full.alloc (HA.out.2 _ ?_ (fun b hb=>by rw[heap_setCell,if_neg (fun e=>hb e.symm),heap_setCell,if_neg (fun e=>hb e.symm),heap_setCell,if_neg (fun e=>hb e.symm)])) _
   exact((HA.out.1.BZ 1 (.int .i64 v.1)).BZ 2 (.int .i64 v.2.1)).BZ 3 (.int .i64 v.2.2)
 have hk2:Af (fun b=>b=s∨b∈(xs++n :: ys).map (·.b)) w w2:=by
   rw[←hw2]
   exact((((Af.refl _ w).setCell (.inl (.inr (by simp)))).setCell (.inl (.inr (by simp)))).setCell (.inl (.inr (by simp)))).alloc _
 rw[hw2]
 clear hw2 hm hl a1 a2 a3 f1 f2 f3 HA
 have hnd:(s :: (xs++ys++[(⟨n.b,n.k,v⟩:Node)]).map (·.b)).Nodup:=by
   have:=hF.raw.nodup
   have hp:(s :: (xs++(⟨n.b,n.k,v⟩:Node) :: ys).map (·.b)).Perm (s :: (xs++ys++[(⟨n.b,n.k,v⟩:Node)]).map (·.b)):=by
     refine List.Perm.cons _ (List.Perm.map _ ?_)
     rw[List.append_assoc];exact List.Perm.append_left xs (List.perm_append_singleton _ ys).symm
   exact hp.nodup_iff.1 this
 refine(DK w2 s m room xs ys ⟨n.b,n.k,v⟩ hF.raw).mono ?_
 rintro e w3 ⟨rfl,hr3,hn3,hk3,hz3⟩
 go_wp2_with fail
 refine(Dp w3 s m room (xs++ys) ⟨n.b,n.k,v⟩ hr3 hn3 hnd).mono ?_
 rintro e w4 ⟨rfl,hr4,hk4,hz4⟩
 have hkk:Af (fun b=>b=s∨b∈(xs++n :: ys).map (·.b)) w2 w4:=by
   refine(hk3.mono (T:=fun b=>b=s∨b∈(xs++n :: ys).map (·.b)) (fun i _ x=>by simpa using x)).trans hk4 (fun i hi x => ?_)
   simp only[List.map_append,List.map_cons,List.map_nil,List.mem_append,List.mem_cons,List.not_mem_nil,or_false]at x ⊢
   rcases x with x | (x | x) | x <;> simp[x]
 have hf:Full w4 s m room (xs++ys++[(⟨n.b,n.k,v⟩:Node)]) es:=hF.moved hr4 (hkk.block m hF.map.lt (fun x=>hF.apart (List.mem_cons.2 (by simpa using x))))
 have hkf:=hk2.trans hkk (fun _ _ x=>x)
 clear hr3 hn3 hk3 hr4 hk4 hF hnd
 go_wp2
 go_ret2
 exact⟨rfl,hf,hkf⟩
end Go.Proofs.YtjdkigkknhefpaaDoor.Sl
namespace Go.Proofs.YtjdkigkknhefpaaDoor.Tl
open Go.RowKit Go.Proofs.YtjdkigkknhefpaaDoor.Mem Go.Proofs.YtjdkigkknhefpaaDoor.Sl
set_option linter.unusedSimpArgs false
set_option linter.unusedVariables false
abbrev ES(v:V):Value:= .agg #[.int .i64 v.1,.int .i64 v.2.1,.int .i64 v.2.2]
def fine(v:V):Bool:=decide (0≤v.1)&&decide (v.1<256)&&decide (0≤v.2.1)&&decide (v.2.1<1024)&&decide (0≤v.2.2)&&decide (v.2.2≤7)
def CW(w:World)(t:Nat)(F:Nat→Prop)(L:List (Int×V)):Prop :=
 ∃ s G,At w t (.cells #[.pointer (some ⟨s,0,none⟩)] 102 (0,0))∧Held w s G 4 L∧L.length≤4∧¬ G t∧F t∧(∀ b,G b→F b)∧(∀ b,F b→b<w.heap.size)
theorem Jn(w:World)(v:V):Calls Tryd.prog 78 #[ES v] w fun e w'=>e = .returned (.bool (fine v))∧Af (fun _=>False) w w':=by
 unfold fine
 by_cases h1:0≤v.1
 case neg =>
  have b1:decide (0≤v.1)=false:=decide_eq_false h1
  clear h1
  go_enter Tryd.func78,Tryd.ntmps78
  go_wp2
  go_ret
  refine⟨?_,(Af.refl _ _).alloc _⟩
  simp[b1]
 by_cases h2:v.1<256
 case neg =>
  have b1:decide (0≤v.1)=true:=decide_eq_true h1
  have b2:decide (v.1<256)=false:=decide_eq_false h2
  clear h1 h2
  go_enter Tryd.func78,Tryd.ntmps78
  go_wp2
  go_ret
  refine⟨?_,(Af.refl _ _).alloc _⟩
  simp[b1,b2]
 by_cases h3:0≤v.2.1
 case neg =>
  have b1:decide (0≤v.1)=true:=decide_eq_true h1
  have b2:decide (v.1<256)=true:=decide_eq_true h2
  have b3:decide (0≤v.2.1)=false:=decide_eq_false h3
  clear h1 h2 h3
  go_enter Tryd.func78,Tryd.ntmps78
  go_wp2
  go_ret
  refine⟨?_,(Af.refl _ _).alloc _⟩
  simp[b1,b2,b3]
 by_cases h4:v.2.1<1024
 case neg =>
  have b1:decide (0≤v.1)=true:=decide_eq_true h1
  have b2:decide (v.1<256)=true:=decide_eq_true h2
  have b3:decide (0≤v.2.1)=true:=decide_eq_true h3
  have b4:decide (v.2.1<1024)=false:=decide_eq_false h4
  clear h1 h2 h3 h4
  go_enter Tryd.func78,Tryd.ntmps78
  go_wp2
  go_ret
  refine⟨?_,(Af.refl _ _).alloc _⟩
  simp[b1,b2,b3,b4]
 by_cases h5:0≤v.2.2
 case neg =>
  have b1:decide (0≤v.1)=true:=decide_eq_true h1
  have b2:decide (v.1<256)=true:=decide_eq_true h2
  have b3:decide (0≤v.2.1)=true:=decide_eq_true h3
  have b4:decide (v.2.1<1024)=true:=decide_eq_true h4
  have b5:decide (0≤v.2.2)=false:=decide_eq_false h5
  clear h1 h2 h3 h4 h5
  go_enter Tryd.func78,Tryd.ntmps78
  go_wp2
  go_ret
  refine⟨?_,(Af.refl _ _).alloc _⟩
  simp[b1,b2,b3,b4,b5]
 by_cases h6:v.2.2≤7
 case neg =>
  have b1:decide (0≤v.1)=true:=decide_eq_true h1
  have b2:decide (v.1<256)=true:=decide_eq_true h2
  have b3:decide (0≤v.2.1)=true:=decide_eq_true h3
  have b4:decide (v.2.1<1024)=true:=decide_eq_true h4
  have b5:decide (0≤v.2.2)=true:=decide_eq_true h5
  have b6:decide (v.2.2≤7)=false:=decide_eq_false h6
  clear h1 h2 h3 h4 h5 h6
  go_enter Tryd.func78,Tryd.ntmps78
  go_wp2
  go_ret
  refine⟨?_,(Af.refl _ _).alloc _⟩
  simp[b1,b2,b3,b4,b5,b6]
 have b1:decide (0≤v.1)=true:=decide_eq_true h1
 have b2:decide (v.1<256)=true:=decide_eq_true h2
 have b3:decide (0≤v.2.1)=true:=decide_eq_true h3
 have b4:decide (v.2.1<1024)=true:=decide_eq_true h4
 have b5:decide (0≤v.2.2)=true:=decide_eq_true h5
 have b6:decide (v.2.2≤7)=true:=decide_eq_true h6
 clear h1 h2 h3 h4 h5 h6
 go_enter Tryd.func78,Tryd.ntmps78
 go_wp2
 go_ret
 refine⟨?_,(Af.refl _ _).alloc _⟩
 simp[b1,b2,b3,b4,b5,b6]
theorem Lc(w:World)(s:Nat)(F:Nat→Prop)(room:Int)(xs ys:List (Int×V))(k:Int)(v0 v:V)(h:Held w s F room (xs++(k,v0) :: ys)) :
   Calls Tryd.prog 79 #[.pointer (some ⟨s,0,none⟩),.int .i64 k,ES v] w fun e w'=>e = .returned (.tuple #[.int .i64 0,.bool false])∧Held w' s F room (xs++ys++[(k,v)])∧Af F w w':=by
 obtain⟨m,ns,es,hf,hF,hL⟩:=h
 obtain⟨ps,n,bs,rfl,rfl,rfl,rfl,rfl⟩:=FO hL
 refine(Lu w s m room ps bs n es v hf).mono ?_
 rintro e w' ⟨rfl,hf',hk⟩
 refine⟨rfl,⟨m,ps++bs++[⟨n.b,n.k,v⟩],es,hf',fun b hb=>hF b ?_,by simp⟩,hk.mono fun b _ hb=>hF b ?_⟩
 · rcases hb with e | e | e
   · exact .inl e
   · exact .inr (.inl e)
   · refine .inr (.inr ?_)
     simp only[List.map_append,List.map_cons,List.map_nil,List.mem_append,List.mem_cons,List.not_mem_nil,or_false]at e ⊢
     rcases e with(e | e) | e <;> simp[e]
 · rcases hb with e | e
   · exact .inl e
   · exact .inr (.inr e)
def EH(L:List (Int×V))(k:Int)(v:V):List (Int×V):=if k∈L.map (·.1)then L.filter (fun x=>x.1≠k)++[(k,v)]else if L.length=4 then L.tail++[(k,v)]else L++[(k,v)]
theorem GI{xs ys:List (Int×V)}{k:Int}{v:V}(h:((xs++(k,v) :: ys).map (·.1)).Nodup):(xs++(k,v) :: ys).filter (fun x=>x.1≠k)=xs++ys:=by
 rw[List.map_append,List.map_cons]at h
 have h1:∀ x∈xs,x.1≠k:=fun x hx e=>(List.nodup_append.1 h).2.2 x.1 (List.mem_map.2 ⟨x,hx,rfl⟩) k (by simp) e
 have h2:∀ x∈ys,x.1≠k:=fun x hx e=>(List.nodup_cons.1 (List.nodup_append.1 h).2.1).1 (by rw[←e];exact List.mem_map.2 ⟨x,hx,rfl⟩)
 rw[List.filter_append,List.filter_cons_of_neg (by simp),List.filter_eq_self.2 (fun x hx=>by simpa using h1 x hx),List.filter_eq_self.2 (fun x hx=>by simpa using h2 x hx)]
theorem KY(w:World)(s:Nat)(F:Nat→Prop)(L:List (Int×V))(k:Int)(v:V)(h:Held w s F 4 L)(hl:L.length≤4) :
   Calls Tryd.prog 79 #[.pointer (some ⟨s,0,none⟩),.int .i64 k,ES v] w fun e w'=>(∃ x y,e = .returned (.tuple #[x,y]))∧Held w' s (More F w w') 4 (EH L k v)∧(EH L k v).length≤4∧Af F w w':=by
 unfold EH
 by_cases hin:k∈L.map (·.1)
 · rw[if_pos hin]
   obtain⟨⟨k',v0⟩,hx,rfl⟩:=List.mem_map.1 hin
   obtain⟨xs,ys,rfl⟩:=List.append_of_mem hx
   rw[GI h.nodup]
   refine(Lc w s F 4 xs ys _ v0 v h).mono ?_
   rintro e w' ⟨rfl,hh,hk⟩
   refine⟨⟨_,_,rfl⟩,hh.mono (fun b hb=> .inl hb), ?_,hk⟩
   simp at hl ⊢;omega
 · rw[if_neg hin]
   by_cases h4:L.length=4
   · rw[if_pos h4]
     obtain⟨x,L,rfl⟩:∃ x L',L=x :: L':=by cases L with | nil=>simp at h4 | cons x L=>exact⟨x,L,rfl⟩
     refine(FY w s F 4 x L k v h hin (by simp at h4 ⊢;omega)).mono ?_
     rintro e w' ⟨rfl,hh,hk⟩
     exact⟨⟨_,_,rfl⟩,hh,by simp at h4 ⊢;omega,hk⟩
   · rw[if_neg h4]
     refine(GV w s F 4 L k v h hin (by omega)).mono ?_
     rintro e w' ⟨rfl,hh,hk⟩
     exact⟨⟨_,_,rfl⟩,hh,by simp;omega,hk⟩
theorem tnew(w:World):Calls Tryd.prog 26 #[] w fun e w'=>∃ t,e = .returned (.pointer (some ⟨t,0,none⟩))∧CW w' t (fun b=>w.heap.size≤b∧b<w'.heap.size) []∧Af (fun _=>False) w w':=by
 go_enter Tryd.func26,Tryd.ntmps26
 go_wp2_with fail
 refine(hnew w 4 (by omega) (by omega)).mono ?_
 rintro e w1 ⟨rfl,hh,hk,hz⟩
 have HZ:=Lib.hid hz
 clear hz
 go_wp2
 go_ret
 have hz:=HZ.out
 have hk':Af (fun _=>False) w1 (w1.alloc (.cells #[.pointer (some ⟨w.heap.size+1,0,none⟩)] 102)):=(Af.refl _ _).alloc _
 refine⟨w1.heap.size,rfl,⟨_,_,At.new w1 _,hh.keeps hk' (fun _ _=>id),by simp,by omega,⟨by omega,by rw[size_alloc];omega⟩,fun b hb => ?_,fun b hb=>hb.2⟩,hk.trans hk' (fun _ _ x=>x)⟩
 rw[size_alloc];omega
end Go.Proofs.YtjdkigkknhefpaaDoor.Tl
namespace Go.Proofs.YtjdkigkknhefpaaDoor.Rng
open Go.RowKit Go.Proofs.YtjdkigkknhefpaaDoor.Mem
set_option linter.unusedSimpArgs false
set_option linter.unusedVariables false
set_option linter.unnecessarySimpa false
theorem F8{P:Program}(w:World)(base:Nat)(t ty e:TypeId)(i:TypeInfo)(z:Value)(ht:P.underlying t=some (.slice e))(hi:P.info? e=some i)(hz:i.zero=some z)
   (hsize:i.size=0) (hby:i.bytes=0) (hzs:z.cells.size=0) (v:Value) (n:Nat) (hown:w.ownsRow base e 0 v n []) (a:Addr) (c:Nat) (h63:n+1≤maxLen) (hbase:base≤w.heap.size) :
   ∃ v' w',(Builtin.append_ #[t,t] ty #[v,.slice (some a) 1 c]).run P w = .ok v' w'∧w'.ownsRow base e 0 v' (n+1) []∧w.grownBy w' v.ownBlock:=by
 have hsmall:n+1≤9223372036854775807:=by simp only[maxLen]at h63;omega
 rcases hown.2 with⟨rfl,rfl⟩ | ⟨g,cap,cur,rfl,hbg,hg,hnc,hcm,hcs,htake⟩
 · have hr:=run_append_nil (P:=P) w t ty e i z ht hi hz a 1 c [] (by simp[hsize]) (by simp) (by omega) (by omega) (by simp[hby])
   refine⟨_,_,hr,⟨by simp,.inr ⟨w.heap.size,_,_,rfl,hbase,heap_alloc_new w.drew _,grownCap_ge _ _ _ _,grownCap_le_maxLen _ _ _ _ (by simpa using h63), ?_,by simp⟩⟩,⟨rfl,rfl,rfl,by simp,fun k hk _=>heap_alloc_old w.drew _ hk⟩⟩
   simp[Builtin.zeroCells,hzs]
 · by_cases hroom:n+1≤cap
   · have hcz:cur = #[]:=Array.eq_empty_of_size_eq_zero (by simpa using hcs)
     have hr:=run_append_room (P:=P) w t ty e i ht hi g n cap cur hg a 1 c [] (by simp[hsize]) (by simp) (by simp) hroom (by simp[hsize])
     refine⟨_,_,hr,⟨by simp,.inr ⟨g,cap,_,rfl,hbg,setRow_heap w g cur _ e _ hg,hroom,hcm, ?_,by simp⟩⟩,⟨rfl,rfl,rfl,by simp,fun k _ hk=>setRow_other w g k _ (fun e=>hk (by simp[Value.ownBlock,e]))⟩⟩
     simp[hcz]
   · have hr:=run_append_grow (P:=P) w t ty e i z ht hi hz ⟨g,0,none⟩ n cap [] (by simp[hsize]) (by simp) a 1 c [] (by simp[hsize]) (by simp) (by omega) (by omega) (by simp[hby])
     refine⟨_,_,hr,⟨by simp,.inr ⟨w.heap.size,_,_,rfl,hbase,heap_alloc_new w.drew _,grownCap_ge _ _ _ _,grownCap_le_maxLen _ _ _ _ h63, ?_,by simp⟩⟩,⟨rfl,rfl,rfl,by simp,fun k hk _=>heap_alloc_old w.drew _ hk⟩⟩
     simp[Builtin.zeroCells,hzs]
end Go.Proofs.YtjdkigkknhefpaaDoor.Rng
namespace Go.Proofs.YtjdkigkknhefpaaDoor.Held
open Go
set_option linter.unusedSimpArgs false
set_option linter.unusedVariables false
section
variable {P:Program}{ops:Array Oper}{Q:Exit→Act→World→Prop}{md:Region.Mode}{C:World→Prop}{late:Nat}
def Closed(md:Region.Mode)(ops:Array Oper)(listed:Array Bool):Prop :=
 ∀ j oj,ops[j]? = some oj→listed.getD j false=true→∀ e∈oj.after,Region.binds md e=true→listed.getD e.on false=true
def F6(md:Region.Mode)(ops:Array Oper):Nat→Nat→List Nat
 | 0,_=>[]
 | f+1,j=>match ops[j]? with
  | none=>[]
  | some o=>o.after.toList.flatMap fun e=>if Region.binds md e then e.on :: F6 md ops f e.on else[]
theorem FU{listed:Array Bool}(hc:Closed md ops listed):∀ (f j:Nat) (o:Oper),ops[j]? = some o→(∀ e∈o.after,Region.binds md e=true→listed.getD e.on false=true)→∀ m∈F6 md ops f j,listed.getD m false=true:=by
 intro f
 induction f with
 | zero=>intro j o _ _ m hm;simp[F6]at hm
 | succ f ih =>
  intro j o ho ha m hm
  simp only[F6,ho,List.mem_flatMap]at hm
  obtain⟨e,he,hm⟩:=hm
  have he':e∈o.after:=by simpa using he
  split at hm
  ·rename_i hb
   have h1:=ha e he' hb
   rcases List.mem_cons.1 hm with rfl | hm
   ·exact h1
   cases hoe:ops[e.on]? with
   | none=>cases f <;> simp[F6,hoe]at hm
   | some oe=>exact ih e.on oe hoe (hc e.on oe hoe h1) m hm
  cases hm
theorem CZ{listed:Array Bool}{i:Nat}(hc:Closed md ops listed)(hi:i∈Region.ready md ops listed):Closed md ops (listed.setIfInBounds i true):=by
 intro j oj hj hl e he hb
 by_cases hij:i=j
 ·subst hij
  obtain⟨-,o,ho,hall⟩:=mem_ready.1 hi
  rw[hj]at ho;cases ho
  exact getD_set_true (hall e he hb)
 rw[getD_set_ne false hij]at hl
 exact getD_set_true (hc j oj hj hl e he hb)
def Dc(P:Program)(md:Region.Mode)(ops:Array Oper)(Q:Exit→Act→World→Prop)(late:Nat)(C:World→Prop):Nat→Array Bool→Act→World→Prop
 | 0,listed,a,w=>Region.ready md ops listed=[]∧Q .normal a w
 | fuel+1,listed,a,w =>
  (Region.ready md ops listed=[]→Q .normal a w) ∧
  ∀ i∈Region.ready md ops listed,wpOp P ops Q i (fun a' w'=>(i≠late→C w')∧Dc P md ops Q late C fuel (listed.setIfInBounds i true) a' w') a w
theorem first{i:Nat}{oi:Oper}{v:Value}(hl:(F6 md ops ops.size late).contains i=true)(hi:ops[i]? = some oi)(hsel:∀ (j:Nat) (o:Oper) cs b,ops[j]? = some o→o.op ≠ .select cs b)
   (hQ:∀ c a w,Q (.panic c) (a.put oi.dst v) w→Q (.panic c) a w) :
   ∀ (fuel:Nat) (listed:Array Bool) (a:Act) (w:World),Closed md ops listed →
     (∀ j oj,ops[j]? = some oj→j≠i→listed.getD j true=false→(∀ e∈oj.after,Region.binds md e=true→e.on≠i)→oi.apart ops oj=true) →
     i∈Region.ready md ops listed→YieldsIf P ops C oi v a→C w →
     Dc P md ops Q late C fuel (listed.setIfInBounds i true) (a.put oi.dst v) w→Dc P md ops Q late C (fuel+1) listed a w:=by
 intro fuel
 induction fuel with
 | zero =>
   intro listed a w _ _ hr hy hS H
   refine⟨fun h=>(by rw[h]at hr;cases hr),fun j hj => ?_⟩
   by_cases hji:j=i
   · subst hji;exact hy.wpOp hi hS ⟨fun _=>hS,H⟩
   · have:=ready_mono hj hji
     rw[H.1]at this
     cases this
 | succ fuel ih =>
   intro listed a w hcl hfree hr hy hS H
   refine⟨fun h=>(by rw[h]at hr;cases hr),fun j hj => ?_⟩
   by_cases hji:j=i
   · subst hji;exact hy.wpOp hi hS ⟨fun _=>hS,H⟩
   · have h1:=H.2 j (ready_mono hj hji)
     obtain⟨hjun,oj,hoj,hall⟩:=mem_ready.1 hj
     have hnot:∀ e∈oj.after,Region.binds md e=true→e.on≠i:=fun e he hb heq=>by
       have h1:=hall e he hb
       have h0:=(mem_ready.1 hr).1
       rw[heq]at h1
       rcases Nat.lt_or_ge i listed.size with h' | h'
       · simp[h']at h0 h1;rw[h0]at h1;cases h1
       · simp[Array.getElem?_eq_none h']at h1
     have hjl:j≠late:=by
       rintro rfl
       have h0:=(mem_ready.1 hr).1
       have h1:=FU hcl ops.size j oj hoj hall i (by simpa using hl)
       rcases Nat.lt_or_ge i listed.size with h' | h'
       · simp[h']at h0 h1;rw[h0]at h1;cases h1
       · simp[Array.getElem?_eq_none h']at h1
     have h2:=wpOp_putIf hoj (hfree j oj hoj hji hjun hnot) (fun cs b=>hsel i oi cs b hi) (fun cs b=>hsel j oj cs b hoj) hQ hy h1
     have hfree':∀ k ok,ops[k]? = some ok→k≠i→(listed.setIfInBounds j true).getD k true=false →
         (∀ e∈ok.after,Region.binds md e=true→e.on≠i)→oi.apart ops ok=true:=fun k ok hk hki hun hno=>by
       refine hfree k ok hk hki ?_ hno
       by_cases hjk:j=k
       · subst hjk;exact hjun
       · rw[getD_set_ne true hjk]at hun;exact hun
     refine wpOp_mono (fun a' w' h3=>⟨fun _=>h3.2.1 hjl,ih (listed.setIfInBounds j true) a' w' (CZ hcl hj) hfree' (ready_mono hr (Ne.symm hji)) h3.1 (h3.2.1 hjl) ?_⟩) h2
     rw[Array.setIfInBounds_comm _ _ hji]
     exact h3.2.2
structure Way(P:Program)(md:Region.Mode)(ops:Array Oper)(Q:Exit→Act→World→Prop)(late:Nat)(C:World→Prop)(fuel:Nat)(listed:Array Bool)(a:Act)(w:World):Prop where
 out:Closed md ops listed→C w→Dc P md ops Q late C fuel listed a w
theorem Way.take(i:Nat){oi:Oper}{v:Value}{fuel:Nat}{listed listed':Array Bool}{a a':Act}{w:World}(hi:ops[i]? = some oi)(hl:(F6 md ops ops.size late).contains i=true)
   (hs:Region.noSelect ops=true) (hf:Region.free md ops listed i=true) (hr:(Region.ready md ops listed).contains i=true)
   (hQ:∀ c a w,Q (.panic c) (a.put oi.dst v) w→Q (.panic c) a w) (hy:YieldsIf P ops C oi v a) (hL:listed.setIfInBounds i true=listed') (ha:a.put oi.dst v=a')
   (h:Way P md ops Q late C fuel listed' a' w):Way P md ops Q late C (fuel+1) listed a w:=by
 subst hL;subst ha
 have hr':i∈Region.ready md ops listed:=by simpa using hr
 exact⟨fun hc hC=>first hl hi (Region.noSelect_spec hs) hQ fuel listed a w hc (Region.free_spec hi hf) hr' hy hC (h.out (CZ hc hr') hC)⟩
theorem Way.go(i:Nat){o:Oper}{v:Value}{fuel:Nat}{listed listed':Array Bool}{a a':Act}{w w':World}(hi:ops[i]? = some o)(hr:Region.ready md ops listed=[i])(hw:Region.wanted o (yielded ops a.tmps)=true)
   (hy:C w→(execOp a.eval o).run P w = .ok (.value v) w') (hC:i≠late→C w→C w') (hL:listed.setIfInBounds i true=listed') (ha:a.put o.dst v=a')
   (h:if i=late then Q .normal a' w'∧Region.ready md ops listed'=[]else Way P md ops Q late C fuel listed' a' w'):Way P md ops Q late C (fuel+1) listed a w:=by
 subst hL;subst ha
 refine⟨fun hc hC'=>⟨fun h0=>(by rw[h0]at hr;cases hr),fun j hj => ?_⟩⟩
 have hj':=hj
 rw[hr]at hj;simp only[List.mem_singleton]at hj;subst hj
 unfold wpOp
 simp only[hi,hw,if_true]
 refine .inl ?_
 unfold Oper.wp
 rw[hy hC']
 simp only[Oper.upon]
 refine⟨fun hn=>hC hn hC', ?_⟩
 split at h
 · cases fuel with
   | zero=>exact⟨h.2,h.1⟩
   | succ f=>exact⟨fun _=>h.1,by rw[h.2];simp⟩
 · rename_i hn;exact h.out (CZ hc hj') (hC hn hC')
theorem Way.skip(i:Nat){o:Oper}{fuel:Nat}{listed listed':Array Bool}{a a':Act}{w w':World}(hi:ops[i]? = some o)(hr:Region.ready md ops listed=[i])(hw:Region.wanted o (yielded ops a.tmps)=true)
   (hy:C w→(execOp a.eval o).run P w = .ok .skip w') (hC:i≠late→C w→C w') (hL:listed.setIfInBounds i true=listed') (ha:a.put o.dst undef=a')
   (h:if i=late then Q .normal a' w'∧Region.ready md ops listed'=[]else Way P md ops Q late C fuel listed' a' w'):Way P md ops Q late C (fuel+1) listed a w:=by
 subst hL;subst ha
 refine⟨fun hc hC'=>⟨fun h0=>(by rw[h0]at hr;cases hr),fun j hj => ?_⟩⟩
 have hj':=hj
 rw[hr]at hj;simp only[List.mem_singleton]at hj;subst hj
 unfold wpOp
 simp only[hi,hw,if_true]
 refine .inl ?_
 unfold Oper.wp
 rw[hy hC']
 simp only[Oper.upon]
 refine⟨fun hn=>hC hn hC', ?_⟩
 split at h
 · cases fuel with
   | zero=>exact⟨h.2,h.1⟩
   | succ f=>exact⟨fun _=>h.1,by rw[h.2];simp⟩
 · rename_i hn;exact h.out (CZ hc hj') (hC hn hC')
theorem Way.call(i:Nat){o:Oper}{f:FuncId}{args:Array Value}{fuel:Nat}{listed listed':Array Bool}{a:Act}{w:World}(hi:ops[i]? = some o)(hr:Region.ready md ops listed=[i])(hw:Region.wanted o (yielded ops a.tmps)=true)
   (he:(execOp a.eval o).run P w = .ok (.enter f args) w) (hL:listed.setIfInBounds i true=listed') {a':Value→Act} (ha:∀ v,a.put o.dst v=a' v)
   (h:C w→Calls P f args w fun e w'=>∃ v,e = .returned v∧(i≠late→C w')∧(if i=late then Q .normal (a' v) w'∧Region.ready md ops listed'=[]else Way P md ops Q late C fuel listed' (a' v) w')) :
   Way P md ops Q late C (fuel+1) listed a w:=by
 subst hL
 refine⟨fun hc hC'=>⟨fun h0=>(by rw[h0]at hr;cases hr),fun j hj => ?_⟩⟩
 have hj':=hj
 rw[hr]at hj;simp only[List.mem_singleton]at hj;subst hj
 unfold wpOp
 simp only[hi,hw,if_true]
 refine .inl ?_
 unfold Oper.wp
 rw[he]
 simp only[Oper.upon]
 refine(h hC').mono ?_
 rintro e w' ⟨v,rfl,h1,h2⟩
 refine⟨h1, ?_⟩
 rw[ha]
 split at h2
 · cases fuel with
   | zero=>exact⟨h2.2,h2.1⟩
   | succ f=>exact⟨fun _=>h2.1,by rw[h2.2];simp⟩
 · rename_i hn;exact h2.out (CZ hc hj') (h1 hn)
def Quiet(Q:Exit→Act→World→Prop)(e:Exit)(a:Act)(w:World):Prop:=e = .normal∧Q .normal a w
theorem Gm:∀ (fuel:Nat) (listed:Array Bool) (a:Act) (w:World),Dc P md ops (Quiet Q) late C fuel listed a w→wpAny P md ops Q fuel listed a w:=by
 intro fuel
 induction fuel with
 | zero=>exact fun _ _ _ h=>⟨h.1,h.2.2⟩
 | succ fuel ih =>
  intro listed a w h
  refine⟨fun h0=>(h.1 h0).2,fun i hi => ?_⟩
  have h1:=h.2 i hi
  unfold wpOp at h1 ⊢
  cases ho:ops[i]? with
  | none=>simp only[ho]at h1;exact ih _ _ _ h1.2
  | some o =>
   simp only[ho]at h1
   simp only[]
   split
   ·rename_i hw
    simp only[hw,if_true]at h1
    rcases h1 with h1 | ⟨-,a',w',e, -⟩
    ·left
     unfold Oper.wp at h1 ⊢
     generalize (execOp a.eval o).run P w=r at *
     cases r with
     | ok x w' =>
      cases x <;> simp only[Oper.upon]at h1 ⊢ <;> first
       | exact ih _ _ _ h1.2
       | exact h1
       | exact Calls.mono h1 (fun e w'' he=>by cases e <;> first | exact ih _ _ _ he.2 | exact absurd he.1 (by simp) | (obtain⟨_,_,e, -⟩:=he;cases e))
       | exact Rows.mono h1 (fun _ _ he=>ih _ _ _ he.2)
     | halt x w'=>cases x <;> simp only[Oper.upon]at h1 ⊢ <;> first | exact h1 | (exact absurd h1.1 (by simp))
    cases e
   rename_i hw
   simp only[hw,Bool.false_eq_true,if_false]at h1
   exact ih _ _ _ h1.2
theorem IZ{id:Nat}{a:Act}{w:World}(late:Nat)(C:World→Prop)(hm:P.follows .mixedOrders=true)(hC:C w.drew)
   (h:Way P .any ops (Quiet Q) late C ops.size (Array.replicate ops.size false) a w.drew):(Code.region id ops true).wp P Q a w:=by
 refine wp_region_any hm (Gm _ _ _ _ (h.out ?_ hC))
 intro j oj hj hl
 rw[Array.getD_eq_getD_getElem?]at hl
 by_cases hlt:j<ops.size <;> simp[Array.getElem?_replicate,hlt]at hl
end
end Go.Proofs.YtjdkigkknhefpaaDoor.Held
namespace Go.Proofs.YtjdkigkknhefpaaDoor.Tl
open Go.RowKit Go.Proofs.YtjdkigkknhefpaaDoor.Mem Go.Proofs.YtjdkigkknhefpaaDoor.Sl
set_option linter.unusedSimpArgs false
set_option linter.unusedVariables false
theorem CW.keeps{w w':World}{t:Nat}{F S:Nat→Prop}{L:List (Int×V)}(h:CW w t F L)(hk:Af S w w')(hS:∀ b,F b→¬ S b):CW w' t F L:=by
 obtain⟨s,G,hh,hd,hl,hGt,hF,hGF,hB⟩:=h
 exact⟨s,G,hk.get hh (hS t hF),hd.keeps hk (fun b hb=>hS b (hGF b hb)),hl,hGt,hF,hGF,fun b hb=>Nat.lt_of_lt_of_le (hB b hb) hk.size⟩
theorem CW.mono{w:World}{t:Nat}{F F':Nat→Prop}{L:List (Int×V)}(h:CW w t F L)(hF:∀ b,F b→F' b)(hB:∀ b,F' b→b<w.heap.size):CW w t F' L:=by
 obtain⟨s,G,hh,hd,hl,hGt,hFt,hGF, -⟩:=h
 exact⟨s,G,hh,hd,hl,hGt,hF t hFt,fun b hb=>hF b (hGF b hb),hB⟩
theorem CW.bound{w:World}{t:Nat}{F:Nat→Prop}{L:List (Int×V)}(h:CW w t F L):∀ b,F b→b<w.heap.size:=by
 obtain⟨s,G,hh,hd,hl,hGt,hF,hGF,hB⟩:=h;exact hB
def LK(w:World)(t:Nat)(F:Nat→Prop)(L:List (Int×V))(v:V)(e:Ending)(w':World):Prop :=
 e = .returned (.int .i64 (if fine v then 0 else 80))∧CW w' t (More F w w') (if fine v then EH L v.1 v else L)∧Af F w w'
theorem JM(w:World)(t:Nat)(F:Nat→Prop)(L:List (Int×V))(v:V)(h:CW w t F L):Calls Tryd.prog 70 #[.pointer (some ⟨t,0,none⟩),ES v] w (LK w t F L v):=by
 go_enter Tryd.func70,Tryd.ntmps70
 go_wp2_with fail
 refine(Jn _ v).mono ?_
 rintro e w2 ⟨rfl,hk2⟩
 have hk:Af (fun _=>False) w w2:=((Af.refl _ w).alloc _).trans hk2 (fun _ _ x=>x.elim)
 have hbox:=hk2.get (At.new w (.cells #[.int .i64 v.1,.int .i64 v.2.1,.int .i64 v.2.2] 60 (0,0))) id
 have hT:=h.keeps hk (fun _ _=>id)
 have hz:=hk.size
 cases hf:fine v with
 | false =>
  go_wp2_with fail
  go_ret
  refine⟨by simp[hf], ?_,hk.mono (fun _ _ x=>x.elim)⟩
  simp only[hf,Bool.false_eq_true,if_false]
  exact hT.mono (fun b hb=> .inl hb) (fun b hb=>hb.elim (fun x=>by have:=h.bound b x;omega) (fun x=>x.2))
 | true =>
  obtain⟨s,G,hh,hd,hl,hGt,hF,hGF,hB⟩:=hT
  have q0:w2.cell? ⟨t,0,none⟩=some (.pointer (some ⟨s,0,none⟩)):=hh.cell rfl
  have q1:w2.cell? ⟨w.heap.size,0,none⟩=some (.int .i64 v.1):=hbox.cell rfl
  have q2:w2.cell? ⟨w.heap.size,1,none⟩=some (.int .i64 v.2.1):=hbox.cell rfl
  have q3:w2.cell? ⟨w.heap.size,2,none⟩=some (.int .i64 v.2.2):=hbox.cell rfl
  have HH:=Lib.hid (And.intro hh (And.intro hd hl))
  clear hh hd hl hbox
  go_wp2_with fail
  have hput:∀ (ts:List Value) (d:Nat) (v:Value) (ds:List Deferred),Act.put { tmps:=ts.toArray,defers:=ds } (some d) v={ tmps:=(ts.set d v).toArray,defers:=ds }:=fun _ _ _ _=>by simp[Act.put]
  refine Held.IZ 7 (fun W'=>W'.cell? ⟨t,0,none⟩=some (.pointer (some ⟨s,0,none⟩))∧W'.cell? ⟨w.heap.size,0,none⟩=some (.int .i64 v.1)∧W'.cell? ⟨w.heap.size,1,none⟩=some (.int .i64 v.2.1)∧W'.cell? ⟨w.heap.size,2,none⟩=some (.int .i64 v.2.2)) (by kernel_rfl) ⟨q0,q1,q2,q3⟩ ?_
  refine Held.Way.take 0 (v:= .pointer (some ⟨t,0,none⟩)) rfl (by kernel_rfl) (by kernel_rfl) (by kernel_rfl) (by kernel_rfl) (fun _ _ _ h=>nomatch h.1) (.inl ⟨by rfl, ?_⟩) rfl (hput _ 10 _ _) ?_
  ·rintro W' ⟨h1,h2,h3,h4⟩;go_simp
  simp only[List.set_cons_zero,List.set_cons_succ]
  refine Held.Way.take 1 (v:= .pointer (some ⟨t,0,none⟩)) rfl (by kernel_rfl) (by kernel_rfl) (by kernel_rfl) (by kernel_rfl) (fun _ _ _ h=>nomatch h.1) (.inl ⟨by rfl, ?_⟩) rfl (hput _ 11 _ _) ?_
  ·rintro W' ⟨h1,h2,h3,h4⟩;go_simp
  simp only[List.set_cons_zero,List.set_cons_succ]
  refine Held.Way.take 2 (v:= .pointer (some ⟨t,0,none⟩)) rfl (by kernel_rfl) (by kernel_rfl) (by kernel_rfl) (by kernel_rfl) (fun _ _ _ h=>nomatch h.1) (.inl ⟨by rfl, ?_⟩) rfl (hput _ 12 _ _) ?_
  ·rintro W' ⟨h1,h2,h3,h4⟩;go_simp
  simp only[List.set_cons_zero,List.set_cons_succ]
  refine Held.Way.take 3 (v:= .pointer (some ⟨s,0,none⟩)) rfl (by kernel_rfl) (by kernel_rfl) (by kernel_rfl) (by kernel_rfl) (fun _ _ _ h=>nomatch h.1) (.inl ⟨by rfl, ?_⟩) rfl (hput _ 13 _ _) ?_
  ·rintro W' ⟨h1,h2,h3,h4⟩;go_simp
  simp only[List.set_cons_zero,List.set_cons_succ]
  refine Held.Way.take 4 (v:= .pointer (some ⟨w.heap.size,0,none⟩)) rfl (by kernel_rfl) (by kernel_rfl) (by kernel_rfl) (by kernel_rfl) (fun _ _ _ h=>nomatch h.1) (.inl ⟨by rfl, ?_⟩) rfl (hput _ 14 _ _) ?_
  ·rintro W' ⟨h1,h2,h3,h4⟩;go_simp
  simp only[List.set_cons_zero,List.set_cons_succ]
  refine Held.Way.take 5 (v:= .int .i64 v.1) rfl (by kernel_rfl) (by kernel_rfl) (by kernel_rfl) (by kernel_rfl) (fun _ _ _ h=>nomatch h.1) (.inl ⟨by rfl, ?_⟩) rfl (hput _ 15 _ _) ?_
  ·rintro W' ⟨h1,h2,h3,h4⟩;go_simp
  simp only[List.set_cons_zero,List.set_cons_succ]
  refine Held.Way.take 6 (v:=ES v) rfl (by kernel_rfl) (by kernel_rfl) (by kernel_rfl) (by kernel_rfl) (fun _ _ _ h=>nomatch h.1) (.inl ⟨by rfl, ?_⟩) rfl (hput _ 16 _ _) ?_
  ·rintro W' ⟨h1,h2,h3,h4⟩;go_simp
  simp only[List.set_cons_zero,List.set_cons_succ]
  refine Held.Way.call 7 rfl (by kernel_rfl) (by rfl) (f:=79) (args:= #[.pointer (some ⟨s,0,none⟩),.int .i64 v.1,ES v]) (by go_simp) rfl (fun u=>hput _ 17 u _) (fun _ => ?_)
  have hkd:Af (fun _=>False) w2 w2.drew:=(Af.refl _ w2).drew
  refine(KY w2.drew s G L v.1 v (HH.out.2.1.keeps hkd (fun _ _=>id)) HH.out.2.2).mono ?_
  rintro e w3 ⟨⟨x,y,rfl⟩,hd3,hl3,hk3⟩
  have hk3':Af G w2 w3:=Af.Jz hk3
  refine⟨_,rfl,fun h=>absurd rfl h, ?_⟩
  rw[if_pos rfl]
  simp only[List.set_cons_zero,List.set_cons_succ]
  refine⟨⟨rfl, ?_⟩,by kernel_rfl⟩
  go_wp2_with fail
  go_ret
  have hz3:=hk3'.size
  refine⟨by simp[hf], ?_,(hk.mono (T:=F) (fun _ _ x=>x.elim)).trans hk3' (fun i _ x=>hGF i x)⟩
  simp only[hf,if_true]
  refine⟨s,More G w2.drew w3,hk3'.get HH.out.1 hGt,hd3,hl3,fun x=>x.elim hGt (fun y=>by have:=hB t hF;have h1:w2.heap.size≤t:=y.1;omega),.inl hF,fun b hb=>hb.elim (fun x=> .inl (hGF b x)) (fun x=> .inr ⟨by have h1:w2.heap.size≤b:=x.1;omega,x.2⟩),fun b hb=>hb.elim (fun x=>by have:=h.bound b x;omega) (fun x=>x.2)⟩
open Go.RowKit Go.Proofs.YtjdkigkknhefpaaDoor.Mem Go.Proofs.YtjdkigkknhefpaaDoor.Sl Go.Proofs.YtjdkigkknhefpaaDoor.Rng
theorem KD(w:World)(t:Nat)(F:Nat→Prop)(L:List (Int×V))(k:Int)(h:CW w t F L)(hn:k ∉ L.map (·.1)) :
   Calls Tryd.prog 69 #[.pointer (some ⟨t,0,none⟩),.int .i64 k] w fun e w'=>e = .returned (.tuple #[(Value.agg #[.int .i64 0,.int .i64 0,.int .i64 0]),.bool false])∧Af (fun _=>False) w w':=by
 obtain⟨s,G,hh,hd,hl,hGt,hF,hGF,hB⟩:=h
 have q0:∀ X,(w.alloc X).cell? ⟨t,0,none⟩=some (.pointer (some ⟨s,0,none⟩)):=fun X=>(hh.alloc X).cell rfl
 have hk1:∀ X,Af (fun _=>False) w (w.alloc X):=fun X=>(Af.refl _ w).alloc X
 go_enter Tryd.func69,Tryd.ntmps69
 go_wp2_with fail
 refine(Ic _ s G 4 L k (hd.keeps (hk1 _) (fun _ _=>id)) hn).mono ?_
 rintro e w1 ⟨rfl,hk2⟩
 have hres:=hk2.get (At.new w (.cells #[.int .i64 0,.int .i64 0,.int .i64 0] 60 (0,0))) id
 have g1:w1.cell? ⟨w.heap.size,0,none⟩=some (.int .i64 0):=hres.cell rfl
 have g2:w1.cell? ⟨w.heap.size,1,none⟩=some (.int .i64 0):=hres.cell rfl
 have g3:w1.cell? ⟨w.heap.size,2,none⟩=some (.int .i64 0):=hres.cell rfl
 have g4:w1.frozen? ⟨w.heap.size,0,none⟩=false:=hres.free 0
 have g5:w1.frozen? ⟨w.heap.size,1,none⟩=false:=hres.free 1
 have g6:w1.frozen? ⟨w.heap.size,2,none⟩=false:=hres.free 2
 have hkw:=(hk1 (.cells #[.int .i64 0,.int .i64 0,.int .i64 0] 60)).trans hk2 (fun _ _ x=>x)
 have HN:=Lib.hid hres
 clear hres q0 hk2 hk1 hh hd
 go_wp2_with fail
 obtain⟨w4,hw4⟩:∃ w4,((w1.setCell ⟨w.heap.size,0,none⟩ (.int .i64 0)).setCell ⟨w.heap.size,1,none⟩ (.int .i64 0)).setCell ⟨w.heap.size,2,none⟩ (.int .i64 0)=w4:=⟨_,rfl⟩
 rw[hw4]
 have r4:At w4 w.heap.size (.cells #[.int .i64 0,.int .i64 0,.int .i64 0] 60 (0,0)):=by
   rw[←hw4];exact((HN.out.BZ 0 (.int .i64 0)).BZ 1 (.int .i64 0)).BZ 2 (.int .i64 0)
 have hk5:Af (fun _=>False) w w4:=by rw[←hw4];exact((hkw.setCell (.inr (Nat.le_refl _))).setCell (.inr (Nat.le_refl _))).setCell (.inr (Nat.le_refl _))
 have b1:w4.cell? ⟨w.heap.size,0,none⟩=some (.int .i64 0):=r4.cell rfl
 have b2:w4.cell? ⟨w.heap.size,1,none⟩=some (.int .i64 0):=r4.cell rfl
 have b3:w4.cell? ⟨w.heap.size,2,none⟩=some (.int .i64 0):=r4.cell rfl
 exact bodyPost_ret (v:= .tuple #[(Value.agg #[.int .i64 0,.int .i64 0,.int .i64 0]),.bool false]) (by simp[results,Tryd.results69,go_sem,b1,b2,b3]) rfl ⟨rfl,hk5⟩
theorem Kz(w:World)(t:Nat)(F:Nat→Prop)(xs ys:List (Int×V))(k:Int)(v:V)(h:CW w t F (xs++(k,v) :: ys)) :
   Calls Tryd.prog 69 #[.pointer (some ⟨t,0,none⟩),.int .i64 k] w fun e w'=>e = .returned (.tuple #[ES v,.bool true])∧CW w' t F (xs++ys++[(k,v)])∧Af F w w':=by
 obtain⟨s,G,hh,hd,hl,hGt,hF,hGF,hB⟩:=h
 have q0:∀ X,(w.alloc X).cell? ⟨t,0,none⟩=some (.pointer (some ⟨s,0,none⟩)):=fun X=>(hh.alloc X).cell rfl
 have hk1:∀ X,Af (fun _=>False) w (w.alloc X):=fun X=>(Af.refl _ w).alloc X
 go_enter Tryd.func69,Tryd.ntmps69
 go_wp2_with fail
 refine(Hy _ s G 4 xs ys k v (hd.keeps (hk1 _) (fun _ _=>id))).mono ?_
 rintro e w1 ⟨rfl,hd1,hk2⟩
 have hnew:¬ G w.heap.size:=fun x=>by have:=hB _ (hGF _ x);omega
 have hres:=hk2.get (At.new w (.cells #[.int .i64 0,.int .i64 0,.int .i64 0] 60 (0,0))) hnew
 have hh1:=hk2.get (hh.alloc (.cells #[.int .i64 0,.int .i64 0,.int .i64 0] 60)) hGt
 have g1:w1.cell? ⟨w.heap.size,0,none⟩=some (.int .i64 0):=hres.cell rfl
 have g2:w1.cell? ⟨w.heap.size,1,none⟩=some (.int .i64 0):=hres.cell rfl
 have g3:w1.cell? ⟨w.heap.size,2,none⟩=some (.int .i64 0):=hres.cell rfl
 have g4:w1.frozen? ⟨w.heap.size,0,none⟩=false:=hres.free 0
 have g5:w1.frozen? ⟨w.heap.size,1,none⟩=false:=hres.free 1
 have g6:w1.frozen? ⟨w.heap.size,2,none⟩=false:=hres.free 2
 have hkw:=((hk1 (.cells #[.int .i64 0,.int .i64 0,.int .i64 0] 60)).mono (T:=G) (fun _ _ x=>x.elim)).trans hk2 (fun _ _ x=>x)
 have HN:=Lib.hid (And.intro hres (And.intro hh1 hd1))
 clear hres q0 hk2 hk1 hd hh1 hd1
 go_wp2_with fail
 obtain⟨w4,hw4⟩:∃ w4,((w1.setCell ⟨w.heap.size,0,none⟩ (.int .i64 v.1)).setCell ⟨w.heap.size,1,none⟩ (.int .i64 v.2.1)).setCell ⟨w.heap.size,2,none⟩ (.int .i64 v.2.2)=w4:=⟨_,rfl⟩
 rw[hw4]
 have r4:At w4 w.heap.size (.cells #[.int .i64 v.1,.int .i64 v.2.1,.int .i64 v.2.2] 60 (0,0)):=by
   rw[←hw4];exact((HN.out.1.BZ 0 (.int .i64 v.1)).BZ 1 (.int .i64 v.2.1)).BZ 2 (.int .i64 v.2.2)
 have k4:Af (fun b=>b=w.heap.size) w1 w4:=by rw[←hw4];exact(((Af.refl (fun b=>b=w.heap.size) w1).setCell (.inl rfl)).setCell (.inl rfl)).setCell (.inl rfl)
 have hk5:Af F w w4:=by rw[←hw4];exact(((hkw.mono (fun b _ hb=>hGF b hb)).setCell (.inr (Nat.le_refl _))).setCell (.inr (Nat.le_refl _))).setCell (.inr (Nat.le_refl _))
 have b1:w4.cell? ⟨w.heap.size,0,none⟩=some (.int .i64 v.1):=r4.cell rfl
 have b2:w4.cell? ⟨w.heap.size,1,none⟩=some (.int .i64 v.2.1):=r4.cell rfl
 have b3:w4.cell? ⟨w.heap.size,2,none⟩=some (.int .i64 v.2.2):=r4.cell rfl
 refine bodyPost_ret (v:= .tuple #[ES v,.bool true]) (by simp[results,Tryd.results69,go_sem,b1,b2,b3]) rfl ⟨rfl,⟨s,G,k4.get HN.out.2.1 (fun e => ?_),HN.out.2.2.keeps k4 (fun b hb e => ?_), ?_,hGt,hF,hGF,fun b hb=>Nat.lt_of_lt_of_le (hB b hb) hk5.size⟩,hk5⟩
 · have:=hh.lt;omega
 · have:=hB b (hGF b hb);omega
 · simp at hl ⊢;omega
end Go.Proofs.YtjdkigkknhefpaaDoor.Tl
namespace Go.Proofs.YtjdkigkknhefpaaDoor.Ly
open Go Go.Proofs.YtjdkigkknhefpaaDoor.Eng Go.Proofs.YtjdkigkknhefpaaDoor.Mem
set_option linter.unusedSimpArgs false
set_option linter.unusedVariables false
set_option maxRecDepth 100000
structure Ag where
 CG:Int
 Frame:Int
 D6:Int
 deriving Inhabited,DecidableEq
def Ag.cells(x:Ag):List Value:=[.int .i64 x.CG,.int .i64 x.Frame,.int .i64 x.D6]
abbrev Ag.arr(x:Ag):Array Value:= #[.int .i64 x.CG,.int .i64 x.Frame,.int .i64 x.D6]
structure Ag.ok(F:Nat→Prop)(W:World)(x:Ag):Prop where
 CG:Mc .i64 x.CG
 Frame:Mc .i64 x.Frame
 D6:Mc .i64 x.D6
theorem Ag.ok.ext{F F':Nat→Prop}{W W':World}(he:Ext F W W')(hF:∀ b,F b→F' b){x:Ag}(h:Ag.ok F W x):Ag.ok F' W' x:=⟨h.CG,h.Frame,h.D6⟩
end Go.Proofs.YtjdkigkknhefpaaDoor.Ly
namespace Go.Proofs.YtjdkigkknhefpaaDoor.Tl
open Go Go.Proofs.YtjdkigkknhefpaaDoor.Mem Go.Proofs.YtjdkigkknhefpaaDoor.Sl Go.Proofs.YtjdkigkknhefpaaDoor.Eng Go.Proofs.YtjdkigkknhefpaaDoor.Ly
set_option linter.unusedSimpArgs false
set_option linter.unusedVariables false
theorem CW.same{w w':World}{t:Nat}{F:Nat→Prop}{L:List (Int×V)}(h:CW w t F L)(hb:∀ b,F b→w'.heap[b]? = w.heap[b]?):CW w' t F L:=by
 obtain⟨s,G,hh,⟨m,ns,es,hf,hG,hL⟩,hl,hGt,hFt,hGF,hB⟩:=h
 refine⟨s,G,(hb t hFt).trans hh,⟨m,ns,es,hf.frame (fun b hb'=>hb b (hGF b (hG b hb'))),hG,hL⟩,hl,hGt,hFt,hGF,fun b hFb => ?_⟩
 have h1:=hB b hFb
 have h2:=hb b hFb
 rcases Nat.lt_or_ge b w'.heap.size with h3 | h3
 ·exact h3
 rw[Array.getElem?_eq_none h3,Array.getElem?_eq_getElem h1]at h2;cases h2
theorem CW.nodup{w:World}{t:Nat}{F:Nat→Prop}{L:List (Int×V)}(h:CW w t F L):(L.map (·.1)).Nodup∧L.length≤4:=by
 obtain⟨s,G,hh,hd,hl, -⟩:=h;exact⟨hd.nodup,hl⟩
def AA(t:Nat)(F:Nat→Prop)(L:List (Int×V)):Ch:= .inv F (fun w=>CW w t F L) true
theorem ET(t:Nat)(F:Nat→Prop)(L:List (Int×V)):(AA t F L).stable:=fun w w' h hw=>CW.same hw h
section
variable {A:AW}{w:World}{i t:Nat}{F:Nat→Prop}{L:List (Int×V)}
theorem Lp(h:Sat A w):Calls Tryd.prog 26 #[] w fun e w'=>∃ t F',e = .returned (.pointer (some ⟨t,0,none⟩))∧A.n≤w'.heap.size∧Sat { A with n:=w'.heap.size,σ:=A.σ++[AA t F' []] } w':=by
 refine(tnew w).mono ?_
 rintro e w' ⟨t,rfl,ht,hk⟩
 refine⟨t,fun b=>w.heap.size≤b∧b<w'.heap.size,rfl,E5 h hk,h.IE hk _ ht (ET _ _ _) (fun b hb => ?_)⟩
 have hb':w.heap.size≤b∧b<w'.heap.size:=hb
 rw[h.size]at hb';exact hb'
theorem LD(h:Sat A w)(hi:A.σ[i]? = some (AA t F L))(v:V):Calls Tryd.prog 70 #[.pointer (some ⟨t,0,none⟩),ES v] w fun e w'=>∃ F',e = .returned (.int .i64 (if fine v then 0 else 80))∧A.n≤w'.heap.size∧Sat { A with n:=w'.heap.size,σ:=A.σ.set i (AA t F' (if fine v then EH L v.1 v else L)) } w':=by
 refine(JM w t F L v (h.at hi)).mono ?_
 rintro e w' ⟨he,ht,hk⟩
 exact⟨More F w w',he,E5 h hk,h.I8 hi rfl rfl hk ht (ET _ _ _) (fun b hb=>hb.elim .inl (fun x=> .inr x.1)) (fun b hb=>ht.bound b hb)⟩
end
end Go.Proofs.YtjdkigkknhefpaaDoor.Tl
namespace Go.Proofs.YtjdkigkknhefpaaDoor.Ly
open Go Go.RowKit Go.Proofs.YtjdkigkknhefpaaDoor.Mem Go.Proofs.YtjdkigkknhefpaaDoor.Sl Go.Proofs.YtjdkigkknhefpaaDoor.Eng Go.Proofs.YtjdkigkknhefpaaDoor.Tl
set_option linter.unusedSimpArgs false
set_option linter.unusedVariables false
def IA(l:Ag):Bool:=Tl.fine (l.CG,l.Frame,l.D6)
def kv(l:Ag):Int×V:=(l.CG,(l.CG,l.Frame,l.D6))
def AO(xs:List Ag):List (Int×V):=xs.map kv
def fV(xs:List Ag)(p:Int):Ag:=(xs.find? (fun x=>x.CG==p)).getD ⟨0,0,0⟩
def fB(xs:List Ag)(p:Int):Bool:=(xs.find? (fun x=>x.CG==p)).isSome
def Gj(xs:List Ag)(p:Int):List Ag:=xs.filter (fun x=>x.CG != p)
def F5(xs:List Ag)(p:Int):List Ag:=if fB xs p then Gj xs p++[fV xs p]else xs
def GX(xs:List Ag)(y:Ag):List Ag:=if IA y then(if(Gj xs y.CG).length<4 then Gj xs y.CG++[y]else(Gj xs y.CG++[y]).tail)else xs
def KN(y:Ag):Int:=if IA y then 0 else 80
open Classical in
open Classical in
theorem KL(xs:List Ag)(p:Int):(AO xs).find? (fun x=>x.1==p)=(xs.find? (fun x=>x.CG==p)).map kv:=by
 unfold AO;rw[List.find?_map];rfl
theorem GN(xs:List Ag):(AO xs).map (·.1)=xs.map Ag.CG:=by
 unfold AO;rw[List.map_map];rfl
theorem Jt(xs:List Ag)(p:Int):(AO xs).filter (fun x=>x.1≠p)=AO (Gj xs p):=by
 unfold AO Gj
 rw[List.filter_map]
 congr 1
 refine List.filter_congr (fun x _ => ?_)
 simp[kv]
 by_cases h:x.CG=p <;> simp[h]
theorem KG{xs:List Ag}(hl:xs.length≤4){y:Ag}(hf:IA y=true):EH (AO xs) y.CG (y.CG,y.Frame,y.D6)=AO (GX xs y):=by
 have hmem:y.CG∈(AO xs).map (·.1)↔∃ x∈xs,x.CG=y.CG:=by rw[GN,List.mem_map]
 unfold EH GX
 rw[if_pos hf]
 by_cases hin:y.CG∈(AO xs).map (·.1)
 ·obtain⟨x,hx,he⟩:=hmem.1 hin
  have hlt:(Gj xs y.CG).length<xs.length:=List.length_filter_lt_length_iff_exists.2 ⟨x,hx,by simp[he]⟩
  rw[if_pos hin,if_pos (by omega),Jt]
  unfold AO;rw[List.map_append];rfl
 have hall:Gj xs y.CG=xs:=List.filter_eq_self.2 (fun x hx=>by simp;exact fun he=>hin (hmem.2 ⟨x,hx,he⟩))
 rw[if_neg hin,hall]
 have hkl:(AO xs).length=xs.length:=by simp[AO]
 by_cases h4:xs.length=4
 ·rw[if_pos (by omega),if_neg (by omega)]
  cases xs with
  | nil=>simp at h4
  | cons x xs=>simp[AO,kv]
 rw[if_neg (by omega),if_pos (by omega)]
 simp[AO,kv]
section
variable {A:AW}{w:World}{i t:Nat}{F:Nat→Prop}{xs:List Ag}
theorem Lm(h:Sat A w)(hi:A.σ[i]? = some (AA t F (AO xs))):xs.length≤4∧(xs.map Ag.CG).Nodup:=by
 have hT:CW w t F (AO xs):=h.at hi
 have:=hT.nodup
 rw[GN]at this
 exact⟨by simpa[AO]using this.2,this.1⟩
theorem Gi(h:Sat A w)(hi:A.σ[i]? = some (AA t F (AO xs)))(k:Int):Calls Tryd.prog 69 #[.pointer (some ⟨t,0,none⟩),.int .i64 k] w fun e w'=>∃ F',e = .returned (.tuple #[.agg (Ag.arr (fV xs k)),.bool (fB xs k)])∧A.n≤w'.heap.size∧Sat { A with n:=w'.heap.size,σ:=A.σ.set i (AA t F' (AO (F5 xs k))) } w':=by
 have hT:CW w t F (AO xs):=h.at hi
 have hnd0:=hT.nodup.1
 by_cases hin:k∈(AO xs).map (·.1)
 ·obtain⟨⟨k',v⟩,hx,rfl⟩:=List.mem_map.1 hin
  obtain⟨X,Y,hXY⟩:=List.append_of_mem hx
  have hno:∀ x∈X,¬ (x.1==k')=true:=fun x hx e=>by
   rw[hXY,List.map_append,List.map_cons]at hnd0
   exact(List.nodup_append.1 hnd0).2.2 x.1 (List.mem_map.2 ⟨x,hx,rfl⟩) k' (by simp) (by simpa using e)
  have hf:(AO xs).find? (fun x=>x.1==k')=some (k',v):=by
   rw[hXY,List.find?_append,List.find?_eq_none.2 hno,List.find?_cons_of_pos (by simp)];rfl
  have hout:=Jt xs k'
  rw[hXY]at hout
  rw[GI (by rw[←hXY];exact hnd0)]at hout
  rw[KL]at hf
  obtain⟨x0,hx0,hk0⟩:=Option.map_eq_some_iff.1 hf
  have hB:fB xs k'=true:=by unfold fB;rw[hx0];rfl
  have hV:fV xs k'=x0:=by unfold fV;rw[hx0];rfl
  have hL:X++Y++[(k',v)]=AO (F5 xs k'):=by
   unfold F5
   rw[if_pos hB,hV,hout,←hk0]
   simp[AO]
  refine(Kz w t F X Y k' v (hXY ▸ hT)).mono ?_
  rintro e w' ⟨rfl,ht,hk⟩
  rw[hL]at ht
  refine⟨F, ?_,E5 h hk,h.I8 hi rfl rfl hk ht (ET _ _ _) (fun b hb=> .inl hb) (fun b hb=>ht.bound b hb)⟩
  rw[hV,hB]
  have:v=(x0.CG,x0.Frame,x0.D6):=by have:=congrArg Prod.snd hk0;exact this.symm
  rw[this]
 have hf:xs.find? (fun x=>x.CG==k)=none:=List.find?_eq_none.2 (fun x hx e=>hin (by rw[GN];exact List.mem_map.2 ⟨x,hx,by simpa using e⟩))
 have hB:fB xs k=false:=by unfold fB;rw[hf];rfl
 have hV:fV xs k=⟨0,0,0⟩:=by unfold fV;rw[hf];rfl
 have hX:F5 xs k=xs:=by unfold F5;rw[hB];rfl
 rw[hB,hV,hX]
 refine(KD w t F (AO xs) k hT hin).mono ?_
 rintro e w' ⟨rfl,hk⟩
 exact⟨F,rfl,E5 h hk,h.I8 hi rfl rfl ⟨hk.os,hk.tape,hk.output,hk.size,fun b hb _=>hk.block b hb id⟩ (hT.same (fun b hb=>hk.block b (hT.bound b hb) id)) (ET _ _ _) (fun b hb=> .inl hb) (fun b hb=>Nat.lt_of_lt_of_le (hT.bound b hb) hk.size)⟩
theorem IU(h:Sat A w)(hi:A.σ[i]? = some (AA t F (AO xs)))(y:Ag):Calls Tryd.prog 70 #[.pointer (some ⟨t,0,none⟩),.agg (Ag.arr y)] w fun e w'=>∃ F',e = .returned (.int .i64 (KN y))∧A.n≤w'.heap.size∧Sat { A with n:=w'.heap.size,σ:=A.σ.set i (AA t F' (AO (GX xs y))) } w':=by
 refine(LD h hi (y.CG,y.Frame,y.D6)).mono ?_
 rintro e w' ⟨F',rfl,hm,hS⟩
 refine⟨F',rfl,hm, ?_⟩
 have hX:(if Tl.fine (y.CG,y.Frame,y.D6)then EH (AO xs) y.CG (y.CG,y.Frame,y.D6)else AO xs)=AO (GX xs y):=by
  by_cases hf:Tl.fine (y.CG,y.Frame,y.D6)=true
  ·rw[if_pos hf,KG (Lm h hi).1 hf]
  rw[if_neg hf];unfold GX IA;rw[if_neg hf]
 rw[hX]at hS
 exact hS
end
end Go.Proofs.YtjdkigkknhefpaaDoor.Ly
