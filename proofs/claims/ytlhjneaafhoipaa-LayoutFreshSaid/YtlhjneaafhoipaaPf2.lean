/- Packed: EngG, Lh, Li, Lu, Lm, Ln, Lo, Lr, EngJ, Lv, Ls. No conditions. -/
import Derived.Test.YtlhjneaafhoipaaPf1
import Derived.WalkKit
namespace Go.Proofs.Ytlhjneaafhoipaa.Eng
open Go Go.Proofs.Ytlhjneaafhoipaa.Mem
set_option linter.unusedSimpArgs false
set_option linter.unusedVariables false
theorem Iq{α:Type}[Inhabited α]{base:Nat}{e:TypeId}{sz:Nat}{cells:α→List Value}{g n cap:Nat}{xs:List α}{j k:Nat}{v:Value}(hsz:∀ x,(cells x).length=sz)(hj:j<xs.length)(hv:(cells (gd xs j))[k]? = some v) :
   ∀ w',Ch.holds (AV base e sz cells (.slice (some ⟨g,0,none⟩) n cap) xs) w'→w'.cell? ⟨g,0+EK sz j+k,none⟩=some v:=by
 intro w' hw
 have hw':w'.ownsRow base e sz (.slice (some ⟨g,0,none⟩) n cap) xs.length (xs.flatMap cells):=hw
 rcases hw'.2 with⟨h1, -⟩ | ⟨g',cap',cur,h1,hb,hg,hnc,hcm,hcs,ht⟩
 · cases h1
 · cases h1
   have hf:=WS hsz xs j hj k v (by rw[←DC hj];exact hv)
   rw[←ht,List.getElem?_take]at hf
   split at hf
   · simp only[World.cell?,hg,Nat.zero_add];simpa using hf
   · cases hf
theorem XV{α:Type}{cells:α→List Value}{sz:Nat}(hsz:∀ x,(cells x).length=sz):∀ (xs:List α) (j:Nat) (hj:j<xs.length) (k:Nat) (hk:k<sz) (v:Value) (y:α),cells y=(cells xs[j]).set k v→(xs.set j y).flatMap cells=(xs.flatMap cells).set (EK sz j+k) v
 | x :: xs,0,_,k,hk,v,y,hy=>by
  rw[LY,Nat.zero_mul,Nat.zero_add]
  simp only[List.set_cons_zero,List.flatMap_cons]
  rw[List.set_append_left _ _ (by rw[hsz];exact hk),hy];rfl
 | x :: xs,j+1,hj,k,hk,v,y,hy=>by
  have ih:=XV hsz xs j (by simpa using hj) k hk v y (by simpa using hy)
  rw[LY]at ih ⊢
  simp only[List.set_cons_succ,List.flatMap_cons]
  rw[List.set_append_right _ _ (by rw[hsz,Nat.succ_mul];omega),hsz,show(j+1)*sz+k - sz=j*sz+k from by rw[Nat.succ_mul];omega,ih]
theorem Sat.ZR{α:Type}[Inhabited α]{A:AW}{w:World}(h:Sat A w){i base:Nat}{e:TypeId}{sz:Nat}{cells:α→List Value}{g n cap:Nat}{xs:List α}(hi:A.σ[i]? = some (AV base e sz cells (.slice (some ⟨g,0,none⟩) n cap) xs))
   (hsz:∀ x,(cells x).length=sz) {j k:Nat} (hj:j<xs.length) (hk:k<sz) {v:Value} {y:α} (hy:cells y=(cells (gd xs j)).set k v) :
   w.cell? ⟨g,0+EK sz j+k,none⟩≠none∧w.frozen? ⟨g,0+EK sz j+k,none⟩=false∧Sat { A with σ:=A.σ.set i (AV base e sz cells (.slice (some ⟨g,0,none⟩) n cap) (xs.set j y)) } (w.setCell ⟨g,0+EK sz j+k,none⟩ v):=by
 have hown:w.ownsRow base e sz (.slice (some ⟨g,0,none⟩) n cap) xs.length (xs.flatMap cells):=h.at hi
 have hcell:=Iq (base:=base) (e:=e) (g:=g) (n:=n) (cap:=cap) hsz hj (k:=k) (v:=(cells (gd xs j))[k]'(by rw[hsz];exact hk)) (by simp) w (h.at hi)
 rcases hown.2 with⟨h1, -⟩ | ⟨g',cap',cur,h1,hb,hg,hnc,hcm,hcs,ht⟩
 · cases h1
 · cases h1
   refine⟨by rw[hcell];simp,by simp[World.frozen?,hg], ?_⟩
   refine h.put (w':=w.setCell ⟨g,0+EK sz j+k,none⟩ v) hi rfl (c':=AV base e sz cells (.slice (some ⟨g,0,none⟩) xs.length cap) (xs.set j y)) rfl (MH _ _ _ _ _ _) rfl rfl rfl (by simp[World.setCell]) (fun q hq=>Qh w _ v q (fun e1=>hq (by simp[AV,NV,Ch.F,Value.ownBlock,e1]))) ?_
   show(w.setCell ⟨g,0+EK sz j+k,none⟩ v).ownsRow base e sz (.slice (some ⟨g,0,none⟩) xs.length cap) (xs.set j y).length ((xs.set j y).flatMap cells)
   have hfs:=XV hsz xs j hj k hk v y (by rw[←DC hj];exact hy)
   have hlen:=hown.1
   refine⟨by rw[hfs,List.length_set,List.length_set];exact hlen,.inr ⟨g,cap,cur.setIfInBounds (0+EK sz j+k) v,by rw[List.length_set],hb,OY w ⟨g,0+EK sz j+k,none⟩ v cur e _ rfl hg,by rw[List.length_set];exact hnc,hcm,by simp[hcs], ?_⟩⟩
   rw[List.length_set,hfs,←ht]
   simp only[Nat.zero_add,Array.toList_setIfInBounds]
   have hlt:EK sz j+k<xs.length*sz:=by
     rw[LY]
     have:=Nat.mul_le_mul_right sz hj
     rw[Nat.succ_mul]at this;omega
   rw[List.take_set]
section
variable {P:Program}{N:Nat}{env:Env}{ds:List Deferred}{A:AW}{ops:Array Oper}{l:List Oper}{s:List Kt}{Q:Exit→Act→World→Prop}{c:Code}
theorem row_where{α:Type}{base:Nat}{e:TypeId}{sz:Nat}{cells:α→List Value}{a:Option Addr}{n cap i:Nat}{xs:List α}{w:World}(hs:Sat A w)(hi:A.σ[i]? = some (AV base e sz cells (.slice a n cap) xs))(hp:0<xs.length):∃ g,a=some ⟨g,0,none⟩∧base≤g:=by
 have hown:w.ownsRow base e sz (.slice a n cap) xs.length (xs.flatMap cells):=hs.at hi
 rcases hown.2 with⟨h1,h2⟩ | ⟨g,cap',cur,h1,hb, -⟩
 ·omega
 cases h1;exact⟨g,rfl,hb⟩
theorem Xk{α:Type}{base:Nat}{e:TypeId}{sz:Nat}{cells:α→List Value}{a:Option Addr}{n cap:Nat}{xs:List α}(i:Nat)(hp:0<xs.length)(K:∀ g,a=some ⟨g,0,none⟩→base≤g→G P N env ds A c s Q)(hi:A.σ[i]? = some (AV base e sz cells (.slice a n cap) xs):=by rfl):G P N env ds A c s Q:=fun a w hs=>by
 obtain⟨g,hg,hb⟩:=row_where hs.mem hi hp
 exact K g hg hb a w hs
def ZH(P:Program)(N:Nat)(ops:Array Oper)(env:Env)(o:Oper):Option (Nat×Nat×Value):=match o.op,NM ops env o,JZ env o,NZ N o.dst with
 | .store t a x,some true,true,true=>match GR env a,scalar (GR env x),P.info? t with
  | .pointer (some ⟨b,k,none⟩),true,some f=>match Nat.beq f.size 1 with
   | true=>some (b,k,GR env x)
   | false=>none
  | _,_,_=>none
 | _,_,_,_=>none
theorem XW{v:Value}(h:scalar v=true):v.cells = #[v]:=by cases v <;> first | rfl | cases h
theorem Yi{o:Oper}{b k:Nat}{v:Value}(h:ZH P N ops env o=some (b,k,v)){a:Act}{w:World}(hst:St N env ds A a w)(hc:w.cell? ⟨b,k,none⟩≠none)(hf:w.frozen? ⟨b,k,none⟩=false) :
   Region.wanted o (yielded ops a.tmps)=true∧NZ N o.dst=true∧(execOp a.eval o).run P w = .ok .skip (w.setCell ⟨b,k,none⟩ v):=by
 unfold ZH at h
 split at h
 · rename_i t x y hop hw hk hd
   split at h
   · rename_i b' k' f hx hsc hf'
     split at h
     · rename_i hsz
       simp only[Option.some.injEq,Prod.mk.injEq]at h
       obtain⟨rfl,rfl,rfl⟩:=h
       refine⟨FK hw hst,hd, ?_⟩
       rw[Jc hst hk]
       obtain⟨x0,hx0⟩:=Option.ne_none_iff_exists'.1 hc
       have hsz':=Nat.eq_of_beq_eq_true hsz
       have hstore:=run_store (P:=P) (m:= .plain) (k:=(Sem.pure ():Sem Unit)) hsc hx0 hf
       unfold execOp
       simp only[hop,hx]
       simp[Instr.storeAt,Instr.sureAddr,storeVar,XW hsc,sizeOf,typeInfo,program,Sem.run,hf',hsz',storeCells,MJ,store,hstore]
     · cases h
   · cases h
 · cases h
theorem MI{α:Type}[Inhabited α](i j k:Nat)(xs:List α)(y:α)(cells:α→List Value)(base:Nat)(e:TypeId)(sz g n cap:Nat)(v:Value)(d:Option Nat)
   (hj:j<xs.length) (hy:cells y=(cells (gd xs j)).set k v) (K:Lg P N (JG env d undef) ds { A with σ:=A.σ.set i (AV base e sz cells (.slice (some ⟨g,0,none⟩) n cap) (xs.set j y)) } ops (l.drop 1) s Q)
   (h:(match l with | o :: _=>(ZH P N ops env o).map (fun x=>(x,o.dst)) | []=>none)=some ((g,0+EK sz j+k,v),d):=by as_aux_lemma=>kernel_rfl) (hi:A.σ[i]? = some (AV base e sz cells (.slice (some ⟨g,0,none⟩) n cap) xs):=by rfl) (hsz:∀ x,(cells x).length=sz:=by intro _;rfl) (hk:k<sz:=by decide):Lg P N env ds A ops l s Q:=by
 intro a w hst
 cases l with
 | nil=>cases h
 | cons o l =>
   simp only[Option.map_eq_some_iff]at h
   obtain⟨q,hq,h⟩:=h
   simp only[Prod.mk.injEq]at h
   obtain⟨rfl,rfl⟩:=h
   obtain⟨h1,h2,hs'⟩:=hst.mem.ZR hi hsz hj hk hy
   obtain⟨hw,hd,hr⟩:=Yi hq hst h1 h2
   refine Oo hw (.inr ⟨hr,rfl⟩) ?_
   exact K _ _ (hst.put hs' _ hd _)
theorem RP{α:Type}[Inhabited α]{σC:List Ch}{late fuel:Nat}{listed:List Bool}{p:Nat}(i j k:Nat)(xs:List α)(y:α)(cells:α→List Value)(base:Nat)(e:TypeId)(sz g n cap:Nat)(v:Value)(d:Option Nat)(cix:List Nat)
   (hj:j<xs.length) (hy:cells y=(cells (gd xs j)).set k v) (hC:Nat.beq p late=true∨(picks cix A.σ=some σC∧cix.contains i=false)) (K:Wg P N (JG env d undef) ds { A with σ:=A.σ.set i (AV base e sz cells (.slice (some ⟨g,0,none⟩) n cap) (xs.set j y)) } ops σC late fuel (listed.set p true) s Q)
   (hp:Nat.blt p listed.length=true:=by rfl)
   (h:(match ops[p]? with | some o=>(ZH P N ops env o).map (fun x=>(x,o.dst)) | none=>none)=some ((g,0+EK sz j+k,v),d):=by as_aux_lemma=>kernel_rfl) (hi:A.σ[i]? = some (AV base e sz cells (.slice (some ⟨g,0,none⟩) n cap) xs):=by rfl) (hsz:∀ x,(cells x).length=sz:=by intro _;rfl) (hk:k<sz:=by decide):WO P N env ds A ops σC late fuel listed s Q p:=by
 intro a w hst hcl
 have hlt:p<listed.length:=by simpa using hp
 split at h
 · rename_i o ho
   simp only[Option.map_eq_some_iff]at h
   obtain⟨q,hq,h⟩:=h
   simp only[Prod.mk.injEq]at h
   obtain⟨rfl,rfl⟩:=h
   obtain⟨h1,h2,hs'⟩:=hst.mem.ZR hi hsz hj hk hy
   obtain⟨hw,hd,hr⟩:=Yi hq hst h1 h2
   unfold wpOp
   simp only[ho]
   rw[if_pos hw]
   left
   unfold Oper.wp
   rw[hr]
   have hcs:(listed.set p true).toArray.getD late false=false→Cs σC (w.setCell ⟨g,0+EK sz j+k,none⟩ v):=by
     intro hl
     rcases hC with hC | ⟨hC,hci⟩
     · have:=Nat.eq_of_beq_eq_true hC
       subst this
       simp[hlt]at hl
     · intro c hc
       obtain⟨q,hq,hqs⟩:=Ox hC c hc
       have hqi:i≠q:=fun e1=>by subst e1;simp[hq]at hci
       refine hs'.all c (List.mem_of_getElem? (i:=q) ?_)
       show(A.σ.set i _)[q]? = some c
       rw[List.getElem?_set_ne hqi];exact hqs
   exact⟨hcs,K _ _ (hst.put hs' _ hd _) hcl hcs⟩
 · cases h
theorem ZK{σC:List Ch}{late fuel:Nat}{listed:List Bool}{X:Type}(J:X→Env×AW)(tree:(∀ x,E P N (J x).1 ds (J x).2 .normal s Q)→Wg P N env ds A ops σC late fuel listed s Q)(K:∀ x,E P N (J x).1 ds (J x).2 .normal s Q):Wg P N env ds A ops σC late fuel listed s Q:=tree K
end
theorem Sat.merge{A:AW}{w:World}(h:Sat A w)(i j:Nat)(is:List Nat)(c ci cj:Ch){kept:List Ch}(hi:A.σ[i]? = some ci)(hj:A.σ[j]? = some cj)(hri:ci.rw=true)(hrj:cj.rw=true)(hn:nodupB is=true)(hni:is.contains i=false)(hnj:is.contains j=false)(hp:picks is A.σ=some kept)
   (hF:∀ b,c.F b→ci.F b∨cj.F b) (hc:c.holds w) (hst:c.stable):Sat { A with σ:=kept++[c] } w:=by
 have hap:∀ d∈kept,∀ b,d.F b→¬ c.F b:=by
   intro d hd b hdb hcb
   obtain⟨q,hq,hqs⟩:=Ox hp d hd
   rcases hF b hcb with h1 | h1
   · exact NE h.Om (i:=i) (j:=q) (by rw[List.getElem?_map,hi];rfl) (by rw[List.getElem?_map,hqs];rfl) (fun e=>by subst e;simp[hq]at hni) hri b h1 hdb
   · exact NE h.Om (i:=j) (j:=q) (by rw[List.getElem?_map,hj];rfl) (by rw[List.getElem?_map,hqs];rfl) (fun e=>by subst e;simp[hq]at hnj) hrj b h1 hdb
 have hbd:∀ b,c.F b→b<A.n:=fun b hb=>(hF b hb).elim (fun x=>h.bnd _ (List.mem_of_getElem? hi) b x) (fun x=>h.bnd _ (List.mem_of_getElem? hj) b x)
 have:=h.exch is hn hp (BN.refl (fun _=>False) w) (fun _ _ _ _ x=>x) [c] (by
   intro d hd;simp only[List.mem_singleton]at hd;subst hd
   exact⟨hc,hst,fun b hb=>by rw[h.size];exact hbd b hb⟩) (by simp) (by
   intro d hd d' hd' _ b hb
   simp only[List.mem_singleton]at hd';subst hd'
   exact hap d hd b hb)
 rw[h.size]at this
 exact this
def AA{α:Type}(base:Nat)(e:TypeId)(sz:Nat)(cells:α→List Value)(hs:List (Sl α)):Ch :=
 .inv (fun b=>∃ s∈hs,s.val.ownBlock=some b) (fun w=>(∀ s∈hs,w.ownsRow base e sz s.val s.xs.length (s.xs.flatMap cells))∧hs.Pairwise (fun s t=>∀ b,s.val.ownBlock=some b→t.val.ownBlock≠some b)) true
theorem owns_same{w w':World}{base:Nat}{e:TypeId}{sz n:Nat}{v:Value}{xs:List Value}(h:∀ b,v.ownBlock=some b→w'.heap[b]? = w.heap[b]?)(hw:w.ownsRow base e sz v n xs):w'.ownsRow base e sz v n xs:=MH base e sz v n xs w w' h hw
theorem NS{α:Type}(base:Nat)(e:TypeId)(sz:Nat)(cells:α→List Value)(hs:List (Sl α)):(AA base e sz cells hs).stable :=
 fun w w' h hw=>⟨fun s hs'=>owns_same (fun b hb=>h b ⟨s,hs',hb⟩) (hw.1 s hs'),hw.2⟩
theorem Sat.fam{α:Type}{A:AW}{w:World}(h:Sat A w)(i j:Nat)(is:List Nat){base:Nat}{e:TypeId}{sz:Nat}{cells:α→List Value}{hs:List (Sl α)}{a:Option Addr}{cap:Nat}{xs:List α}{kept:List Ch}(hi:A.σ[i]? = some (AA base e sz cells hs))(hj:A.σ[j]? = some (AV base e sz cells (.slice a xs.length cap) xs))(hij:i≠j)
   (hn:nodupB is=true) (hni:is.contains i=false) (hnj:is.contains j=false) (hp:picks is A.σ=some kept):Sat { A with σ:=kept++[AA base e sz cells (hs++[⟨a,cap,xs⟩])] } w:=by
 have h1:(∀ s∈hs,w.ownsRow base e sz s.val s.xs.length (s.xs.flatMap cells))∧hs.Pairwise (fun s t=>∀ b,s.val.ownBlock=some b→t.val.ownBlock≠some b):=h.at hi
 have h2:w.ownsRow base e sz (.slice a xs.length cap) xs.length (xs.flatMap cells):=h.at hj
 refine h.merge i j is _ _ _ hi hj rfl rfl hn hni hnj hp ?_ ⟨?_, ?_⟩ (NS _ _ _ _ _)
 · rintro b ⟨s,hs',hb⟩
   rcases List.mem_append.1 hs' with hm | hm
   · exact .inl ⟨s,hm,hb⟩
   · simp only[List.mem_singleton]at hm;subst hm;exact .inr hb
 · intro s hs'
   rcases List.mem_append.1 hs' with hm | hm
   · exact h1.1 s hm
   · simp only[List.mem_singleton]at hm;subst hm;exact h2
 · rw[List.pairwise_append]
   refine⟨h1.2,by simp, ?_⟩
   intro s hm t ht b hb hb'
   simp only[List.mem_singleton]at ht;subst ht
   exact NE h.Om (i:=i) (j:=j) (by rw[List.getElem?_map,hi];rfl) (by rw[List.getElem?_map,hj];rfl) hij rfl b (show(AA base e sz cells hs).F b from⟨s,hm,hb⟩) hb'
theorem Sat.fam0{α:Type}{A:AW}{w:World}(h:Sat A w)(base:Nat)(e:TypeId)(sz:Nat)(cells:α→List Value):Sat { A with σ:=A.σ++[AA base e sz cells []] } w :=
 h.more (AA base e sz cells []) (show(∀ s∈([]:List (Sl α)),w.ownsRow base e sz s.val s.xs.length (s.xs.flatMap cells))∧([]:List (Sl α)).Pairwise (fun s t=>∀ b,s.val.ownBlock=some b→t.val.ownBlock≠some b)from⟨fun s hm=>absurd hm List.not_mem_nil,List.Pairwise.nil⟩) (NS _ _ _ _ _) (fun b hb=>by obtain⟨s,hm, -⟩:=hb;cases hm)
section
variable {P:Program}{N:Nat}{env:Env}{ds:List Deferred}{A:AW}{ops:Array Oper}{l:List Oper}{s:List Kt}{Q:Exit→Act→World→Prop}{c:Code}
theorem OZ{α:Type}(base:Nat)(e:TypeId)(sz:Nat)(cells:α→List Value)(h:G P N env ds { A with σ:=A.σ++[AA base e sz cells []] } c s Q):G P N env ds A c s Q:=fun a w hs=>h a w ⟨hs.sz,hs.df,hs.kn,hs.mem.fam0 base e sz cells⟩
theorem Qk{α:Type}{x:Exit}(i j:Nat)(is:List Nat){base:Nat}{e:TypeId}{sz:Nat}{cells:α→List Value}{hs:List (Sl α)}{a:Option Addr}{cap:Nat}{xs:List α}(kept:List Ch)
 (K:E P N env ds { A with σ:=kept++[AA base e sz cells (hs++[⟨a,cap,xs⟩])] } x s Q) (hi:A.σ[i]? = some (AA base e sz cells hs):=by rfl) (hj:A.σ[j]? = some (AV base e sz cells (.slice a xs.length cap) xs):=by rfl) (hij:i≠j:=by decide)
 (hn:nodupB is=true:=by rfl) (hni:is.contains i=false:=by rfl) (hnj:is.contains j=false:=by rfl) (hp:picks is A.σ=some kept:=by rfl):E P N env ds A x s Q:=fun a' w hst=>K a' w ⟨hst.sz,hst.df,hst.kn,hst.mem.fam i j is hi hj hij hn hni hnj hp⟩
end
end Go.Proofs.Ytlhjneaafhoipaa.Eng
namespace Go.Proofs.Ytlhjneaafhoipaa.Ly
open Go Go.RowKit Go.Proofs.Ytlhjneaafhoipaa.Eng Go.Proofs.Ytlhjneaafhoipaa.Mem
set_option linter.unusedSimpArgs false
set_option linter.unusedVariables false
set_option maxRecDepth 100000
def Bi(c:Af)(i:Nat):Int:=c.Kernel*16+2+24*(i:Int)
def NU(c:Af)(i:Nat):Aj:=⟨Bi c i,Bi c i+2,Bi c i+2+17,0,⟨none,0,[]⟩⟩
def Gs(c:Af)(i:Nat):List Aj:=(List.range i).map (NU c)
theorem XH{c:Af}{i:Nat}:Gs c (i+1)=Gs c i++[NU c i]:=by unfold Gs;rw[List.range_succ,List.map_append];rfl
theorem U9{c:Af}{i:Nat}:(Gs c i).length=i:=by simp[Gs]
theorem Td{β:Type}[Inhabited β]{f:Nat→β}{n i:Nat}(h:i<n):gd ((List.range n).map f) i=f i:=by
 rw[DC (by simpa using h)];simp
def Gg(c:Af)(k:Nat):Nat:=(Ba c (k:Int) false).length
def cLen(c:Af)(k:Nat):Int:=2+AB (gd c.Ac.xs k)+(Gg c k:Int)*portOf (gd c.Ac.xs k)
def Bc(c:Af):Nat→Int
 | 0=>Bi c c.Aa.xs.length
 | k+1=>Bc c k+cLen c k
def F9(c:Af)(k j:Nat):Int:=Bc c k+2+AB (gd c.Ac.xs k)+(j:Int)*portOf (gd c.Ac.xs k)
def KH(c:Af)(k d:Nat):AL:=⟨(gd (Ba c (k:Int) false) d).partition,(gd (Ba c (k:Int) false) d).port,F9 c k d⟩
def D8(c:Af)(k j:Nat):List AL:=(List.range j).map (KH c k)
theorem UD{c:Af}{k j:Nat}:D8 c k (j+1)=D8 c k j++[KH c k j]:=by unfold D8;rw[List.range_succ,List.map_append];rfl
theorem PR{c:Af}{k j:Nat}:(D8 c k j).length=j:=by simp[D8]
theorem V9{c:Af}{k j:Nat}:F9 c k (j+1)=F9 c k j+portOf (gd c.Ac.xs k):=by
 unfold F9;rw[show((j+1:Nat):Int)=(j:Int)+1 from by omega,Int.add_mul];omega
theorem VC{c:Af}{k:Nat}:Bc c (k+1)=F9 c k (Gg c k):=by unfold F9;rw[Bc,cLen];omega
def GK(c:Af)(k:Nat)(s:Sl AL):Aq:=⟨Bc c k,Bc c k+2,(gd (Ba c (k:Int) true) 0).partition,(gd (Ba c (k:Int) true) 0).port,s⟩
def JA(c:Af):Int:=(Bc c c.Ac.xs.length+16 - 1) / 16
def C9(c:Af):Nat→Int
 | 0=>JA c
 | i+1=>C9 c i+1+(Fq (gd c.Aa.xs i):Int)
def DY(c:Af)(i n:Nat):List Int:=(List.range n).map (fun(k:Nat)=>C9 c i+1+(k:Int))
theorem Vy{c:Af}{i n:Nat}:DY c i (n+1)=DY c i n++[C9 c i+1+(n:Int)]:=by unfold DY;rw[List.range_succ,List.map_append];rfl
theorem Ql{c:Af}{i n:Nat}:(DY c i n).length=n:=by simp[DY]
def Ey(c:Af)(i:Nat)(s:Sl Int):Aj:=⟨Bi c i,Bi c i+2,Bi c i+2+17,C9 c i,s⟩
structure Fine(c:Af):Prop where
 kn:0≤c.Kernel∧c.Kernel<1024
 pn:c.Aa.xs.length≤8
 cn:c.Ac.xs.length≤16
 parts:∀ i,i<c.Aa.xs.length→CV c.Ac.xs.length (gd c.Aa.xs i)=true
 chans:∀ i,i<c.Ac.xs.length→KA c i=true
theorem MW{c:Af}(h:BZ c=true):Fine c:=by
 unfold BZ at h
 simp only[Bool.and_eq_true,decide_eq_true_eq,List.all_eq_true,List.mem_range]at h
 exact⟨h.1.1.1.1,h.1.1.1.2,h.1.1.2,fun i hi=>h.1.2 _ (by rw[DC hi];exact List.getElem_mem hi),h.2⟩
theorem Fine.TP{c:Af}(h:Fine c){k:Nat}(hk:k<c.Ac.xs.length):(Ba c (k:Int) true).length=1∧1≤Gg c k∧Gg c k≤4:=by
 have:=h.chans k hk
 unfold KA at this
 simp only[Bool.and_eq_true,decide_eq_true_eq]at this
 have e1:=OM c k true
 have e2:=OM c k false
 unfold Gg
 omega
theorem WT{c:Af}(h:Fine c){k:Nat}(hk:k<c.Ac.xs.length):2≤cLen c k∧cLen c k≤695:=by
 have h1:=KE (gd c.Ac.xs k)
 have h2:=P6 (gd c.Ac.xs k)
 have h3:=h.TP hk
 unfold cLen
 have h4:=Int.mul_nonneg (show(0:Int)≤(Gg c k:Int)by omega) h2.1
 have h5:=Int.mul_le_mul (show(Gg c k:Int)≤4 by omega) h2.2 h2.1 (by omega)
 omega
theorem PZ{c:Af}(h:Fine c):∀ (k:Nat),k≤c.Ac.xs.length→Bi c c.Aa.xs.length≤Bc c k∧Bc c k≤Bi c c.Aa.xs.length+695*k
 | 0,_=>by simp[Bc]
 | k+1,hk=>by
  have h1:=PZ h k (by omega)
  have h2:=WT h (show k<c.Ac.xs.length by omega)
  rw[Bc];omega
theorem XU{c:Af}(h:Fine c){k j:Nat}(hk:k<c.Ac.xs.length)(hj:j≤4):Bc c k≤F9 c k j∧F9 c k j≤Bc c k+695:=by
 have h1:=KE (gd c.Ac.xs k)
 have h2:=P6 (gd c.Ac.xs k)
 unfold F9
 have h4:=Int.mul_nonneg (show(0:Int)≤(j:Int)by omega) h2.1
 have h5:=Int.mul_le_mul (show(j:Int)≤4 by omega) h2.2 h2.1 (by omega)
 omega
theorem ZN{c:Af}(h:Fine c):0≤JA c∧JA c≤2000:=by
 have h1:=PZ h _ (Nat.le_refl _)
 have h2:=h.kn;have h3:=h.pn;have h4:=h.cn
 unfold JA
 unfold Bi at h1
 omega
theorem NG{c:Af}(h:Fine c):∀ (i:Nat),i≤c.Aa.xs.length→0≤C9 c i∧C9 c i≤2000+17*i
 | 0,_=>by have:=ZN h;simp only[C9];omega
 | i+1,hi=>by
  have h1:=NG h i (by omega)
  have h2:=Oy (gd c.Aa.xs i)
  rw[C9];omega
theorem Xn{α:Type}[Inhabited α]{xs:List α}{y:α}:gd (xs++[y]) xs.length=y:=by rw[DC (by simp)];simp
theorem LK{α:Type}[Inhabited α]{xs:List α}{y:α}{q:Nat}(h:q<xs.length):gd (xs++[y]) q=gd xs q:=by
 rw[DC h,DC (by simp;omega),List.getElem_append_left h]
theorem LG{α:Type}[Inhabited α]{xs:List α}{y:α}{q:Nat}(h:q<xs.length):gd (xs.set q y) q=y:=by rw[DC (by simpa using h)];simp
theorem RN{α:Type}[Inhabited α]{xs:List α}{y:α}{q p:Nat}(h:q≠p)(hp:p<xs.length):gd (xs.set q y) p=gd xs p:=by rw[DC (by simpa using hp),DC hp,List.getElem_set_ne h]
theorem XG{α:Type}{xs:List α}{y:α}{i:Nat}(h:i<xs.length):(xs.set i y).take (i+1)=xs.take i++[y]:=by
 rw[List.take_succ_eq_append_getElem (by simpa using h),List.getElem_set_self]
 rw[List.take_set_of_le (Nat.le_refl i)]
theorem Zv{c:Af}{cs:List Aq}{k:Nat}(hl:cs.length=k)(h:∀ q,q<k→∃ a cp,gd cs q=GK c q ⟨a,cp,D8 c q (Gg c q)⟩){y:Aq}{a:Option Addr}{cp:Nat}(hy:y=GK c k ⟨a,cp,D8 c k (Gg c k)⟩) :
   ∀ q,q<k+1→∃ a cp,gd (cs++[y]) q=GK c q ⟨a,cp,D8 c q (Gg c q)⟩:=by
 intro q hq
 by_cases e:q=k
 · subst e;subst hl;exact⟨a,cp,by rw[Xn];exact hy⟩
 · rw[LK (by omega)];exact h q (by omega)
theorem TT{α:Type}[Inhabited α]{cells:α→List Value}{sz:Nat}{ok:(Nat→Prop)→World→α→Prop}{F:Nat→Prop}{W:World}:F8 cells sz ok F W ⟨none,0,[]⟩ :=
 ⟨⟨Nat.zero_le _,Nat.le_refl _,fun h=>absurd rfl h⟩,fun i hi=>absurd hi (Nat.not_lt_zero i)⟩
structure Lm(c:Af)(L:Bj):Prop where
 bar:L.Ji=c.Kernel*16
 fin:L.End=C9 c c.Aa.xs.length
 pl:L.Aa.xs.length=c.Aa.xs.length
 ps:∀ p,p<c.Aa.xs.length→∃ a cp,gd L.Aa.xs p=Ey c p ⟨a,cp,DY c p (Fq (gd c.Aa.xs p))⟩
 cl:L.Ac.xs.length=c.Ac.xs.length
 cs:∀ k,k<c.Ac.xs.length→∃ a cp,gd L.Ac.xs k=GK c k ⟨a,cp,D8 c k (Gg c k)⟩
theorem QL{c:Af}{i:Nat}:C9 c (i+1)=C9 c i+1+(Fq (gd c.Aa.xs i):Int):=rfl
theorem tAt_zero{c:Af}:C9 c 0=(Bc c c.Ac.xs.length+16 - 1) / 16:=rfl
theorem TA{n:Nat}{x:Ah}(h:CV n x=true):∀ i,i<x.Ag.xs.length→I7 (gd x.Ag.xs i)=true:=fun i hi=>by
 rw[DC hi];exact List.all_eq_true.1 (part_regs h).2 _ (List.getElem_mem hi)
theorem can_yes(w:World)(c:Af)(hc:Af.ok Any w c)(h:BZ c=true):Calls Try.prog 20 #[.agg (Af.arr c)] w fun e w'=>e = .returned (.bool true)∧BN (fun _=>False) w w':=by
 have:=XC w c hc
 rwa [h]at this
theorem can_no(w:World)(c:Af)(hc:Af.ok Any w c)(h:BZ c=false):Calls Try.prog 20 #[.agg (Af.arr c)] w fun e w'=>e = .returned (.bool false)∧BN (fun _=>False) w w':=by
 have:=XC w c hc
 rwa [h]at this
def layS(n:Nat)(L:Bj):List Ch:=[AV n 69 5 Aj.cells L.Aa.val L.Aa.xs,AV n 62 5 Aq.cells L.Ac.val L.Ac.xs,AA n 71 3 AL.cells (L.Ac.xs.map Aq.AX),AA n 3 1 (fun x:Int=>[Value.int .i64 x]) (L.Aa.xs.map Aj.Tables)]
def Og(n:Nat)(W:World)(L:Bj):Prop:=∃ w0,Sat ⟨w0,W.heap.size,layS n L⟩ W
theorem UW{c:Af}{k:Int}{b:Bool}(hp:∀ i,i<c.Aa.xs.length→(gd c.Aa.xs i).Ai.xs.length≤8)(h8:c.Aa.xs.length≤8):∀ y∈Ba c k b,0≤y.partition∧y.partition<8∧0≤y.port∧y.port<8:=by
 intro y hy
 unfold Ba Bv at hy
 simp only[List.mem_flatMap,List.mem_range]at hy
 obtain⟨p,hpl,hy⟩:=hy
 unfold Bo at hy
 simp only[List.mem_map,List.mem_filter,List.mem_range]at hy
 obtain⟨q,⟨hq, -⟩,rfl⟩:=hy
 have:=hp p hpl
 simp only
 omega
theorem Ll{x:Int}(h:0≤x)(h2:x≤1000000):Fb .i64 x:=⟨by omega,by omega⟩
theorem TS{F:Nat→Prop}{W:World}{c:Af}{k:Int}{b:Bool}(hf:Fine c):∀ i,i<(Ba c k b).length→Ee.ok F W (gd (Ba c k b) i):=fun i hi=>by
 have:=UW (k:=k) (b:=b) (fun i hi=>MG (hf.parts i hi)) hf.pn (gd (Ba c k b) i) (by rw[DC hi];exact List.getElem_mem _)
 exact⟨Ll (by omega) (by omega),Ll (by omega) (by omega)⟩
theorem OI{α:Type}{base:Nat}{e:TypeId}{sz:Nat}{cells:α→List Value}{hs:List (Sl α)}{W:World}(hsz:∀ x,(cells x).length=sz)(h:(AA base e sz cells hs).holds W){s:Sl α}(hs':s∈hs)(hl:s.xs.length≤140737488351232):Jd cells sz (New base) W s:=JF hsz (h.1 s hs') hl
theorem Ye{c:Af}{n:Nat}{W:World}{L:Bj}(hf:Fine c)(hL:Lm c L)(ho:Og n W L):Bj.ok (New n) W L:=by
 obtain⟨w0,hs⟩:=ho
 have h0:W.ownsRow n 69 5 L.Aa.val L.Aa.xs.length (L.Aa.xs.flatMap Aj.cells):=hs.at (i:=0) rfl
 have h1:W.ownsRow n 62 5 L.Ac.val L.Ac.xs.length (L.Ac.xs.flatMap Aq.cells):=hs.at (i:=1) rfl
 have h2:(AA n 71 3 AL.cells (L.Ac.xs.map Aq.AX)).holds W:=hs.at (i:=2) rfl
 have h3:(AA n 3 1 (fun x:Int=>[Value.int .i64 x]) (L.Aa.xs.map Aj.Tables)).holds W:=hs.at (i:=3) rfl
 have hkn:=hf.kn;have hpn:=hf.pn;have hcn:=hf.cn
 refine⟨Ll (by rw[hL.bar];omega) (by rw[hL.bar];omega),⟨JF (fun _=>rfl) h0 (by rw[hL.pl];omega), ?_⟩,⟨JF (fun _=>rfl) h1 (by rw[hL.cl];omega), ?_⟩, ?_⟩
 ·intro i hi
  have hi':i<c.Aa.xs.length:=by rw[←hL.pl];exact hi
  obtain⟨a,cp,e⟩:=hL.ps i hi'
  have ht:=NG hf i (by omega)
  have hn:=Oy (gd c.Aa.xs i)
  have hm:(gd L.Aa.xs i).Tables∈L.Aa.xs.map Aj.Tables:=List.mem_map_of_mem (by rw[DC hi];exact List.getElem_mem hi)
  have hsl:=OI (by intro _;rfl) h3 hm (by rw[e];simp only[Ey,Ql];omega)
  rw[e]at hsl ⊢
  refine⟨Ll (by simp only[Ey,Bi];omega) (by simp only[Ey,Bi];omega),Ll (by simp only[Ey,Bi];omega) (by simp only[Ey,Bi];omega),Ll (by simp only[Ey,Bi];omega) (by simp only[Ey,Bi];omega),Ll (by simp only[Ey];omega) (by simp only[Ey];omega),hsl, ?_⟩
  intro q hq
  have hq':q<Fq (gd c.Aa.xs i):=by simpa only[Ey,Ql]using hq
  show Fb .i64 (gd _ _)
  have:gd (Ey c i ⟨a,cp,DY c i (Fq (gd c.Aa.xs i))⟩).Tables.xs q=C9 c i+1+(q:Int):=Td hq'
  rw[this]
  exact Ll (by omega) (by omega)
 ·intro k hk
  have hk':k<c.Ac.xs.length:=by rw[←hL.cl];exact hk
  obtain⟨a,cp,e⟩:=hL.cs k hk'
  have hb:=PZ hf k (by omega)
  have hd:=hf.TP hk'
  have hp0:Bi c c.Aa.xs.length=c.Kernel*16+2+24*(c.Aa.xs.length:Int):=rfl
  have hpp:∀ i,i<c.Aa.xs.length→(gd c.Aa.xs i).Ai.xs.length≤8:=fun i hi=>MG (hf.parts i hi)
  have hm:(gd L.Ac.xs k).AX∈L.Ac.xs.map Aq.AX:=List.mem_map_of_mem (by rw[DC hk];exact List.getElem_mem hk)
  have hsl:=OI (by intro _;rfl) h2 hm (by rw[e];simp only[GK,PR];omega)
  have h1p:0<(Ba c (k:Int) true).length:=by omega
  have hsrc:=UW (k:=(k:Int)) (b:=true) hpp hpn (gd (Ba c (k:Int) true) 0) (by rw[DC h1p];exact List.getElem_mem _)
  rw[e]at hsl ⊢
  refine⟨Ll (by simp only[GK];omega) (by simp only[GK];omega),Ll (by simp only[GK];omega) (by simp only[GK];omega),Ll (by simp only[GK];omega) (by simp only[GK];omega),Ll (by simp only[GK];omega) (by simp only[GK];omega),hsl, ?_⟩
  intro q hq
  have hq':q<Gg c k:=by simpa only[GK,PR]using hq
  have e2:gd (GK c k ⟨a,cp,D8 c k (Gg c k)⟩).AX.xs q=KH c k q:=Td hq'
  have hdst:=UW (k:=(k:Int)) (b:=false) hpp hpn (gd (Ba c (k:Int) false) q) (by rw[DC hq'];exact List.getElem_mem _)
  have hdb:=XU hf hk' (show q≤4 by omega)
  rw[e2]
  exact⟨Ll (by simp only[KH];omega) (by simp only[KH];omega),Ll (by simp only[KH];omega) (by simp only[KH];omega),Ll (by simp only[KH];omega) (by simp only[KH];omega)⟩
 have:=NG hf _ (Nat.le_refl _)
 exact Ll (by rw[hL.fin];omega) (by rw[hL.fin];omega)
theorem Zp(w:World)(c:Af)(hc:Af.ok Any w c)(hok:BZ c=false):Calls Try.prog 11 #[.agg (Af.arr c)] w fun e w'=>e = .returned (.tuple #[.agg #[.int .i64 0,.slice none 0 0,.slice none 0 0,.int .i64 0],.int .i64 150])∧BN (fun _=>False) w w':=by
 obtain⟨z,hz⟩:∃ z,z=w.heap.size:=⟨_,rfl⟩
 refine BV (args:=[.agg (Af.arr c)]) 148 ⟨w,z,[(Ak w)]⟩ Try.func11 rfl (by kernel_rfl) (by kernel_rfl) (Fv hz) ?_
 refine Eb [0] [(0,.agg (Af.arr c))] ?_
 refine q_c 7 1 [] [[o0,o0,o0],[(an 7 1)]] [Qb z,Qb z,Qb z,Qb z,Qb z,Qb z,Qb z] [(1,pt z),(2,pt (z+1)),(16,.agg (Af.arr c))] ⟨w,z+2,[(Ak w),(bk z (Af.arr c) 26),(bk (z+1) #[i6 0,.slice none 0 0,.slice none 0 0,i6 0] 31)]⟩ rfl ⟨rfl,rfl,rfl,rfl,rfl,rfl,rfl,Ae⟩ ?_
 refine H5 20 #[.agg (Af.arr c)] (some 17) (.bool false) (fun w1 hw1=>can_no w1 c (hc.ext (hw1.ext rfl) (fun _ h=>h)) hok) (fun n2 (hn3:z+2≤n2) => ?_)
 refine Di 8 0 [1] [[o0],[o0,(an 4 2),o0]] [Qb (z+1),Qb (z+1),Qb (z+1),Qb (z+1)] [(2,pt (z+1)),(3,i6 150)] rfl ⟨rfl,rfl,rfl,rfl,Ae⟩ ?_
 refine AZ [.at 2,.at 2,.at 2,.at 2] [Qb (z+1),Qb (z+1),Qb (z+1),Qb (z+1)] (.tuple #[.agg #[i6 0,.slice none 0 0,.slice none 0 0,i6 0],i6 150]) ⟨rfl,rfl,rfl,rfl,Ae⟩ ?_
 intro w4 hw4
 exact⟨rfl,Bg hw4⟩
section
variable (n2:Nat)(c:Af)(aP:Option Addr)(i cP:Nat)(ax100:Option Addr)(csG:List Aq)(k:Nat)(y48:Ee)(aD:Option Addr)(cD j cp101:Nat)(ax20:Option Addr)(cp21 b50:Nat)(ax96:Option Addr)(y89:Ee)(cp97 n80:Nat)(w55 w36:World)(b119:Nat)(psG:List Aj)(cP2:Nat)(aC:Option Addr)(cC n9:Nat)(aP2:Option Addr)(w91:World)(z:Nat)(y34:Aw)(n25 p:Nat)(t n109:Nat)(y118:Ah)(aT:Option Addr)(cT:Nat)(ax134:Option Addr)(cp135 b111:Nat)(o112 b82:Nat)(o83 cp40:Nat)(b27 o28:Nat)(ax39:Option Addr)(w:World)
abbrev U4:=bk (n2+1) #[i6 (c.Kernel*16),.slice aP ((Gs c i).length) cP,.slice ax100 ((csG++[(⟨Bc c k,(Bc c k)+2,y48.partition,y48.port,(⟨aD,cD,D8 c k j⟩:Sl AL)⟩:Aq)]).length) cp101,i6 0] 31
abbrev Un:Ch:= .blk (n2+1) (.cells #[i6 (c.Kernel*16),.slice ax20 ((Gs c i++[(⟨Bi c i,(Bi c i)+2,((Bi c i)+2)+17,0,(⟨none,0,[]⟩:Sl Int)⟩:Aj)]).length) cp21,.slice none 0 0,i6 0] 31 (0,0)) true
abbrev Rj:=bk b50 #[i6 (Bc c k),i6 ((Bc c k)+2),i6 y48.partition,i6 y48.port,.slice ax96 ((D8 c k j++[(⟨y89.partition,y89.port,F9 c k j⟩:AL)]).length) cp97] 62
abbrev Hq:=bk b50 #[i6 (Bc c k),i6 ((Bc c k)+2),i6 y48.partition,i6 y48.port,.slice aD ((D8 c k j).length) cD] 62
abbrev Ut:=bk n80 #[i6 (Bc c k),i6 ((Bc c k)+2),i6 y48.partition,i6 y48.port,.slice aD ((D8 c k j).length) cD] 62
abbrev qzm6_5:Ch:= .blk w55.heap.size (.cells #[i6 (Bc c k),i6 ((Bc c k)+2),i6 y48.partition,i6 y48.port,.slice none 0 0] 62 (0,0)) true
abbrev qzm6_6:Ch:= .blk w36.heap.size (.cells #[i6 (Bc c k),i6 ((Bc c k)+2),i6 y48.partition,i6 y48.port,.slice none 0 0] 62 (0,0)) true
abbrev J7:=bk (n2+1) #[i6 (c.Kernel*16),.slice (some ⟨b119,0,none⟩) psG.length cP2,.slice aC csG.length cC,i6 0] 31
abbrev U5:=bk n9 #[i6 (Bi c i),i6 ((Bi c i)+2),i6 (((Bi c i)+2)+17),i6 0,.slice none 0 0] 69
abbrev Dw:=bk (n2+1) #[i6 (c.Kernel*16),.slice aP ((Gs c i).length) cP,.slice aC csG.length cC,i6 0] 31
abbrev F6:=bk (n2+1) #[i6 (c.Kernel*16),.slice aP ((Gs c i).length) cP,.slice none 0 0,i6 0] 31
abbrev NH:=bk (n2+1) #[i6 (c.Kernel*16),.slice aP2 psG.length cP2,.slice aC csG.length cC,i6 0] 31
abbrev UH:Ch:= .blk w55.heap.size (.cells #[i6 0,i6 0,i6 0,i6 0,.slice none 0 0] 62 (0,0)) true
abbrev SI:Ch:= .blk w36.heap.size (.cells #[i6 0,i6 0,i6 0,i6 0,.slice none 0 0] 62 (0,0)) true
abbrev Px:Ch:= .blk w91.heap.size (.cells #[i6 y89.partition,i6 y89.port,i6 (F9 c k j)] 71 (0,0)) true
abbrev Bh:=bk (z+1) #[i6 0,.slice none 0 0,.slice none 0 0,i6 0] 31
abbrev Gq:=bk n2 #[i6 (((Bc c k)+2)+(AB y34))] 3
abbrev P5:=bk n25 #[i6 ((C9 c p+1+(t:Int))+1)] 3
abbrev PE:=bk n2 #[i6 ((((Bi c i)+2)+17)+5)] 3
abbrev NL:=bk n2 #[i6 ((F9 c k j)+(portOf y34))] 3
abbrev Oz:=bk n25 #[i6 (C9 c p+1+(t:Int))] 3
abbrev RY:=bk n2 #[i6 ((Bc c k)+2)] 3
abbrev G9:=bk n2 #[i6 (F9 c k j)] 3
abbrev IB:=bk n109 (Ah.arr y118) 52
abbrev LQ:=bk n25 #[i6 (C9 c p)] 3
abbrev DU:=bk n2 #[i6 (Bc c k)] 3
abbrev Dc:=bk n25 (Aw.arr y34) 77
abbrev LU:=bk n80 (Ee.arr y89) 91
abbrev Bf:=bk z (Af.arr c) 26
abbrev SX:=AV z 69 5 Aj.cells (.slice (some ⟨b119,0,none⟩) psG.length cP2) ((psG.set p (⟨Bi c p,Bi c p+2,Bi c p+2+17,C9 c p,(⟨aT,cT,DY c p t⟩:Sl Int)⟩:Aj)).set p (⟨Bi c p,Bi c p+2,Bi c p+2+17,C9 c p,(⟨ax134,cp135,((DY c p t)++[C9 c p+1+(t:Int)])⟩:Sl Int)⟩:Aj))
abbrev RZ:=AV z 62 5 Aq.cells (.slice ax100 ((csG++[(⟨Bc c k,(Bc c k)+2,y48.partition,y48.port,(⟨aD,cD,D8 c k j⟩:Sl AL)⟩:Aq)]).length) cp101) (csG++[(⟨Bc c k,(Bc c k)+2,y48.partition,y48.port,(⟨aD,cD,D8 c k j⟩:Sl AL)⟩:Aq)])
abbrev Si:=AV z 69 5 Aj.cells (.slice ax20 ((Gs c i++[(⟨Bi c i,(Bi c i)+2,((Bi c i)+2)+17,0,(⟨none,0,[]⟩:Sl Int)⟩:Aj)]).length) cp21) (Gs c i++[(⟨Bi c i,(Bi c i)+2,((Bi c i)+2)+17,0,(⟨none,0,[]⟩:Sl Int)⟩:Aj)])
abbrev Pv:=AV z 71 3 AL.cells (.slice ax96 ((D8 c k j++[(⟨y89.partition,y89.port,F9 c k j⟩:AL)]).length) cp97) (D8 c k j++[(⟨y89.partition,y89.port,F9 c k j⟩:AL)])
abbrev KQ:=AV z 69 5 Aj.cells (.slice (some ⟨b119,0,none⟩) psG.length cP2) (psG.set p (⟨Bi c p,Bi c p+2,Bi c p+2+17,C9 c p,(⟨aT,cT,DY c p t⟩:Sl Int)⟩:Aj))
abbrev O1:=AV z 3 1 (fun x:Int=>[i6 x]) (.slice aT ((DY c p t).length) cT) (DY c p t)
abbrev He:=AA z 3 1 (fun x:Int=>[i6 x]) ((psG.take p).map Aj.Tables)
abbrev Cj:=AV z 69 5 Aj.cells (.slice aP ((Gs c i).length) cP) (Gs c i)
abbrev G6:=AV z 71 3 AL.cells (.slice aD ((D8 c k j).length) cD) (D8 c k j)
abbrev Na:=AV z 69 5 Aj.cells (.slice aP2 psG.length cP2) psG
abbrev BX:=AV z 62 5 Aq.cells (.slice aC csG.length cC) csG
abbrev BP:=AA z 71 3 AL.cells (csG.map Aq.AX)
abbrev Vh:Dq:=(42,.slice ax20 ((Gs c i++[(⟨Bi c i,(Bi c i)+2,((Bi c i)+2)+17,0,(⟨none,0,[]⟩:Sl Int)⟩:Aj)]).length) cp21)
abbrev SV:Dq:=(73,.agg #[i6 (Bc c k),i6 ((Bc c k)+2),i6 y48.partition,i6 y48.port,.slice none 0 0])
abbrev Ff:Dq:=(109,.slice (some ⟨b111,o112,none⟩) c.Aa.xs.length c.Aa.cap)
abbrev Jf:Dq:=(74,.slice (some ⟨b82,o83,none⟩) ((Ba c (k:Int) false).length) cp40)
abbrev BJ:Dq:=(46,.slice (some ⟨b27,o28,none⟩) c.Ac.xs.length c.Ac.cap)
abbrev KP:Dq:=(109,.slice c.Aa.a c.Aa.xs.length c.Aa.cap)
abbrev EI:=(75,i6 (((Ba c (k:Int) false).length:Nat):Int))
abbrev Gy:Dq:=(46,.slice c.Ac.a c.Ac.xs.length c.Ac.cap)
abbrev Eu:Dq:=(13,.func (.func 37) #[] #[pt n25])
abbrev Nj:Dq:=(61,.func (.func 37) #[] #[pt n2])
abbrev Bd:Dq:=(4,.func (.func 37) #[] #[pt n2])
abbrev H9:Dq:=(74,.slice ax39 ((Ba c (k:Int) false).length) cp40)
abbrev Dn:Dq:=(9,.slice ax39 ((Ba c (k:Int) false).length) cp40)
abbrev Eo:=(110,Ad c.Aa.xs.length)
abbrev Em:=(29,Ad c.Aa.xs.length)
abbrev BB:=(47,Ad c.Ac.xs.length)
abbrev O8:=(10,pt w55.heap.size)
abbrev JX:=(10,pt w36.heap.size)
abbrev Ir:=(124,i6 ((Fq y118:Nat):Int))
abbrev PD:Dq:=(33,.slice aP ((Gs c i).length) cP)
abbrev AQ:=(5,pt (n2+1))
abbrev AO:=(2,pt (z+1))
abbrev EG:=(10,pt b50)
abbrev Cb:=(7,pt n25)
abbrev OA:=[(Ak w),(Bf c z),(Bh z),(DU n2 c k),(J7 n2 c csG b119 psG cP2 aC cC),(KQ c b119 psG cP2 z p t aT cT),(BP csG z),(BX csG aC cC z),(Oz c n25 p t),(He psG z p),(IB n109 y118),(O1 c z p t aT cT)]
abbrev Q3:=[(Ak w),(Bf c z),(Bh z),(Gq n2 c k y34),(Dw n2 c aP i cP csG aC cC),(Cj c aP i cP z),(BP csG z),(BX csG aC cC z),(Dc y34 n25),(mid (n25+1) w36),(qzm6_5 c k y48 w55)]
abbrev QA:=[(Ak w),(Bf c z),(Bh z),(Gq n2 c k y34),(Dw n2 c aP i cP csG aC cC),(Cj c aP i cP z),(BP csG z),(BX csG aC cC z),(Dc y34 n25),(mid (n25+1) w36),(qzm6_6 c k y48 w36)]
abbrev UQ:=[(Ak w),(Bf c z),(Bh z),(RY n2 c k),(Dw n2 c aP i cP csG aC cC),(Cj c aP i cP z),(BP csG z),(BX csG aC cC z),(Dc y34 n25),(mid (n25+1) w36),(SI w36)]
abbrev Nh:=[(Ak w),(Bf c z),(Bh z),(DU n2 c k),(NH n2 c csG psG cP2 aC cC aP2),(Na psG cP2 aP2 z),(BP csG z),(BX csG aC cC z),(LQ c n25 p),(He psG z p)]
abbrev Hg:=[(Ak w),(Bf c z),(Bh z),(DU n2 c k),(Dw n2 c aP i cP csG aC cC),(Cj c aP i cP z),(BP csG z),(BX csG aC cC z)]
abbrev Gz:=[(Ak w),(Bf c z),(Bh z),(bk n2 #[i6 (Bi c i)] 3),(F6 n2 c aP i cP),(Cj c aP i cP z)]
end
theorem Y6(w:World)(c:Af)(hc:Af.ok Any w c)(hok:BZ c=true):Calls Try.prog 11 #[.agg (Af.arr c)] w fun e w'=>∃ L:Bj,e = .returned (.tuple #[.agg (Bj.arr L),.int .i64 0])∧Lm c L∧Bj.ok (New w.heap.size) w' L∧Og w.heap.size w' L∧BN (fun _=>False) w w':=by
 obtain⟨z,hz⟩:∃ z,z=w.heap.size:=⟨_,rfl⟩
 refine BV (args:=[.agg (Af.arr c)]) 148 ⟨w,z,[(Ak w)]⟩ Try.func11 rfl (by kernel_rfl) (by kernel_rfl) (Fv hz) ?_
 have hfine:=MW hok;have hkn:=hfine.kn;have hpn:=hfine.pn;have hcn:=hfine.cn
 refine Eb [0] [(0,.agg (Af.arr c))] ?_
 refine q_c 7 1 [] [[o0,o0,o0],[(an 7 1)]] [Qb z,Qb z,Qb z,Qb z,Qb z,Qb z,Qb z] [(1,pt z),(AO z),(16,.agg (Af.arr c))] ⟨w,z+2,[(Ak w),(Bf c z),(Bh z)]⟩ rfl ⟨rfl,rfl,rfl,rfl,rfl,rfl,rfl,Ae⟩ ?_
 refine H5 20 #[.agg (Af.arr c)] (some 17) (.bool true) (fun w1 hw1=>can_yes w1 c (hc.ext (hw1.ext rfl) (fun _ h=>h)) hok) (fun n2 (hn3:z+2≤n2) => ?_)
 refine Di 7 3 [0] [[o0],[o0,(a1 1),(ov (i6 (c.Kernel*16)))]] [Qb z,Wr ((c.Kernel:Int)*16) (c.Kernel*16)] [(1,pt z),(AO z),(22,i6 (c.Kernel*16))] rfl ⟨rfl,Be,Ae⟩ ?_
 refine l_call [] [] 21 #[i6 (c.Kernel*16)] (some 23) Ae ?_
 intro w4 hw4
 refine BV (args:=[i6 (c.Kernel*16)]) 4 ⟨w,n2,[(Ak w),(Bf c z),(Bh z)]⟩ Try.func21 rfl (by kernel_rfl) (by kernel_rfl) hw4 ?_
 refine q_c 9 0 [] [[o0,o0],[o0,o0]] [] [(2,.func (.func 37) #[] #[pt n2])] ⟨w,n2+1,[(Ak w),(Bf c z),(Bh z),(bk n2 #[i6 (c.Kernel*16)] 3)]⟩ rfl Ae ?_
 refine AZ [] [] (.func (.func 37) #[] #[pt n2]) Ae ?_
 intro w5 hw5
 refine⟨_,_,rfl,hw5, ?_⟩
 refine Di 4 1 [] [[o0],[o0]] [] [(1,pt z),(AO z),(Bd n2),(24,.func (.func 37) #[] #[pt n2])] rfl Ae ?_
 refine l_call [] [] 37 #[i6 2,pt n2] (some 25) Ae ?_
 intro w6 hw6
 refine BV (args:=[i6 2,pt n2]) 10 ⟨w,n2+1,[(Ak w),(Bf c z),(Bh z),(bk n2 #[i6 (c.Kernel*16)] 3)]⟩ Try.func37 rfl (by kernel_rfl) (by kernel_rfl) hw6 ?_
 refine q_c 17 0 [] [[o0],[(a1 3),o0],[(a1 3),o0,(ov (i6 ((c.Kernel*16)+2))),(a1 3)],[o0,o0]] [Qb n2,Qb n2,Wr ((c.Kernel*16:Int)+2) ((c.Kernel*16)+2),Qb n2] [(3,i6 (c.Kernel*16))] ⟨w,n2+1,[(Ak w),(Bf c z),(Bh z),(bk n2 #[i6 ((c.Kernel*16)+2)] 3)]⟩ rfl ⟨rfl,rfl,Be,rfl,Ae⟩ ?_
 refine AZ [] [] (i6 (c.Kernel*16)) Ae ?_
 intro w7 hw7
 refine⟨_,_,rfl,hw7, ?_⟩
 refine Hu 8 0 [] [[o0,o0,(an 4 4)],[o0,(a1 1),o0,o0]] [Qb (n2+1),Qb (n2+1),Qb (n2+1),Qb (n2+1),Qb z] [(1,pt z),(AO z),(Bd n2),(AQ n2),(Em c),(30,i6 0)] ⟨w,n2+2,[(Ak w),(Bf c z),(Bh z),(bk n2 #[i6 ((c.Kernel*16)+2)] 3),(bk (n2+1) #[i6 (c.Kernel*16),.slice none 0 0,.slice none 0 0,i6 0] 31)]⟩ rfl ⟨rfl,rfl,rfl,rfl,rfl,Ae⟩ ?_
 refine Le z 69 5 Aj.cells ?_
 refine Ce (fun m a w'=>∃ (n9:Nat) (i:Nat) (aP:Option Addr) (cP:Nat),m=c.Aa.xs.length - i∧n2+2≤n9∧(i≤c.Aa.xs.length)∧St 148 [(1,pt z),(AO z),(Bd n2),(AQ n2),(Em c),(30,Ad i)] [] ⟨w,n9,(Gz n2 c aP i cP z w)⟩ a w') (c.Aa.xs.length - 0) ?_ ?_
 ·intro a w' hs;exact⟨(n2+2),0,none,0,rfl,Nat.le_refl _,Nat.zero_le _,by(try dsimp only[F6,Bh,Bf,Cj,Bd,Em,AQ,AO,Gz]at hs ⊢);rw[show Bi c 0=(c.Kernel*16)+2 from by unfold Bi;omega];exact hs⟩
 rintro m a w' ⟨n9,i,aP,cP,rfl,hn8,hki,hs⟩
 refine(?_:G Try.prog 148 [(1,pt z),(AO z),(Bd n2),(AQ n2),(Em c),(30,Ad i)] [] ⟨w,n9,(Gz n2 c aP i cP z w)⟩ _ _ _) a w' hs
 clear hs a w'
 have hpA:Bi c i=c.Kernel*16+2+24*(i:Int):=rfl
 have hpl0:(Gs c i).length=i:=U9
 refine CP ?_
 by_cases h10:(i:Int)<(c.Aa.xs.length:Int)
 ·refine A8 9 0 [1] [[oT]] [BT ((i:Int)<(c.Aa.xs.length:Int))] [(1,pt z),(AO z),(Bd n2),(AQ n2),(Em c),(30,Ad i),(31,.bool true)] rfl ⟨bt,Ae⟩ ?_
  refine Fp 12 [0,1,2,4] [(Ak w),(Bf c z),(Bh z),(F6 n2 c aP i cP)] rfl rfl ?_
  refine CU [(0,o0),(1,(a1 3)),(2,o0),(4,o0),(6,o0)] [1,2,4,5,29,30,33,34,36,38] [Qb (n2+1)] [true,true,true,false,true,false,true,false,false,false,false,false,false] [(1,pt z),(AO z),(Bd n2),(AQ n2),(Em c),(30,Ad i),(PD c aP i cP),(34,.func (.func 37) #[] #[pt n2]),(36,.func (.func 37) #[] #[pt n2]),(38,.func (.func 37) #[] #[pt n2])] ⟨rfl,Ae⟩ ?_
  refine CX 3 ?_
  refine FZ [] [] 37 #[i6 2,pt n2] (some 35) (by as_aux_lemma=>kernel_rfl) rfl rfl Ae ?_
  intro w11 hw11
  refine BV (args:=[i6 2,pt n2]) 10 ⟨w,n9,(Gz n2 c aP i cP z w)⟩ Try.func37 rfl (by kernel_rfl) (by kernel_rfl) hw11 ?_
  refine q_c 17 0 [] [[o0],[(a1 3),o0],[(a1 3),o0,(ov (i6 ((Bi c i)+2))),(a1 3)],[o0,o0]] [Qb n2,Qb n2,Wr ((Bi c i:Int)+2) ((Bi c i)+2),Qb n2] [(3,i6 (Bi c i))] ⟨w,n9,[(Ak w),(Bf c z),(Bh z),(bk n2 #[i6 ((Bi c i)+2)] 3),(F6 n2 c aP i cP),(Cj c aP i cP z)]⟩ rfl ⟨rfl,rfl,Be,rfl,Ae⟩ ?_
  refine AZ [] [] (i6 (Bi c i)) Ae ?_
  intro w12 hw12
  have hs13:=hw12
  refine⟨_,_,rfl,hs13,.inr (fun c hc=>hs13.all c (by first | exact hc | exact Dt (is:=[0,1,2,4]) rfl c hc)), ?_⟩
  refine DV [1,2,4,5,29,30,33,36,38,35] [(1,pt z),(AO z),(Bd n2),(AQ n2),(Em c),(30,Ad i),(PD c aP i cP),(36,.func (.func 37) #[] #[pt n2]),(38,.func (.func 37) #[] #[pt n2]),(35,i6 (Bi c i))] ?_
  refine CX 5 ?_
  refine FZ [] [] 37 #[i6 17,pt n2] (some 37) (by as_aux_lemma=>kernel_rfl) rfl rfl Ae ?_
  intro w14 hw14
  refine BV (args:=[i6 17,pt n2]) 10 ⟨w,n9,[(Ak w),(Bf c z),(Bh z),(bk n2 #[i6 ((Bi c i)+2)] 3),(F6 n2 c aP i cP),(Cj c aP i cP z)]⟩ Try.func37 rfl (by kernel_rfl) (by kernel_rfl) hw14 ?_
  refine q_c 17 0 [] [[o0],[(a1 3),o0],[(a1 3),o0,(ov (i6 (((Bi c i)+2)+17))),(a1 3)],[o0,o0]] [Qb n2,Qb n2,Wr (((Bi c i)+2:Int)+17) (((Bi c i)+2)+17),Qb n2] [(3,i6 ((Bi c i)+2))] ⟨w,n9,[(Ak w),(Bf c z),(Bh z),(bk n2 #[i6 (((Bi c i)+2)+17)] 3),(F6 n2 c aP i cP),(Cj c aP i cP z)]⟩ rfl ⟨rfl,rfl,Be,rfl,Ae⟩ ?_
  refine AZ [] [] (i6 ((Bi c i)+2)) Ae ?_
  intro w15 hw15
  have hs16:=hw15
  refine⟨_,_,rfl,hs16,.inr (fun c hc=>hs16.all c (by first | exact hc | exact Dt (is:=[0,1,2,4]) rfl c hc)), ?_⟩
  refine DV [1,2,4,5,29,30,33,38,35,37] [(1,pt z),(AO z),(Bd n2),(AQ n2),(Em c),(30,Ad i),(PD c aP i cP),(38,.func (.func 37) #[] #[pt n2]),(35,i6 (Bi c i)),(37,i6 ((Bi c i)+2))] ?_
  refine CX 7 ?_
  refine FZ [] [] 37 #[i6 5,pt n2] (some 39) (by as_aux_lemma=>kernel_rfl) rfl rfl Ae ?_
  intro w17 hw17
  refine BV (args:=[i6 5,pt n2]) 10 ⟨w,n9,[(Ak w),(Bf c z),(Bh z),(bk n2 #[i6 (((Bi c i)+2)+17)] 3),(F6 n2 c aP i cP),(Cj c aP i cP z)]⟩ Try.func37 rfl (by kernel_rfl) (by kernel_rfl) hw17 ?_
  refine q_c 17 0 [] [[o0],[(a1 3),o0],[(a1 3),o0,(ov (i6 ((((Bi c i)+2)+17)+5))),(a1 3)],[o0,o0]] [Qb n2,Qb n2,Wr ((((Bi c i)+2)+17:Int)+5) ((((Bi c i)+2)+17)+5),Qb n2] [(3,i6 (((Bi c i)+2)+17))] ⟨w,n9,[(Ak w),(Bf c z),(Bh z),(PE n2 c i),(F6 n2 c aP i cP),(Cj c aP i cP z)]⟩ rfl ⟨rfl,rfl,Be,rfl,Ae⟩ ?_
  refine AZ [] [] (i6 (((Bi c i)+2)+17)) Ae ?_
  intro w18 hw18
  have hs19:=hw18
  refine⟨_,_,rfl,hs19,.inr (fun c hc=>hs19.all c (by first | exact hc | exact Dt (is:=[0,1,2,4]) rfl c hc)), ?_⟩
  refine DV [1,2,4,5,29,30,33,35,37,39] [(1,pt z),(AO z),(Bd n2),(AQ n2),(Em c),(30,Ad i),(PD c aP i cP),(35,i6 (Bi c i)),(37,i6 ((Bi c i)+2)),(39,i6 (((Bi c i)+2)+17))] ?_
  refine CU [(8,o0)] [1,2,4,5,29,30,33,40] [] (Ed 9 4) [(1,pt z),(AO z),(Bd n2),(AQ n2),(Em c),(30,Ad i),(PD c aP i cP),(40,.agg #[i6 (Bi c i),i6 ((Bi c i)+2),i6 (((Bi c i)+2)+17),i6 0,.slice none 0 0])] Ae ?_
  refine CX 9 ?_
  refine EJ o0 [1,2,4,5,29,30,33,41] [] [(1,pt z),(AO z),(Bd n2),(AQ n2),(Em c),(30,Ad i),(PD c aP i cP),(41,.slice (some ⟨n9,0,none⟩) 1 1)] ⟨w,n9+1,[(Ak w),(Bf c z),(Bh z),(PE n2 c i),(F6 n2 c aP i cP),(Cj c aP i cP z),(U5 c i n9)]⟩ [0,1,2,4] Ae (.inr rfl) ?_
  refine CX 10 ?_
  refine QD z 5 6 (Gs c i) [(⟨Bi c i,(Bi c i)+2,((Bi c i)+2)+17,0,(⟨none,0,[]⟩:Sl Int)⟩:Aj)] Aj.cells 69 5 56 (.slice aP ((Gs c i).length) cP) n9 1 1 #[i6 (Bi c i),i6 ((Bi c i)+2),i6 (((Bi c i)+2)+17),i6 0,.slice none 0 0] 69 (0,0) true (some 42) [0,1,2,4] (by simp only[List.length_cons,List.length_nil];omega) (show z≤n9+1 by omega) (.inr ⟨rfl,rfl⟩) (fun ax20 cp21 n22 (hn23:n9+1≤n22) => ?_)
  refine DV [1,2,4,5,29,30,42] [(1,pt z),(AO z),(Bd n2),(AQ n2),(Em c),(30,Ad i),(Vh c i ax20 cp21)] ?_
  refine CU [(11,o0)] [1,2,4,5,29,30,42,43] [] (Ed 12 1) [(1,pt z),(AO z),(Bd n2),(AQ n2),(Em c),(30,Ad i),(Vh c i ax20 cp21),(43,.pointer (some ⟨n2+1,1,none⟩))] Ae ?_
  refine CX 12 ?_
  refine EJ (a1 4) [1,2,4,5,29,30] [Qb (n2+1)] [(1,pt z),(AO z),(Bd n2),(AQ n2),(Em c),(30,Ad i)] ⟨w,n22,[(Ak w),(Bf c z),(Bh z),(PE n2 c i),(Un n2 c i ax20 cp21),(Si c i ax20 cp21 z),(U5 c i n9)]⟩ [] ⟨rfl,Ae⟩ (.inl rfl) ?_
  refine IA 13 [0,1,2,3,4,5,6] [(Ak w),(Bf c z),(Bh z),(PE n2 c i),(Un n2 c i ax20 cp21),(Si c i ax20 cp21 z),(U5 c i n9)] rfl rfl ?_
  refine D9 ?_
  refine Ja 4 0 [] [[(ov (i6 ((i+1:Nat):Int))),o0]] [Wr ((i:Int)+1) (((i+1:Nat):Int))] [(1,pt z),(AO z),(Bd n2),(AQ n2),(Em c),(30,i6 ((i+1:Nat):Int))] rfl ⟨Be,Ae⟩ ?_
  refine BO [0,1,2,3,4,5] [(Ak w),(Bf c z),(Bh z),(PE n2 c i),(Un n2 c i ax20 cp21),(Si c i ax20 cp21 z)] rfl rfl ?_
  refine Dp [1,2,4,5,29,30] [(1,pt z),(AO z),(Bd n2),(AQ n2),(Em c),(30,i6 ((i+1:Nat):Int))] ?_
  refine Bz (fun a w' hs=>⟨c.Aa.xs.length - (i+1),by omega,n22,(i+1),ax20,cp21,rfl,by omega,by omega,by(try dsimp only[Un,U5,F6,Bh,PE,Bf,Si,Cj,Vh,Bd,Em,PD,AQ,AO,Gz]at hs ⊢);rw[show Bi c (i+1)=(((Bi c i)+2)+17)+5 from by unfold Bi;omega,XH];exact hs⟩)
 refine A8 16 0 [0] [[oF],[o0,(a1 1),o0,o0]] [BF ((i:Int)<(c.Aa.xs.length:Int)),Qb z] [(1,pt z),(AO z),(Bd n2),(AQ n2),(Gy c),(BB c),(48,i6 0)] rfl ⟨bf,rfl,Ae⟩ ?_
 refine OZ z 71 3 AL.cells ?_
 refine Le z 62 5 Aq.cells ?_
 refine Ce (fun m a w'=>∃ (n25:Nat) (k:Nat) (csG:List Aq) (aC:Option Addr) (cC:Nat),m=c.Ac.xs.length - k∧n9≤n25∧(k≤c.Ac.xs.length)∧(csG.length=k)∧(∀ q,q<k→∃ a cp,gd csG q=GK c q ⟨a,cp,D8 c q (Gg c q)⟩)∧St 148 [(1,pt z),(AO z),(Bd n2),(AQ n2),(Gy c),(BB c),(48,Ad k)] [] ⟨w,n25,(Hg n2 c aP i cP csG k aC cC z w)⟩ a w') (c.Ac.xs.length - 0) ?_ ?_
 ·intro a w' hs;exact⟨n9,0,([]),none,0,rfl,Nat.le_refl _,Nat.zero_le _,rfl,fun q hq=>absurd hq (Nat.not_lt_zero q),by(try dsimp only[Un,U5,Dw,F6,Bh,PE,DU,Bf,Si,Cj,BX,BP,Vh,Gy,Bd,Em,BB,AQ,AO,Hg,Gz]at hs ⊢);rw[show Bc c 0=Bi c i from by rw[show i=c.Aa.xs.length by omega];rfl];exact hs⟩
 rintro m a w' ⟨n25,k,csG,aC,cC,rfl,hn24,hkk,hcl,hcs,hs⟩
 refine(?_:G Try.prog 148 [(1,pt z),(AO z),(Bd n2),(AQ n2),(Gy c),(BB c),(48,Ad k)] [] ⟨w,n25,(Hg n2 c aP i cP csG k aC cC z w)⟩ _ _ _) a w' hs
 clear hs a w'
 have hcb:=PZ hfine k (by omega)
 have hp0:Bi c c.Aa.xs.length=c.Kernel*16+2+24*(c.Aa.xs.length:Int):=rfl
 refine CP ?_
 by_cases h26:(k:Int)<(c.Ac.xs.length:Int)
 ·refine A8 10 0 [1] [[oT]] [BT ((k:Int)<(c.Ac.xs.length:Int))] [(1,pt z),(AO z),(Bd n2),(AQ n2),(Gy c),(BB c),(48,Ad k),(49,.bool true)] rfl ⟨bt,Ae⟩ ?_
  obtain⟨b27,o28,ha29,hF31,hc30⟩:=(hc.Ac).1.all (show 0<c.Ac.xs.length by omega)
  replace ha29:c.Ac.a=some ⟨b27,o28,none⟩:=ha29
  refine IZ [(1,pt z),(AO z),(Bd n2),(AQ n2),(BJ c b27 o28),(BB c),(48,Ad k),(49,.bool true)] (by(try dsimp only[Dw,F6,Bh,DU,Bf,Cj,BX,BP,BJ,Gy,Bd,Em,BB,AQ,AO,Hg,Gz]);simp only[ha29]) ?_
  have hc32:=hc30 k (show k<c.Ac.xs.length by omega)
  have he33:=(hc.Ac).2 k (show k<c.Ac.xs.length by omega)
  obtain⟨y34,hy34⟩:∃ y_,y_=gd c.Ac.xs k:=⟨_,rfl⟩
  rw[←hy34]at he33 hc32
  have hEd:=hfine.TP (k:=k) (by omega);have hsb:=KE y34;have hpb:=P6 y34;have hlb:=WT hfine (show k<c.Ac.xs.length by omega);have hEn:Gg c k=(Ba c (k:Int) false).length:=rfl
  refine q_c 5 2 [] [[o0,(oi k),(ol 0 (Aw.arr y34)),o0,o0,(an 3 8)],[(an 7 1),o0]] [BI k,k<c.Ac.xs.length,Bq,Eh w b27 (o28+k*3) (Aw.arr y34),Qb n25,Qb n25,Qb n25,Qb z,Qb z,Qb z,Qb z,Qb z,Qb z,Qb z] [(1,pt z),(AO z),(Bd n2),(AQ n2),(BJ c b27 o28),(BB c),(48,Ad k),(Cb n25),(54,.agg (Af.arr c)),(55,Ad k)] ⟨w,n25+1,[(Ak w),(Bf c z),(Bh z),(DU n2 c k),(Dw n2 c aP i cP csG aC cC),(Cj c aP i cP z),(BP csG z),(BX csG aC cC z),(Dc y34 n25)]⟩ rfl ⟨rfl,(by omega),rfl,CB hc32,rfl,rfl,rfl,rfl,rfl,rfl,rfl,rfl,rfl,rfl,Ae⟩ ?_
  refine l_call [] [] 22 #[.agg (Af.arr c),Ad k] (some 56) Ae ?_
  intro w35 hw35
  refine(VX w35 c (k:Int) (hc.ext (hw35.ext rfl) (fun _ h=>h)) (by omega) (fun i hi=>MG (hfine.parts i hi))).mono ?_
  rintro e w36 ⟨ax37,cp38,ax39,cp40,rfl,hSw36,hDw36,hkw36⟩
  have hnw36:n25+1≤w36.heap.size:=Dx hw35 hkw36
  rw[hw35.size]at hSw36 hDw36
  refine⟨_,_,rfl,hw35.Lc hkw36, ?_⟩
  refine Di 3 0 [] [[o0,o0,o0,o0,o0]] [] [(1,pt z),(AO z),(Bd n2),(AQ n2),(BJ c b27 o28),(BB c),(48,Ad k),(Cb n25),(8,.slice ax37 ((Ba c (k:Int) true).length) cp38),(Dn c k cp40 ax39)] rfl Ae ?_
  obtain⟨b41,o42,ha43,hF45,hc44⟩:=((⟨hSw36,TS hfine⟩:F8 Ee.cells 2 Ee.ok _ _ _)).1.all (show 0<(Ba c (k:Int) true).length by omega)
  replace ha43:ax37=some ⟨b41,o42,none⟩:=ha43
  refine IZ [(1,pt z),(AO z),(Bd n2),(AQ n2),(BJ c b27 o28),(BB c),(48,Ad k),(Cb n25),(8,.slice (some ⟨b41,o42,none⟩) ((Ba c (k:Int) true).length) cp38),(Dn c k cp40 ax39)] (by(try dsimp only[Dw,F6,Bh,DU,Dc,Bf,Cj,BX,BP,BJ,Gy,Bd,Dn,Em,BB,AQ,AO,Cb,Hg,Gz]);simp only[ha43]) ?_
  have hc46:=hc44 0 (show 0<(Ba c (k:Int) true).length by omega)
  have he47:=((⟨hSw36,TS hfine⟩:F8 Ee.cells 2 Ee.ok _ _ _)).2 0 (show 0<(Ba c (k:Int) true).length by omega)
  obtain⟨y48,hy48⟩:∃ y_,y_=gd (⟨ax37,cp38,Ba c (k:Int) true⟩:Sl Ee).xs 0:=⟨_,rfl⟩
  rw[←hy48]at he47 hc46
  refine Fp 16 [0,1,2,4,5,6,7,8,9] [(Ak w),(Bf c z),(Bh z),(Dw n2 c aP i cP csG aC cC),(Cj c aP i cP z),(BP csG z),(BX csG aC cC z),(Dc y34 n25),(mid (n25+1) w36)] rfl rfl ?_
  refine CU [(0,o0),(2,o0),(3,(an 3 7)),(6,o0),(7,(oi 0)),(8,o0),(9,(oa [.via 8 (i6 y48.partition)])),(10,o0),(11,(oi 0)),(12,o0),(13,(oa [.via 8 (i6 y48.port)]))] [1,2,4,5,46,47,48,7,9,59,61,62,68,72] [Qb n25,Qb n25,Qb n25,(0:Int)=((0:Nat):Int),0<(Ba c (k:Int) true).length,Bq,∀ w',Ch.holds (mid (n25+1) w36) w'→w'.cell? ⟨b41,o42,none⟩=some (i6 y48.partition),(0:Int)=((0:Nat):Int),0<(Ba c (k:Int) true).length,Bq,∀ w',Ch.holds (mid (n25+1) w36) w'→w'.cell? ⟨b41,o42+1,none⟩=some (i6 y48.port)] [true,false,true,true,false,false,true,true,true,true,true,true,true,true,false,false,false] [(1,pt z),(AO z),(Bd n2),(AQ n2),(BJ c b27 o28),(BB c),(48,Ad k),(Cb n25),(Dn c k cp40 ax39),(59,.func (.func 37) #[] #[pt n2]),(Nj n2),(62,.agg (Aw.arr y34)),(68,i6 y48.partition),(72,i6 y48.port)] ⟨rfl,rfl,rfl,rfl,(by omega),rfl,EH hF45 (hc46 0 _ rfl),rfl,(by omega),rfl,EH hF45 (hc46 1 _ rfl),Ae⟩ ?_
  refine ZK (fun x:{p:Nat×Nat // w36.heap.size≤p.1∧w36.heap.size≤p.2}=>([(1,pt z),(AO z),(Bd n2),(AQ n2),(BJ c b27 o28),(BB c),(48,Ad k),(Cb n25),(Dn c k cp40 ax39),(10,pt x.1.2)],⟨w,x.1.1,[(Ak w),(Bf c z),(Bh z),(Gq n2 c k y34),(Dw n2 c aP i cP csG aC cC),(Cj c aP i cP z),(BP csG z),(BX csG aC cC z),(Dc y34 n25),(mid (n25+1) w36),(.blk x.1.2 (.cells #[i6 (Bc c k),i6 ((Bc c k)+2),i6 y48.partition,i6 y48.port,.slice none 0 0] 62 (0,0)) true)]⟩)) (fun hK => ?_) ?_
  ·refine Rk [1,15] ?_
   refine List.forall_mem_cons.2 ⟨?_,List.forall_mem_cons.2 ⟨?_,fun _ h=>absurd h List.not_mem_nil⟩⟩
   ·refine FZ [] [] 37 #[i6 2,pt n2] (some 60) (by as_aux_lemma=>kernel_rfl) rfl rfl Ae ?_
    intro w51 hw51
    refine BV (args:=[i6 2,pt n2]) 10 ⟨w,w36.heap.size,[(Ak w),(Bf c z),(Bh z),(DU n2 c k),(Dw n2 c aP i cP csG aC cC),(Cj c aP i cP z),(BP csG z),(BX csG aC cC z),(Dc y34 n25),(mid (n25+1) w36)]⟩ Try.func37 rfl (by kernel_rfl) (by kernel_rfl) hw51 ?_
    refine q_c 17 0 [] [[o0],[(a1 3),o0],[(a1 3),o0,(ov (i6 ((Bc c k)+2))),(a1 3)],[o0,o0]] [Qb n2,Qb n2,Wr ((Bc c k:Int)+2) ((Bc c k)+2),Qb n2] [(3,i6 (Bc c k))] ⟨w,w36.heap.size,[(Ak w),(Bf c z),(Bh z),(RY n2 c k),(Dw n2 c aP i cP csG aC cC),(Cj c aP i cP z),(BP csG z),(BX csG aC cC z),(Dc y34 n25),(mid (n25+1) w36)]⟩ rfl ⟨rfl,rfl,Be,rfl,Ae⟩ ?_
    refine AZ [] [] (i6 (Bc c k)) Ae ?_
    intro w52 hw52
    have hs53:=hw52
    refine⟨_,_,rfl,hs53,.inr (fun c hc=>hs53.all c (by first | exact hc | exact Dt (is:=[0,1,2,4,5,6,7,8,9]) rfl c hc)), ?_⟩
    refine DV [1,2,4,5,46,47,48,7,9,61,62,68,72,60] [(1,pt z),(AO z),(Bd n2),(AQ n2),(BJ c b27 o28),(BB c),(48,Ad k),(Cb n25),(Dn c k cp40 ax39),(Nj n2),(62,.agg (Aw.arr y34)),(68,i6 y48.partition),(72,i6 y48.port),(60,i6 (Bc c k))] ?_
    refine Rk [4,15] ?_
    refine List.forall_mem_cons.2 ⟨?_,List.forall_mem_cons.2 ⟨?_,fun _ h=>absurd h List.not_mem_nil⟩⟩
    ·refine FZ [] [] 23 #[.agg (Aw.arr y34)] (some 63) (by as_aux_lemma=>kernel_rfl) rfl rfl Ae ?_
     intro w54 hw54
     refine(Nb w54 y34 (he33.ext (hw54.ext rfl) (fun _ h=>h))).mono ?_
     rintro e w55 ⟨rfl,hkw55⟩
     have hnw55:w36.heap.size≤w55.heap.size:=Dx hw54 hkw55
     have hs56:=hw54.keeps hkw55
     refine⟨_,_,rfl,hs56,.inr (fun c hc=>hs56.all c (by first | exact hc | exact Dt (is:=[0,1,2,4,5,6,7,8,9]) rfl c hc)), ?_⟩
     refine DV [1,2,4,5,46,47,48,7,9,61,68,72,60,63] [(1,pt z),(AO z),(Bd n2),(AQ n2),(BJ c b27 o28),(BB c),(48,Ad k),(Cb n25),(Dn c k cp40 ax39),(Nj n2),(68,i6 y48.partition),(72,i6 y48.port),(60,i6 (Bc c k)),(63,i6 (AB y34))] ?_
     refine Rk [5,15] ?_
     refine List.forall_mem_cons.2 ⟨?_,List.forall_mem_cons.2 ⟨?_,fun _ h=>absurd h List.not_mem_nil⟩⟩
     ·refine FZ [] [] 37 #[i6 (AB y34),pt n2] (some 64) (by as_aux_lemma=>kernel_rfl) rfl rfl Ae ?_
      intro w57 hw57
      refine BV (args:=[i6 (AB y34),pt n2]) 10 ⟨w,w55.heap.size,[(Ak w),(Bf c z),(Bh z),(RY n2 c k),(Dw n2 c aP i cP csG aC cC),(Cj c aP i cP z),(BP csG z),(BX csG aC cC z),(Dc y34 n25),(mid (n25+1) w36)]⟩ Try.func37 rfl (by kernel_rfl) (by kernel_rfl) hw57 ?_
      refine q_c 17 0 [] [[o0],[(a1 3),o0],[(a1 3),o0,(ov (i6 (((Bc c k)+2)+(AB y34)))),(a1 3)],[o0,o0]] [Qb n2,Qb n2,Wr (((Bc c k)+2:Int)+(AB y34)) (((Bc c k)+2)+(AB y34)),Qb n2] [(3,i6 ((Bc c k)+2))] ⟨w,w55.heap.size,[(Ak w),(Bf c z),(Bh z),(Gq n2 c k y34),(Dw n2 c aP i cP csG aC cC),(Cj c aP i cP z),(BP csG z),(BX csG aC cC z),(Dc y34 n25),(mid (n25+1) w36)]⟩ rfl ⟨rfl,rfl,Be,rfl,Ae⟩ ?_
      refine AZ [] [] (i6 ((Bc c k)+2)) Ae ?_
      intro w58 hw58
      have hs59:=hw58
      refine⟨_,_,rfl,hs59,.inr (fun c hc=>hs59.all c (by first | exact hc | exact Dt (is:=[0,1,2,4,5,6,7,8,9]) rfl c hc)), ?_⟩
      refine DV [1,2,4,5,46,47,48,7,9,68,72,60,64] [(1,pt z),(AO z),(Bd n2),(AQ n2),(BJ c b27 o28),(BB c),(48,Ad k),(Cb n25),(Dn c k cp40 ax39),(68,i6 y48.partition),(72,i6 y48.port),(60,i6 (Bc c k)),(64,i6 ((Bc c k)+2))] ?_
      refine CU [(14,o0)] [1,2,4,5,46,47,48,7,9,73] [] (Ed 15 2) [(1,pt z),(AO z),(Bd n2),(AQ n2),(BJ c b27 o28),(BB c),(48,Ad k),(Cb n25),(Dn c k cp40 ax39),(SV c k y48)] Ae ?_
      refine CX 15 ?_
      refine EJ o0 [1,2,4,5,46,47,48,7,9,73,10] [] [(1,pt z),(AO z),(Bd n2),(AQ n2),(BJ c b27 o28),(BB c),(48,Ad k),(Cb n25),(Dn c k cp40 ax39),(SV c k y48),(O8 w55)] ⟨w,w55.heap.size+1,[(Ak w),(Bf c z),(Bh z),(Gq n2 c k y34),(Dw n2 c aP i cP csG aC cC),(Cj c aP i cP z),(BP csG z),(BX csG aC cC z),(Dc y34 n25),(mid (n25+1) w36),(UH w55)]⟩ [0,1,2,4,5,6,7,8,9] Ae (.inr rfl) ?_
      refine CX 16 ?_
      refine EJ (an 5 10) [1,2,4,5,46,47,48,7,9,10] [Qb w55.heap.size,Qb w55.heap.size,Qb w55.heap.size,Qb w55.heap.size,Qb w55.heap.size] [(1,pt z),(AO z),(Bd n2),(AQ n2),(BJ c b27 o28),(BB c),(48,Ad k),(Cb n25),(Dn c k cp40 ax39),(O8 w55)] ⟨w,w55.heap.size+1,(Q3 n2 c aP i cP csG k y48 w55 w36 aC cC z y34 n25 w)⟩ [] ⟨rfl,rfl,rfl,rfl,rfl,Ae⟩ (.inl rfl) ?_
      refine IA 17 [0,1,2,3,4,5,6,7,8,9,10] (Q3 n2 c aP i cP csG k y48 w55 w36 aC cC z y34 n25 w) rfl rfl ?_
      refine D9 ?_
      refine Dp [1,2,4,5,46,47,48,7,9,10] [(1,pt z),(AO z),(Bd n2),(AQ n2),(BJ c b27 o28),(BB c),(48,Ad k),(Cb n25),(Dn c k cp40 ax39),(O8 w55)] ?_
      refine BO [0,1,2,3,4,5,6,7,8,9,10] (Q3 n2 c aP i cP csG k y48 w55 w36 aC cC z y34 n25 w) rfl rfl ?_
      exact hK ⟨(w55.heap.size+1,w55.heap.size),by first | omega | (dsimp only;omega)⟩
     refine EJ o0 [1,2,4,5,46,47,48,7,9,61,68,72,60,63,10] [] [(1,pt z),(AO z),(Bd n2),(AQ n2),(BJ c b27 o28),(BB c),(48,Ad k),(Cb n25),(Dn c k cp40 ax39),(Nj n2),(68,i6 y48.partition),(72,i6 y48.port),(60,i6 (Bc c k)),(63,i6 (AB y34)),(O8 w55)] ⟨w,w55.heap.size+1,[(Ak w),(Bf c z),(Bh z),(RY n2 c k),(Dw n2 c aP i cP csG aC cC),(Cj c aP i cP z),(BP csG z),(BX csG aC cC z),(Dc y34 n25),(mid (n25+1) w36),(UH w55)]⟩ [0,1,2,4,5,6,7,8,9] Ae (.inr rfl) ?_
     refine CX 5 ?_
     refine FZ [] [] 37 #[i6 (AB y34),pt n2] (some 64) (by as_aux_lemma=>kernel_rfl) rfl rfl Ae ?_
     intro w60 hw60
     refine BV (args:=[i6 (AB y34),pt n2]) 10 ⟨w,w55.heap.size+1,[(Ak w),(Bf c z),(Bh z),(RY n2 c k),(Dw n2 c aP i cP csG aC cC),(Cj c aP i cP z),(BP csG z),(BX csG aC cC z),(Dc y34 n25),(mid (n25+1) w36),(UH w55)]⟩ Try.func37 rfl (by kernel_rfl) (by kernel_rfl) hw60 ?_
     refine q_c 17 0 [] [[o0],[(a1 3),o0],[(a1 3),o0,(ov (i6 (((Bc c k)+2)+(AB y34)))),(a1 3)],[o0,o0]] [Qb n2,Qb n2,Wr (((Bc c k)+2:Int)+(AB y34)) (((Bc c k)+2)+(AB y34)),Qb n2] [(3,i6 ((Bc c k)+2))] ⟨w,w55.heap.size+1,[(Ak w),(Bf c z),(Bh z),(Gq n2 c k y34),(Dw n2 c aP i cP csG aC cC),(Cj c aP i cP z),(BP csG z),(BX csG aC cC z),(Dc y34 n25),(mid (n25+1) w36),(UH w55)]⟩ rfl ⟨rfl,rfl,Be,rfl,Ae⟩ ?_
     refine AZ [] [] (i6 ((Bc c k)+2)) Ae ?_
     intro w61 hw61
     have hs62:=hw61
     refine⟨_,_,rfl,hs62,.inr (fun c hc=>hs62.all c (by first | exact hc | exact Dt (is:=[0,1,2,4,5,6,7,8,9]) rfl c hc)), ?_⟩
     refine DV [1,2,4,5,46,47,48,7,9,68,72,60,10,64] [(1,pt z),(AO z),(Bd n2),(AQ n2),(BJ c b27 o28),(BB c),(48,Ad k),(Cb n25),(Dn c k cp40 ax39),(68,i6 y48.partition),(72,i6 y48.port),(60,i6 (Bc c k)),(O8 w55),(64,i6 ((Bc c k)+2))] ?_
     refine CU [(14,o0)] [1,2,4,5,46,47,48,7,9,10,73] [] (Ed 16 1) [(1,pt z),(AO z),(Bd n2),(AQ n2),(BJ c b27 o28),(BB c),(48,Ad k),(Cb n25),(Dn c k cp40 ax39),(O8 w55),(SV c k y48)] Ae ?_
     refine CX 16 ?_
     refine EJ (an 5 10) [1,2,4,5,46,47,48,7,9,10] [Qb w55.heap.size,Qb w55.heap.size,Qb w55.heap.size,Qb w55.heap.size,Qb w55.heap.size] [(1,pt z),(AO z),(Bd n2),(AQ n2),(BJ c b27 o28),(BB c),(48,Ad k),(Cb n25),(Dn c k cp40 ax39),(O8 w55)] ⟨w,w55.heap.size+1,(Q3 n2 c aP i cP csG k y48 w55 w36 aC cC z y34 n25 w)⟩ [] ⟨rfl,rfl,rfl,rfl,rfl,Ae⟩ (.inl rfl) ?_
     refine IA 17 [0,1,2,3,4,5,6,7,8,9,10] (Q3 n2 c aP i cP csG k y48 w55 w36 aC cC z y34 n25 w) rfl rfl ?_
     refine D9 ?_
     refine Dp [1,2,4,5,46,47,48,7,9,10] [(1,pt z),(AO z),(Bd n2),(AQ n2),(BJ c b27 o28),(BB c),(48,Ad k),(Cb n25),(Dn c k cp40 ax39),(O8 w55)] ?_
     refine BO [0,1,2,3,4,5,6,7,8,9,10] (Q3 n2 c aP i cP csG k y48 w55 w36 aC cC z y34 n25 w) rfl rfl ?_
     exact hK ⟨(w55.heap.size+1,w55.heap.size),by first | omega | (dsimp only;omega)⟩
    refine EJ o0 [1,2,4,5,46,47,48,7,9,61,62,68,72,60,10] [] [(1,pt z),(AO z),(Bd n2),(AQ n2),(BJ c b27 o28),(BB c),(48,Ad k),(Cb n25),(Dn c k cp40 ax39),(Nj n2),(62,.agg (Aw.arr y34)),(68,i6 y48.partition),(72,i6 y48.port),(60,i6 (Bc c k)),(JX w36)] ⟨w,w36.heap.size+1,(UQ n2 c aP i cP csG k w36 aC cC z y34 n25 w)⟩ [0,1,2,4,5,6,7,8,9] Ae (.inr rfl) ?_
    refine CX 4 ?_
    refine FZ [] [] 23 #[.agg (Aw.arr y34)] (some 63) (by as_aux_lemma=>kernel_rfl) rfl rfl Ae ?_
    intro w63 hw63
    refine(Nb w63 y34 (he33.ext (hw63.ext rfl) (fun _ h=>h))).mono ?_
    rintro e w64 ⟨rfl,hkw64⟩
    have hnw64:w36.heap.size+1≤w64.heap.size:=Dx hw63 hkw64
    have hs65:=hw63.keeps hkw64
    refine⟨_,_,rfl,hs65,.inr (fun c hc=>hs65.all c (by first | exact hc | exact Dt (is:=[0,1,2,4,5,6,7,8,9]) rfl c hc)), ?_⟩
    refine DV [1,2,4,5,46,47,48,7,9,61,68,72,60,10,63] [(1,pt z),(AO z),(Bd n2),(AQ n2),(BJ c b27 o28),(BB c),(48,Ad k),(Cb n25),(Dn c k cp40 ax39),(Nj n2),(68,i6 y48.partition),(72,i6 y48.port),(60,i6 (Bc c k)),(JX w36),(63,i6 (AB y34))] ?_
    refine CX 5 ?_
    refine FZ [] [] 37 #[i6 (AB y34),pt n2] (some 64) (by as_aux_lemma=>kernel_rfl) rfl rfl Ae ?_
    intro w66 hw66
    refine BV (args:=[i6 (AB y34),pt n2]) 10 ⟨w,w64.heap.size,(UQ n2 c aP i cP csG k w36 aC cC z y34 n25 w)⟩ Try.func37 rfl (by kernel_rfl) (by kernel_rfl) hw66 ?_
    refine q_c 17 0 [] [[o0],[(a1 3),o0],[(a1 3),o0,(ov (i6 (((Bc c k)+2)+(AB y34)))),(a1 3)],[o0,o0]] [Qb n2,Qb n2,Wr (((Bc c k)+2:Int)+(AB y34)) (((Bc c k)+2)+(AB y34)),Qb n2] [(3,i6 ((Bc c k)+2))] ⟨w,w64.heap.size,[(Ak w),(Bf c z),(Bh z),(Gq n2 c k y34),(Dw n2 c aP i cP csG aC cC),(Cj c aP i cP z),(BP csG z),(BX csG aC cC z),(Dc y34 n25),(mid (n25+1) w36),(SI w36)]⟩ rfl ⟨rfl,rfl,Be,rfl,Ae⟩ ?_
    refine AZ [] [] (i6 ((Bc c k)+2)) Ae ?_
    intro w67 hw67
    have hs68:=hw67
    refine⟨_,_,rfl,hs68,.inr (fun c hc=>hs68.all c (by first | exact hc | exact Dt (is:=[0,1,2,4,5,6,7,8,9]) rfl c hc)), ?_⟩
    refine DV [1,2,4,5,46,47,48,7,9,68,72,60,10,64] [(1,pt z),(AO z),(Bd n2),(AQ n2),(BJ c b27 o28),(BB c),(48,Ad k),(Cb n25),(Dn c k cp40 ax39),(68,i6 y48.partition),(72,i6 y48.port),(60,i6 (Bc c k)),(JX w36),(64,i6 ((Bc c k)+2))] ?_
    refine CU [(14,o0)] [1,2,4,5,46,47,48,7,9,10,73] [] (Ed 16 1) [(1,pt z),(AO z),(Bd n2),(AQ n2),(BJ c b27 o28),(BB c),(48,Ad k),(Cb n25),(Dn c k cp40 ax39),(JX w36),(SV c k y48)] Ae ?_
    refine CX 16 ?_
    refine EJ (an 5 10) [1,2,4,5,46,47,48,7,9,10] [Qb w36.heap.size,Qb w36.heap.size,Qb w36.heap.size,Qb w36.heap.size,Qb w36.heap.size] [(1,pt z),(AO z),(Bd n2),(AQ n2),(BJ c b27 o28),(BB c),(48,Ad k),(Cb n25),(Dn c k cp40 ax39),(JX w36)] ⟨w,w64.heap.size,(QA n2 c aP i cP csG k y48 w36 aC cC z y34 n25 w)⟩ [] ⟨rfl,rfl,rfl,rfl,rfl,Ae⟩ (.inl rfl) ?_
    refine IA 17 [0,1,2,3,4,5,6,7,8,9,10] (QA n2 c aP i cP csG k y48 w36 aC cC z y34 n25 w) rfl rfl ?_
    refine D9 ?_
    refine Dp [1,2,4,5,46,47,48,7,9,10] [(1,pt z),(AO z),(Bd n2),(AQ n2),(BJ c b27 o28),(BB c),(48,Ad k),(Cb n25),(Dn c k cp40 ax39),(JX w36)] ?_
    refine BO [0,1,2,3,4,5,6,7,8,9,10] (QA n2 c aP i cP csG k y48 w36 aC cC z y34 n25 w) rfl rfl ?_
    exact hK ⟨(w64.heap.size,w36.heap.size),by first | omega | (dsimp only;omega)⟩
   refine EJ o0 [1,2,4,5,46,47,48,7,9,59,61,62,68,72,10] [] [(1,pt z),(AO z),(Bd n2),(AQ n2),(BJ c b27 o28),(BB c),(48,Ad k),(Cb n25),(Dn c k cp40 ax39),(59,.func (.func 37) #[] #[pt n2]),(Nj n2),(62,.agg (Aw.arr y34)),(68,i6 y48.partition),(72,i6 y48.port),(JX w36)] ⟨w,w36.heap.size+1,[(Ak w),(Bf c z),(Bh z),(DU n2 c k),(Dw n2 c aP i cP csG aC cC),(Cj c aP i cP z),(BP csG z),(BX csG aC cC z),(Dc y34 n25),(mid (n25+1) w36),(SI w36)]⟩ [0,1,2,4,5,6,7,8,9] Ae (.inr rfl) ?_
   refine CX 1 ?_
   refine FZ [] [] 37 #[i6 2,pt n2] (some 60) (by as_aux_lemma=>kernel_rfl) rfl rfl Ae ?_
   intro w69 hw69
   refine BV (args:=[i6 2,pt n2]) 10 ⟨w,w36.heap.size+1,[(Ak w),(Bf c z),(Bh z),(DU n2 c k),(Dw n2 c aP i cP csG aC cC),(Cj c aP i cP z),(BP csG z),(BX csG aC cC z),(Dc y34 n25),(mid (n25+1) w36),(SI w36)]⟩ Try.func37 rfl (by kernel_rfl) (by kernel_rfl) hw69 ?_
   refine q_c 17 0 [] [[o0],[(a1 3),o0],[(a1 3),o0,(ov (i6 ((Bc c k)+2))),(a1 3)],[o0,o0]] [Qb n2,Qb n2,Wr ((Bc c k:Int)+2) ((Bc c k)+2),Qb n2] [(3,i6 (Bc c k))] ⟨w,w36.heap.size+1,(UQ n2 c aP i cP csG k w36 aC cC z y34 n25 w)⟩ rfl ⟨rfl,rfl,Be,rfl,Ae⟩ ?_
   refine AZ [] [] (i6 (Bc c k)) Ae ?_
   intro w70 hw70
   have hs71:=hw70
   refine⟨_,_,rfl,hs71,.inr (fun c hc=>hs71.all c (by first | exact hc | exact Dt (is:=[0,1,2,4,5,6,7,8,9]) rfl c hc)), ?_⟩
   refine DV [1,2,4,5,46,47,48,7,9,61,62,68,72,10,60] [(1,pt z),(AO z),(Bd n2),(AQ n2),(BJ c b27 o28),(BB c),(48,Ad k),(Cb n25),(Dn c k cp40 ax39),(Nj n2),(62,.agg (Aw.arr y34)),(68,i6 y48.partition),(72,i6 y48.port),(JX w36),(60,i6 (Bc c k))] ?_
   refine CX 4 ?_
   refine FZ [] [] 23 #[.agg (Aw.arr y34)] (some 63) (by as_aux_lemma=>kernel_rfl) rfl rfl Ae ?_
   intro w72 hw72
   refine(Nb w72 y34 (he33.ext (hw72.ext rfl) (fun _ h=>h))).mono ?_
   rintro e w73 ⟨rfl,hkw73⟩
   have hnw73:w36.heap.size+1≤w73.heap.size:=Dx hw72 hkw73
   have hs74:=hw72.keeps hkw73
   refine⟨_,_,rfl,hs74,.inr (fun c hc=>hs74.all c (by first | exact hc | exact Dt (is:=[0,1,2,4,5,6,7,8,9]) rfl c hc)), ?_⟩
   refine DV [1,2,4,5,46,47,48,7,9,61,68,72,10,60,63] [(1,pt z),(AO z),(Bd n2),(AQ n2),(BJ c b27 o28),(BB c),(48,Ad k),(Cb n25),(Dn c k cp40 ax39),(Nj n2),(68,i6 y48.partition),(72,i6 y48.port),(JX w36),(60,i6 (Bc c k)),(63,i6 (AB y34))] ?_
   refine CX 5 ?_
   refine FZ [] [] 37 #[i6 (AB y34),pt n2] (some 64) (by as_aux_lemma=>kernel_rfl) rfl rfl Ae ?_
   intro w75 hw75
   refine BV (args:=[i6 (AB y34),pt n2]) 10 ⟨w,w73.heap.size,(UQ n2 c aP i cP csG k w36 aC cC z y34 n25 w)⟩ Try.func37 rfl (by kernel_rfl) (by kernel_rfl) hw75 ?_
   refine q_c 17 0 [] [[o0],[(a1 3),o0],[(a1 3),o0,(ov (i6 (((Bc c k)+2)+(AB y34)))),(a1 3)],[o0,o0]] [Qb n2,Qb n2,Wr (((Bc c k)+2:Int)+(AB y34)) (((Bc c k)+2)+(AB y34)),Qb n2] [(3,i6 ((Bc c k)+2))] ⟨w,w73.heap.size,[(Ak w),(Bf c z),(Bh z),(Gq n2 c k y34),(Dw n2 c aP i cP csG aC cC),(Cj c aP i cP z),(BP csG z),(BX csG aC cC z),(Dc y34 n25),(mid (n25+1) w36),(SI w36)]⟩ rfl ⟨rfl,rfl,Be,rfl,Ae⟩ ?_
   refine AZ [] [] (i6 ((Bc c k)+2)) Ae ?_
   intro w76 hw76
   have hs77:=hw76
   refine⟨_,_,rfl,hs77,.inr (fun c hc=>hs77.all c (by first | exact hc | exact Dt (is:=[0,1,2,4,5,6,7,8,9]) rfl c hc)), ?_⟩
   refine DV [1,2,4,5,46,47,48,7,9,68,72,10,60,64] [(1,pt z),(AO z),(Bd n2),(AQ n2),(BJ c b27 o28),(BB c),(48,Ad k),(Cb n25),(Dn c k cp40 ax39),(68,i6 y48.partition),(72,i6 y48.port),(JX w36),(60,i6 (Bc c k)),(64,i6 ((Bc c k)+2))] ?_
   refine CU [(14,o0)] [1,2,4,5,46,47,48,7,9,10,73] [] (Ed 16 1) [(1,pt z),(AO z),(Bd n2),(AQ n2),(BJ c b27 o28),(BB c),(48,Ad k),(Cb n25),(Dn c k cp40 ax39),(JX w36),(SV c k y48)] Ae ?_
   refine CX 16 ?_
   refine EJ (an 5 10) [1,2,4,5,46,47,48,7,9,10] [Qb w36.heap.size,Qb w36.heap.size,Qb w36.heap.size,Qb w36.heap.size,Qb w36.heap.size] [(1,pt z),(AO z),(Bd n2),(AQ n2),(BJ c b27 o28),(BB c),(48,Ad k),(Cb n25),(Dn c k cp40 ax39),(JX w36)] ⟨w,w73.heap.size,(QA n2 c aP i cP csG k y48 w36 aC cC z y34 n25 w)⟩ [] ⟨rfl,rfl,rfl,rfl,rfl,Ae⟩ (.inl rfl) ?_
   refine IA 17 [0,1,2,3,4,5,6,7,8,9,10] (QA n2 c aP i cP csG k y48 w36 aC cC z y34 n25 w) rfl rfl ?_
   refine D9 ?_
   refine Dp [1,2,4,5,46,47,48,7,9,10] [(1,pt z),(AO z),(Bd n2),(AQ n2),(BJ c b27 o28),(BB c),(48,Ad k),(Cb n25),(Dn c k cp40 ax39),(JX w36)] ?_
   refine BO [0,1,2,3,4,5,6,7,8,9,10] (QA n2 c aP i cP csG k y48 w36 aC cC z y34 n25 w) rfl rfl ?_
   exact hK ⟨(w73.heap.size,w36.heap.size),by first | omega | (dsimp only;omega)⟩
  rintro⟨⟨n49,b50⟩,hJ78⟩
  simp only at hJ78
  show E _ _ [(1,pt z),(AO z),(Bd n2),(AQ n2),(BJ c b27 o28),(BB c),(48,Ad k),(Cb n25),(Dn c k cp40 ax39),(EG b50)] _ ⟨w,n49,[(Ak w),(Bf c z),(Bh z),(Gq n2 c k y34),(Dw n2 c aP i cP csG aC cC),(Cj c aP i cP z),(BP csG z),(BX csG aC cC z),(Dc y34 n25),(mid (n25+1) w36),(bk b50 #[i6 (Bc c k),i6 ((Bc c k)+2),i6 y48.partition,i6 y48.port,.slice none 0 0] 62)]⟩ _ _ _
  refine Ja 7 0 [] [[o0,o0,o0]] [] [(1,pt z),(AO z),(Bd n2),(AQ n2),(BJ c b27 o28),(BB c),(48,Ad k),(Cb n25),(EG b50),(H9 c k cp40 ax39),(EI c k),(76,i6 0)] rfl Ae ?_
  refine Le z 71 3 AL.cells ?_
  refine Eb [1,2,4,5,7,10,46,47,48,74,75,76] [(1,pt z),(AO z),(Bd n2),(AQ n2),(Cb n25),(EG b50),(BJ c b27 o28),(BB c),(48,Ad k),(H9 c k cp40 ax39),(EI c k),(76,i6 0)] ?_
  refine Ce (fun m a w'=>∃ (n80:Nat) (j:Nat) (aD:Option Addr) (cD:Nat),m=(Ba c (k:Int) false).length - j∧n49≤n80∧(j≤(Ba c (k:Int) false).length)∧St 148 [(1,pt z),(AO z),(Bd n2),(AQ n2),(Cb n25),(EG b50),(BJ c b27 o28),(BB c),(48,Ad k),(H9 c k cp40 ax39),(EI c k),(76,Ad j)] [] ⟨w,n80,[(Ak w),(Bf c z),(Bh z),(G9 n2 c k j),(Dw n2 c aP i cP csG aC cC),(Cj c aP i cP z),(BP csG z),(BX csG aC cC z),(Dc y34 n25),(mid (n25+1) w36),(Hq c k y48 aD cD j b50),(G6 c k aD cD j z)]⟩ a w') ((Ba c (k:Int) false).length - 0) ?_ ?_
  ·intro a w' hs;exact⟨n49,0,none,0,rfl,Nat.le_refl _,Nat.zero_le _,by(try dsimp only[Hq,Dw,F6,Bh,Gq,G9,DU,Dc,Bf,Cj,G6,BX,BP,BJ,EI,Gy,Nj,Bd,H9,Dn,Em,BB,AQ,AO,EG,Cb,Hg,Gz]at hs ⊢);rw[show F9 c k 0=((Bc c k)+2)+(AB y34)from by unfold F9;rw[←hy34];omega];exact hs⟩
  rintro m a w' ⟨n80,j,aD,cD,rfl,hn79,hkj,hs⟩
  refine(?_:G Try.prog 148 [(1,pt z),(AO z),(Bd n2),(AQ n2),(Cb n25),(EG b50),(BJ c b27 o28),(BB c),(48,Ad k),(H9 c k cp40 ax39),(EI c k),(76,Ad j)] [] ⟨w,n80,[(Ak w),(Bf c z),(Bh z),(G9 n2 c k j),(Dw n2 c aP i cP csG aC cC),(Cj c aP i cP z),(BP csG z),(BX csG aC cC z),(Dc y34 n25),(mid (n25+1) w36),(Hq c k y48 aD cD j b50),(G6 c k aD cD j z)]⟩ _ _ _) a w' hs
  clear hs a w'
  have hdb:=XU hfine (show k<c.Ac.xs.length by omega) (show j≤4 by unfold Gg at hEd;omega)
  have hdl:(D8 c k j).length=j:=PR
  refine CP ?_
  by_cases h81:(j:Int)<(((Ba c (k:Int) false).length:Nat):Int)
  ·refine A8 10 0 [1] [[oT]] [BT ((j:Int)<(((Ba c (k:Int) false).length:Nat):Int))] [(1,pt z),(AO z),(Bd n2),(AQ n2),(Cb n25),(EG b50),(BJ c b27 o28),(BB c),(48,Ad k),(H9 c k cp40 ax39),(EI c k),(76,Ad j),(77,.bool true)] rfl ⟨bt,Ae⟩ ?_
   obtain⟨b82,o83,ha84,hF86,hc85⟩:=((⟨hDw36,TS hfine⟩:F8 Ee.cells 2 Ee.ok _ _ _)).1.all (show 0<(Ba c (k:Int) false).length by omega)
   replace ha84:ax39=some ⟨b82,o83,none⟩:=ha84
   refine IZ [(1,pt z),(AO z),(Bd n2),(AQ n2),(Cb n25),(EG b50),(BJ c b27 o28),(BB c),(48,Ad k),(Jf c k b82 o83 cp40),(EI c k),(76,Ad j),(77,.bool true)] (by(try dsimp only[Hq,Dw,F6,Bh,Gq,G9,DU,Dc,Bf,Cj,G6,BX,BP,Jf,BJ,EI,Gy,Bd,H9,Dn,Em,BB,AQ,AO,EG,Cb,Hg,Gz]);simp only[ha84]) ?_
   have hc87:=hc85 j (show j<(Ba c (k:Int) false).length by omega)
   have he88:=((⟨hDw36,TS hfine⟩:F8 Ee.cells 2 Ee.ok _ _ _)).2 j (show j<(Ba c (k:Int) false).length by omega)
   obtain⟨y89,hy89⟩:∃ y_,y_=gd (⟨ax39,cp40,Ba c (k:Int) false⟩:Sl Ee).xs j:=⟨_,rfl⟩
   rw[←hy89]at he88 hc87
   refine q_c 3 0 [] [[(oi j),(oa [.via 9 (i6 y89.partition),.via 9 (i6 y89.port)]),o0,(an 2 12)]] [BI j,j<(Ba c (k:Int) false).length,Bq,∀ w',Ch.holds (mid (n25+1) w36) w'→w'.cell? ⟨b82,o83+j*2,none⟩=some (i6 y89.partition),∀ w',Ch.holds (mid (n25+1) w36) w'→w'.cell? ⟨b82,o83+j*2+1,none⟩=some (i6 y89.port),Qb n80,Qb n80] [(1,pt z),(AO z),(Bd n2),(AQ n2),(Cb n25),(EG b50),(BJ c b27 o28),(BB c),(48,Ad k),(Jf c k b82 o83 cp40),(EI c k),(76,Ad j),(12,pt n80)] ⟨w,n80+1,[(Ak w),(Bf c z),(Bh z),(G9 n2 c k j),(Dw n2 c aP i cP csG aC cC),(Cj c aP i cP z),(BP csG z),(BX csG aC cC z),(Dc y34 n25),(mid (n25+1) w36),(Hq c k y48 aD cD j b50),(G6 c k aD cD j z),(LU y89 n80)]⟩ rfl ⟨rfl,(by omega),rfl,EH hF86 (hc87 0 _ rfl),EH hF86 (hc87 1 _ rfl),rfl,rfl,Ae⟩ ?_
   refine Fp 14 [0,1,2,4,5,6,7,8,9,10,12] [(Ak w),(Bf c z),(Bh z),(Dw n2 c aP i cP csG aC cC),(Cj c aP i cP z),(BP csG z),(BX csG aC cC z),(Dc y34 n25),(mid (n25+1) w36),(Hq c k y48 aD cD j b50),(LU y89 n80)] rfl rfl ?_
   refine CU [(0,o0),(1,(a1 9)),(2,o0),(3,(a1 10)),(4,o0),(5,(a1 10)),(6,o0),(7,(an 3 7))] [1,2,4,5,7,10,46,47,48,74,75,76,81,83,85,86,87] [Qb b50,Qb n80,Qb n80,Qb n25,Qb n25,Qb n25] (Ed 8 7) [(1,pt z),(AO z),(Bd n2),(AQ n2),(Cb n25),(EG b50),(BJ c b27 o28),(BB c),(48,Ad k),(Jf c k b82 o83 cp40),(EI c k),(76,Ad j),(81,.slice aD ((D8 c k j).length) cD),(83,i6 y89.partition),(85,i6 y89.port),(86,.func (.func 37) #[] #[pt n2]),(87,.agg (Aw.arr y34))] ⟨rfl,rfl,rfl,rfl,rfl,rfl,Ae⟩ ?_
   refine CX 8 ?_
   refine FZ [] [] 24 #[.agg (Aw.arr y34)] (some 88) (by as_aux_lemma=>kernel_rfl) rfl rfl Ae ?_
   intro w90 hw90
   refine(Wu w90 y34 (he33.ext (hw90.ext rfl) (fun _ h=>h))).mono ?_
   rintro e w91 ⟨rfl,hkw91⟩
   have hnw91:n80+1≤w91.heap.size:=Dx hw90 hkw91
   have hs92:=hw90.keeps hkw91
   refine⟨_,_,rfl,hs92,.inr (fun c hc=>hs92.all c (by first | exact hc | exact Dt (is:=[0,1,2,4,5,6,7,8,9,10,12]) rfl c hc)), ?_⟩
   refine DV [1,2,4,5,7,10,46,47,48,74,75,76,81,83,85,86,88] [(1,pt z),(AO z),(Bd n2),(AQ n2),(Cb n25),(EG b50),(BJ c b27 o28),(BB c),(48,Ad k),(Jf c k b82 o83 cp40),(EI c k),(76,Ad j),(81,.slice aD ((D8 c k j).length) cD),(83,i6 y89.partition),(85,i6 y89.port),(86,.func (.func 37) #[] #[pt n2]),(88,i6 (portOf y34))] ?_
   refine CX 9 ?_
   refine FZ [] [] 37 #[i6 (portOf y34),pt n2] (some 89) (by as_aux_lemma=>kernel_rfl) rfl rfl Ae ?_
   intro w93 hw93
   refine BV (args:=[i6 (portOf y34),pt n2]) 10 ⟨w,w91.heap.size,[(Ak w),(Bf c z),(Bh z),(G9 n2 c k j),(Dw n2 c aP i cP csG aC cC),(Cj c aP i cP z),(BP csG z),(BX csG aC cC z),(Dc y34 n25),(mid (n25+1) w36),(Hq c k y48 aD cD j b50),(G6 c k aD cD j z),(LU y89 n80)]⟩ Try.func37 rfl (by kernel_rfl) (by kernel_rfl) hw93 ?_
   refine q_c 17 0 [] [[o0],[(a1 3),o0],[(a1 3),o0,(ov (i6 ((F9 c k j)+(portOf y34)))),(a1 3)],[o0,o0]] [Qb n2,Qb n2,Wr ((F9 c k j:Int)+(portOf y34)) ((F9 c k j)+(portOf y34)),Qb n2] [(3,i6 (F9 c k j))] ⟨w,w91.heap.size,[(Ak w),(Bf c z),(Bh z),(NL n2 c k j y34),(Dw n2 c aP i cP csG aC cC),(Cj c aP i cP z),(BP csG z),(BX csG aC cC z),(Dc y34 n25),(mid (n25+1) w36),(Hq c k y48 aD cD j b50),(G6 c k aD cD j z),(LU y89 n80)]⟩ rfl ⟨rfl,rfl,Be,rfl,Ae⟩ ?_
   refine AZ [] [] (i6 (F9 c k j)) Ae ?_
   intro w94 hw94
   have hs95:=hw94
   refine⟨_,_,rfl,hs95,.inr (fun c hc=>hs95.all c (by first | exact hc | exact Dt (is:=[0,1,2,4,5,6,7,8,9,10,12]) rfl c hc)), ?_⟩
   refine DV [1,2,4,5,7,10,46,47,48,74,75,76,81,83,85,89] [(1,pt z),(AO z),(Bd n2),(AQ n2),(Cb n25),(EG b50),(BJ c b27 o28),(BB c),(48,Ad k),(Jf c k b82 o83 cp40),(EI c k),(76,Ad j),(81,.slice aD ((D8 c k j).length) cD),(83,i6 y89.partition),(85,i6 y89.port),(89,i6 (F9 c k j))] ?_
   refine CU [(10,o0)] [1,2,4,5,7,10,46,47,48,74,75,76,81,90] [] (Ed 11 4) [(1,pt z),(AO z),(Bd n2),(AQ n2),(Cb n25),(EG b50),(BJ c b27 o28),(BB c),(48,Ad k),(Jf c k b82 o83 cp40),(EI c k),(76,Ad j),(81,.slice aD ((D8 c k j).length) cD),(90,.agg #[i6 y89.partition,i6 y89.port,i6 (F9 c k j)])] Ae ?_
   refine CX 11 ?_
   refine EJ o0 [1,2,4,5,7,10,46,47,48,74,75,76,81,91] [] [(1,pt z),(AO z),(Bd n2),(AQ n2),(Cb n25),(EG b50),(BJ c b27 o28),(BB c),(48,Ad k),(Jf c k b82 o83 cp40),(EI c k),(76,Ad j),(81,.slice aD ((D8 c k j).length) cD),(91,.slice (some ⟨w91.heap.size,0,none⟩) 1 1)] ⟨w,w91.heap.size+1,[(Ak w),(Bf c z),(Bh z),(NL n2 c k j y34),(Dw n2 c aP i cP csG aC cC),(Cj c aP i cP z),(BP csG z),(BX csG aC cC z),(Dc y34 n25),(mid (n25+1) w36),(Hq c k y48 aD cD j b50),(G6 c k aD cD j z),(LU y89 n80),(Px c k j y89 w91)]⟩ [0,1,2,4,5,6,7,8,9,10,12] Ae (.inr rfl) ?_
   refine CX 12 ?_
   refine QD z 11 13 (D8 c k j) [(⟨y89.partition,y89.port,F9 c k j⟩:AL)] AL.cells 71 3 24 (.slice aD ((D8 c k j).length) cD) w91.heap.size 1 1 #[i6 y89.partition,i6 y89.port,i6 (F9 c k j)] 71 (0,0) true (some 92) [0,1,2,4,5,6,7,8,9,10,12] (by simp only[List.length_cons,List.length_nil];omega) (show z≤w91.heap.size+1 by omega) (.inr ⟨rfl,rfl⟩) (fun ax96 cp97 n98 (hn99:w91.heap.size+1≤n98) => ?_)
   refine DV [1,2,4,5,7,10,46,47,48,74,75,76,92] [(1,pt z),(AO z),(Bd n2),(AQ n2),(Cb n25),(EG b50),(BJ c b27 o28),(BB c),(48,Ad k),(Jf c k b82 o83 cp40),(EI c k),(76,Ad j),(92,.slice ax96 ((D8 c k j++[(⟨y89.partition,y89.port,F9 c k j⟩:AL)]).length) cp97)] ?_
   refine CU [(13,o0)] [1,2,4,5,7,10,46,47,48,74,75,76,92,93] [] (Ed 14 1) [(1,pt z),(AO z),(Bd n2),(AQ n2),(Cb n25),(EG b50),(BJ c b27 o28),(BB c),(48,Ad k),(Jf c k b82 o83 cp40),(EI c k),(76,Ad j),(92,.slice ax96 ((D8 c k j++[(⟨y89.partition,y89.port,F9 c k j⟩:AL)]).length) cp97),(93,.pointer (some ⟨b50,4,none⟩))] Ae ?_
   refine CX 14 ?_
   refine EJ (a1 10) [1,2,4,5,7,10,46,47,48,74,75,76] [Qb b50] [(1,pt z),(AO z),(Bd n2),(AQ n2),(Cb n25),(EG b50),(BJ c b27 o28),(BB c),(48,Ad k),(Jf c k b82 o83 cp40),(EI c k),(76,Ad j)] ⟨w,n98,[(Ak w),(Bf c z),(Bh z),(NL n2 c k j y34),(Dw n2 c aP i cP csG aC cC),(Cj c aP i cP z),(BP csG z),(BX csG aC cC z),(Dc y34 n25),(mid (n25+1) w36),(Rj c k y48 j b50 ax96 y89 cp97),(Pv c k j ax96 y89 cp97 z),(LU y89 n80),(Px c k j y89 w91)]⟩ [] ⟨rfl,Ae⟩ (.inl rfl) ?_
   refine IA 15 [0,1,2,3,4,5,6,7,8,9,10,11,12,13] [(Ak w),(Bf c z),(Bh z),(NL n2 c k j y34),(Dw n2 c aP i cP csG aC cC),(Cj c aP i cP z),(BP csG z),(BX csG aC cC z),(Dc y34 n25),(mid (n25+1) w36),(Rj c k y48 j b50 ax96 y89 cp97),(Pv c k j ax96 y89 cp97 z),(LU y89 n80),(Px c k j y89 w91)] rfl rfl ?_
   refine D9 ?_
   refine Ja 4 0 [] [[(ov (i6 ((j+1:Nat):Int))),o0]] [Wr ((j:Int)+1) (((j+1:Nat):Int))] [(1,pt z),(AO z),(Bd n2),(AQ n2),(Cb n25),(EG b50),(BJ c b27 o28),(BB c),(48,Ad k),(Jf c k b82 o83 cp40),(EI c k),(76,i6 ((j+1:Nat):Int))] rfl ⟨Be,Ae⟩ ?_
   refine BO [0,1,2,3,4,5,6,7,8,9,10,11] [(Ak w),(Bf c z),(Bh z),(NL n2 c k j y34),(Dw n2 c aP i cP csG aC cC),(Cj c aP i cP z),(BP csG z),(BX csG aC cC z),(Dc y34 n25),(mid (n25+1) w36),(Rj c k y48 j b50 ax96 y89 cp97),(Pv c k j ax96 y89 cp97 z)] rfl rfl ?_
   refine EP [1,2,4,5,7,10,46,47,48,74,75,76] [(1,pt z),(AO z),(Bd n2),(AQ n2),(Cb n25),(EG b50),(BJ c b27 o28),(BB c),(48,Ad k),(H9 c k cp40 ax39),(EI c k),(76,i6 ((j+1:Nat):Int))] (by(try dsimp only[Rj,Hq,Dw,F6,Px,Bh,Gq,NL,G9,DU,Dc,LU,Bf,Pv,Cj,G6,BX,BP,Jf,BJ,EI,Gy,Bd,H9,Dn,Em,BB,AQ,AO,EG,Cb,Hg,Gz]);simp only[ha84];rfl) ?_
   refine Bz (fun a w' hs=>⟨(Ba c (k:Int) false).length - (j+1),by omega,n98,(j+1),ax96,cp97,rfl,by omega,by omega,by(try dsimp only[Rj,Hq,Dw,F6,Px,Bh,Gq,NL,G9,DU,Dc,LU,Bf,Pv,Cj,G6,BX,BP,Jf,BJ,EI,Gy,Bd,H9,Dn,Em,BB,AQ,AO,EG,Cb,Hg,Gz]at hs ⊢);rw[V9,UD,←hy34,show KH c k j=⟨y89.partition,y89.port,F9 c k j⟩from by rw[hy89];rfl];exact hs⟩)
  refine q_c 11 4 [0] [[oF],[o0,(a1 4),(an 5 10),o0]] [BF ((j:Int)<(((Ba c (k:Int) false).length:Nat):Int)),Qb (n2+1),Qb b50,Qb b50,Qb b50,Qb b50,Qb b50] [(1,pt z),(AO z),(Bd n2),(AQ n2),(BJ c b27 o28),(BB c),(48,Ad k),(96,.slice aC csG.length cC),(98,.slice (some ⟨n80,0,none⟩) 1 1)] ⟨w,n80+1,[(Ak w),(Bf c z),(Bh z),(G9 n2 c k j),(Dw n2 c aP i cP csG aC cC),(Cj c aP i cP z),(BP csG z),(BX csG aC cC z),(Dc y34 n25),(mid (n25+1) w36),(Hq c k y48 aD cD j b50),(G6 c k aD cD j z),(Ut c k y48 aD cD j n80)]⟩ rfl ⟨bf,rfl,rfl,rfl,rfl,rfl,rfl,Ae⟩ ?_
  refine Fe z 7 12 csG [(⟨Bc c k,(Bc c k)+2,y48.partition,y48.port,(⟨aD,cD,D8 c k j⟩:Sl AL)⟩:Aq)] Aq.cells 62 5 56 (.slice aC csG.length cC) n80 1 1 #[i6 (Bc c k),i6 ((Bc c k)+2),i6 y48.partition,i6 y48.port,.slice aD ((D8 c k j).length) cD] 62 (0,0) true (some 99) (by simp only[List.length_cons,List.length_nil];omega) (show z≤n80+1 by omega) (fun ax100 cp101 n102 (hn103:n80+1≤n102) => ?_)
  refine Hu 5 0 [] [[o0,(a1 4)],[(ov (i6 ((k+1:Nat):Int))),o0]] [Qb (n2+1),Wr ((k:Int)+1) (((k+1:Nat):Int))] [(1,pt z),(AO z),(Bd n2),(AQ n2),(BJ c b27 o28),(BB c),(48,i6 ((k+1:Nat):Int))] ⟨w,n102,[(Ak w),(Bf c z),(Bh z),(G9 n2 c k j),(U4 n2 c aP i cP ax100 csG k y48 aD cD j cp101),(Cj c aP i cP z),(BP csG z),(RZ c ax100 csG k y48 aD cD j cp101 z),(Dc y34 n25),(mid (n25+1) w36),(Hq c k y48 aD cD j b50),(G6 c k aD cD j z),(Ut c k y48 aD cD j n80)]⟩ rfl ⟨rfl,Be,Ae⟩ ?_
  refine Qk 6 11 [0,1,2,3,4,5,7,8,9,10,12] [(Ak w),(Bf c z),(Bh z),(G9 n2 c k j),(U4 n2 c aP i cP ax100 csG k y48 aD cD j cp101),(Cj c aP i cP z),(RZ c ax100 csG k y48 aD cD j cp101 z),(Dc y34 n25),(mid (n25+1) w36),(Hq c k y48 aD cD j b50),(Ut c k y48 aD cD j n80)] ?_
  refine BO [0,1,2,3,4,5,11,6] [(Ak w),(Bf c z),(Bh z),(G9 n2 c k j),(U4 n2 c aP i cP ax100 csG k y48 aD cD j cp101),(Cj c aP i cP z),(AA z 71 3 AL.cells (csG.map Aq.AX++[⟨aD,cD,D8 c k j⟩])),(RZ c ax100 csG k y48 aD cD j cp101 z)] rfl rfl ?_
  refine EP [1,2,4,5,46,47,48] [(1,pt z),(AO z),(Bd n2),(AQ n2),(Gy c),(BB c),(48,i6 ((k+1:Nat):Int))] (by(try dsimp only[U4,Rj,Hq,Ut,Dw,F6,Px,Bh,Gq,NL,G9,DU,Dc,LU,Bf,RZ,Pv,Cj,G6,BX,BP,Jf,BJ,EI,Gy,Bd,H9,Dn,Em,BB,AQ,AO,EG,Cb,Hg,Gz]);simp only[ha29];rfl) ?_
  refine Bz (fun a w' hs=>⟨c.Ac.xs.length - (k+1),by omega,n102,(k+1),(csG++[(⟨Bc c k,(Bc c k)+2,y48.partition,y48.port,(⟨aD,cD,D8 c k j⟩:Sl AL)⟩:Aq)]),ax100,cp101,rfl,by omega,by omega,by rw[List.length_append,hcl];rfl,Zv hcl hcs (a:=aD) (cp:=cD) (by unfold GK;rw[←hy48,show Gg c k=j from by unfold Gg;omega]),by(try dsimp only[U4,Rj,Hq,Ut,Dw,F6,Px,Bh,Gq,NL,G9,DU,Dc,LU,Bf,RZ,Pv,Cj,G6,BX,BP,Jf,BJ,EI,Gy,Bd,H9,Dn,Em,BB,AQ,AO,EG,Cb,Hg,Gz]at hs ⊢);rw[List.map_append,VC,show Gg c k=j from by unfold Gg;omega];exact hs⟩)
 refine A8 12 1 [0] [[oF],[o0]] [BF ((k:Int)<(c.Ac.xs.length:Int))] [(1,pt z),(AO z),(AQ n2),(102,.func (.func 37) #[] #[pt n2])] rfl ⟨bf,Ae⟩ ?_
 refine l_call [] [] 37 #[i6 0,pt n2] (some 103) Ae ?_
 intro w104 hw104
 refine BV (args:=[i6 0,pt n2]) 10 ⟨w,n25,(Hg n2 c aP i cP csG k aC cC z w)⟩ Try.func37 rfl (by kernel_rfl) (by kernel_rfl) hw104 ?_
 refine A8 17 0 [] [[o0],[(a1 3),o0],[(a1 3),o0,(ov (i6 (Bc c k))),(a1 3)],[o0,o0]] [Qb n2,Qb n2,Wr ((Bc c k:Int)+0) (Bc c k),Qb n2] [(3,i6 (Bc c k))] rfl ⟨rfl,rfl,Be,rfl,Ae⟩ ?_
 refine AZ [] [] (i6 (Bc c k)) Ae ?_
 intro w105 hw105
 refine⟨_,_,rfl,hw105, ?_⟩
 refine Di 0 3 [] [[(ov (i6 ((Bc c k)+16))),(ov (i6 (((Bc c k)+16) - 1))),(ov (i6 ((((Bc c k)+16) - 1) / 16)))]] [Wr ((Bc c k:Int)+16) ((Bc c k)+16),Wr (((Bc c k)+16:Int) - 1) (((Bc c k)+16) - 1),Wr (Int.tdiv (((Bc c k)+16) - 1) 16) ((((Bc c k)+16) - 1) / 16)] [(1,pt z),(AO z),(AQ n2),(106,i6 ((((Bc c k)+16) - 1) / 16))] rfl ⟨Be,Be,congrArg (Value.int .i64) (I5 (by omega) (by omega) (by omega)),Ae⟩ ?_
 refine l_call [] [] 21 #[i6 ((((Bc c k)+16) - 1) / 16)] (some 107) Ae ?_
 intro w106 hw106
 refine BV (args:=[i6 ((((Bc c k)+16) - 1) / 16)]) 4 ⟨w,n25,(Hg n2 c aP i cP csG k aC cC z w)⟩ Try.func21 rfl (by kernel_rfl) (by kernel_rfl) hw106 ?_
 refine q_c 9 0 [] [[o0,o0],[o0,o0]] [] [(2,.func (.func 37) #[] #[pt n25])] ⟨w,n25+1,[(Ak w),(Bf c z),(Bh z),(DU n2 c k),(Dw n2 c aP i cP csG aC cC),(Cj c aP i cP z),(BP csG z),(BX csG aC cC z),(bk n25 #[i6 ((((Bc c k)+16) - 1) / 16)] 3)]⟩ rfl Ae ?_
 refine AZ [] [] (.func (.func 37) #[] #[pt n25]) Ae ?_
 intro w107 hw107
 refine⟨_,_,rfl,hw107, ?_⟩
 refine Di 8 0 [] [[o0],[o0,(a1 1),o0,o0]] [Qb z] [(AO z),(AQ n2),(Eu n25),(KP c),(Eo c),(111,i6 0)] rfl ⟨rfl,Ae⟩ ?_
 refine OZ z 3 1 (fun x:Int=>[i6 x]) ?_
 refine Ce (fun m a w'=>∃ (n109:Nat) (p:Nat) (psG:List Aj) (aP2:Option Addr) (cP2:Nat),m=c.Aa.xs.length - p∧n25+1≤n109∧(p≤c.Aa.xs.length)∧(psG.length=c.Aa.xs.length)∧(∀ q,p≤q→q<c.Aa.xs.length→gd psG q=NU c q)∧(∀ q,q<p→∃ a cp,gd psG q=Ey c q ⟨a,cp,DY c q (Fq (gd c.Aa.xs q))⟩)∧St 148 [(AO z),(AQ n2),(Eu n25),(KP c),(Eo c),(111,Ad p)] [] ⟨w,n109,(Nh n2 c csG k psG cP2 aC cC aP2 z n25 p w)⟩ a w') (c.Aa.xs.length - 0) ?_ ?_
 ·intro a w' hs;exact⟨(n25+1),0,(Gs c i),aP,cP,rfl,Nat.le_refl _,Nat.zero_le _,(by rw[U9];omega),(fun q _ hq=>Td (show q<i by omega)),fun q hq=>absurd hq (Nat.not_lt_zero q),by(try dsimp only[Hq,Dw,F6,NH,Bh,Gq,G9,LQ,DU,Dc,Bf,He,Cj,G6,Na,BX,BP,BJ,KP,EI,Gy,Eu,Bd,H9,Dn,Eo,Em,BB,AQ,AO,EG,Cb,Nh,Hg,Gz]at hs ⊢);rw[show C9 c 0=(((Bc c k)+16) - 1) / 16 from by rw[tAt_zero,show k=c.Ac.xs.length by omega]];exact hs⟩
 rintro m a w' ⟨n109,p,psG,aP2,cP2,rfl,hn108,hkp,hpl,hp1,hp2,hs⟩
 refine(?_:G Try.prog 148 [(AO z),(AQ n2),(Eu n25),(KP c),(Eo c),(111,Ad p)] [] ⟨w,n109,(Nh n2 c csG k psG cP2 aC cC aP2 z n25 p w)⟩ _ _ _) a w' hs
 clear hs a w'
 have htb:=NG hfine p (by omega)
 refine CP ?_
 by_cases h110:(p:Int)<(c.Aa.xs.length:Int)
 ·refine A8 10 0 [1] [[oT]] [BT ((p:Int)<(c.Aa.xs.length:Int))] [(AO z),(AQ n2),(Eu n25),(KP c),(Eo c),(111,Ad p),(112,.bool true)] rfl ⟨bt,Ae⟩ ?_
  obtain⟨b111,o112,ha113,hF115,hc114⟩:=(hc.Aa).1.all (show 0<c.Aa.xs.length by omega)
  replace ha113:c.Aa.a=some ⟨b111,o112,none⟩:=ha113
  refine IZ [(AO z),(AQ n2),(Eu n25),(Ff c b111 o112),(Eo c),(111,Ad p),(112,.bool true)] (by(try dsimp only[Hq,Dw,F6,NH,Bh,Gq,G9,LQ,DU,Dc,Bf,He,Cj,G6,Na,BX,BP,Ff,BJ,KP,EI,Gy,Eu,Bd,H9,Dn,Eo,Em,BB,AQ,AO,EG,Cb,Nh,Hg,Gz]);simp only[ha113]) ?_
  have hc116:=hc114 p (show p<c.Aa.xs.length by omega)
  have he117:=(hc.Aa).2 p (show p<c.Aa.xs.length by omega)
  obtain⟨y118,hy118⟩:∃ y_,y_=gd c.Aa.xs p:=⟨_,rfl⟩
  rw[←hy118]at he117 hc116
  have htn:=Oy y118
  refine q_c 4 0 [] [[o0,(oi p),(ol 0 (Ah.arr y118)),o0,o0,(an 8 10)]] [BI p,p<c.Aa.xs.length,Bq,Eh w b111 (o112+p*8) (Ah.arr y118),Qb n109,Qb n109,Qb n109,Qb n109,Qb n109,Qb n109,Qb n109,Qb n109] [(AO z),(AQ n2),(Eu n25),(Ff c b111 o112),(Eo c),(111,Ad p),(15,pt n109),(14,Ad p)] ⟨w,n109+1,[(Ak w),(Bf c z),(Bh z),(DU n2 c k),(NH n2 c csG psG cP2 aC cC aP2),(Na psG cP2 aP2 z),(BP csG z),(BX csG aC cC z),(LQ c n25 p),(He psG z p),(IB n109 y118)]⟩ rfl ⟨rfl,(by omega),rfl,CB hc116,rfl,rfl,rfl,rfl,rfl,rfl,rfl,rfl,Ae⟩ ?_
  refine Xk (base:=z) (e:=69) (sz:=5) (cells:=Aj.cells) (a:=aP2) (n:=psG.length) (cap:=cP2) (xs:=psG) 5 (by omega) (fun b119 hg120 hb121 => ?_)
  subst hg120
  refine Fp 7 [0,1,2,3,4,5,6,7,9,10] [(Ak w),(Bf c z),(Bh z),(DU n2 c k),(J7 n2 c csG b119 psG cP2 aC cC),(AV z 69 5 Aj.cells (.slice (some ⟨b119,0,none⟩) psG.length cP2) psG),(BP csG z),(BX csG aC cC z),(He psG z p),(IB n109 y118)] rfl rfl ?_
  refine CU [(0,o0),(1,(a1 4)),(2,o0),(3,o0)] [2,5,13,109,110,111,15,14,117,118,119] [Qb (n2+1)] (Ed 4 4) [(AO z),(AQ n2),(Eu n25),(Ff c b111 o112),(Eo c),(111,Ad p),(15,pt n109),(14,Ad p),(117,.slice (some ⟨b119,0,none⟩) psG.length cP2),(118,Ad p),(119,.func (.func 37) #[] #[pt n25])] ⟨rfl,Ae⟩ ?_
  refine CX 4 ?_
  refine FZ [] [] 37 #[i6 1,pt n25] (some 120) (by as_aux_lemma=>kernel_rfl) rfl rfl Ae ?_
  intro w122 hw122
  refine BV (args:=[i6 1,pt n25]) 10 ⟨w,n109+1,[(Ak w),(Bf c z),(Bh z),(DU n2 c k),(J7 n2 c csG b119 psG cP2 aC cC),(AV z 69 5 Aj.cells (.slice (some ⟨b119,0,none⟩) psG.length cP2) psG),(BP csG z),(BX csG aC cC z),(LQ c n25 p),(He psG z p),(IB n109 y118)]⟩ Try.func37 rfl (by kernel_rfl) (by kernel_rfl) hw122 ?_
  refine q_c 17 0 [] [[o0],[(a1 8),o0],[(a1 8),o0,(ov (i6 ((C9 c p)+1))),(a1 8)],[o0,o0]] [Qb n25,Qb n25,Wr ((C9 c p:Int)+1) ((C9 c p)+1),Qb n25] [(3,i6 (C9 c p))] ⟨w,n109+1,[(Ak w),(Bf c z),(Bh z),(DU n2 c k),(J7 n2 c csG b119 psG cP2 aC cC),(AV z 69 5 Aj.cells (.slice (some ⟨b119,0,none⟩) psG.length cP2) psG),(BP csG z),(BX csG aC cC z),(bk n25 #[i6 ((C9 c p)+1)] 3),(He psG z p),(IB n109 y118)]⟩ rfl ⟨rfl,rfl,Be,rfl,Ae⟩ ?_
  refine AZ [] [] (i6 (C9 c p)) Ae ?_
  intro w123 hw123
  have hs124:=hw123
  refine⟨_,_,rfl,hs124,.inr (fun c hc=>hs124.all c (by first | exact hc | exact Dt (is:=[0,1,2,3,4,5,6,7,9,10]) rfl c hc)), ?_⟩
  refine DV [2,5,13,109,110,111,15,14,117,118,120] [(AO z),(AQ n2),(Eu n25),(Ff c b111 o112),(Eo c),(111,Ad p),(15,pt n109),(14,Ad p),(117,.slice (some ⟨b119,0,none⟩) psG.length cP2),(118,Ad p),(120,i6 (C9 c p))] ?_
  refine CU [(5,(oi p)),(6,o0)] [2,5,13,109,110,111,15,14,120,122] [BI p,p<psG.length,Bq] (Ed 7 1) [(AO z),(AQ n2),(Eu n25),(Ff c b111 o112),(Eo c),(111,Ad p),(15,pt n109),(14,Ad p),(120,i6 (C9 c p)),(122,.pointer (some ⟨b119,0+EK 5 p+3,none⟩))] ⟨rfl,(by omega),rfl,Ae⟩ ?_
  refine CX 7 ?_
  refine RP 5 p 3 psG (⟨Bi c p,Bi c p+2,Bi c p+2+17,C9 c p,(⟨none,0,[]⟩:Sl Int)⟩:Aj) Aj.cells z 69 5 b119 psG.length cP2 (i6 (C9 c p)) none [] (by first | omega | (rw[List.length_set];omega)) (by first | (rw[hp1 p (Nat.le_refl _) (by omega)];rfl) | (rw[LG (by omega)];rfl)) (.inl rfl) ?_
  refine DV [2,5,13,109,110,111,15,14] [(AO z),(AQ n2),(Eu n25),(Ff c b111 o112),(Eo c),(111,Ad p),(15,pt n109),(14,Ad p)] ?_
  refine IA 8 [0,1,2,3,4,5,6,7,8,9,10] [(Ak w),(Bf c z),(Bh z),(DU n2 c k),(J7 n2 c csG b119 psG cP2 aC cC),(AV z 69 5 Aj.cells (.slice (some ⟨b119,0,none⟩) psG.length cP2) (psG.set p (⟨Bi c p,Bi c p+2,Bi c p+2+17,C9 c p,(⟨none,0,[]⟩:Sl Int)⟩:Aj))),(BP csG z),(BX csG aC cC z),(bk n25 #[i6 ((C9 c p)+1)] 3),(He psG z p),(IB n109 y118)] rfl rfl ?_
  refine D9 ?_
  refine Ja 3 1 [] [[(an 8 10)]] [Qb n109,Qb n109,Qb n109,Qb n109,Qb n109,Qb n109,Qb n109,Qb n109] [(AO z),(AQ n2),(Eu n25),(Ff c b111 o112),(Eo c),(111,Ad p),(14,Ad p),(123,.agg (Ah.arr y118))] rfl ⟨rfl,rfl,rfl,rfl,rfl,rfl,rfl,rfl,Ae⟩ ?_
  refine H5 25 #[.agg (Ah.arr y118)] (some 124) (i6 ((Fq y118:Nat):Int)) (fun w125 hw125=>YM w125 y118 (he117.ext (hw125.ext rfl) (fun _ h=>h)) (TA (by rw[hy118];exact hfine.parts p (by omega)))) (fun n126 (hn127:n109+1≤n126) => ?_)
  refine Di 3 0 [] [[o0]] [] [(AO z),(AQ n2),(Eu n25),(Ff c b111 o112),(Eo c),(111,Ad p),(14,Ad p),(Ir y118),(125,i6 0)] rfl Ae ?_
  refine Le z 3 1 (fun x:Int=>[i6 x]) ?_
  refine Eb [2,5,13,14,109,110,111,124,125] [(AO z),(AQ n2),(Eu n25),(14,Ad p),(Ff c b111 o112),(Eo c),(111,Ad p),(Ir y118),(125,i6 0)] ?_
  refine Ce (fun m a w'=>∃ (n129:Nat) (t:Nat) (aT:Option Addr) (cT:Nat),m=(Fq y118) - t∧n126≤n129∧(t≤(Fq y118))∧St 148 [(AO z),(AQ n2),(Eu n25),(14,Ad p),(Ff c b111 o112),(Eo c),(111,Ad p),(Ir y118),(125,Ad t)] [] ⟨w,n129,(OA n2 c csG k b119 psG cP2 aC cC z n25 p t n109 y118 aT cT w)⟩ a w') ((Fq y118) - 0) ?_ ?_
  ·intro a w' hs;exact⟨n126,0,none,0,rfl,Nat.le_refl _,Nat.zero_le _,by(try dsimp only[Hq,J7,Dw,F6,NH,Bh,Gq,Oz,G9,IB,LQ,DU,Dc,Bf,KQ,O1,He,Cj,G6,Na,BX,BP,Ff,BJ,KP,EI,Gy,Eu,Bd,H9,Dn,Eo,Em,BB,Ir,AQ,AO,EG,Cb,OA,Nh,Hg,Gz]at hs ⊢);rw[show C9 c p+1+((0:Nat):Int)=C9 c p+1 from by omega];exact hs⟩
  rintro m a w' ⟨n129,t,aT,cT,rfl,hn128,hkt,hs⟩
  refine(?_:G Try.prog 148 [(AO z),(AQ n2),(Eu n25),(14,Ad p),(Ff c b111 o112),(Eo c),(111,Ad p),(Ir y118),(125,Ad t)] [] ⟨w,n129,(OA n2 c csG k b119 psG cP2 aC cC z n25 p t n109 y118 aT cT w)⟩ _ _ _) a w' hs
  clear hs a w'
  have htl:(DY c p t).length=t:=Ql
  refine CP ?_
  by_cases h130:(t:Int)<((Fq y118:Nat):Int)
  ·refine A8 9 0 [1] [[oT]] [BT ((t:Int)<((Fq y118:Nat):Int))] [(AO z),(AQ n2),(Eu n25),(14,Ad p),(Ff c b111 o112),(Eo c),(111,Ad p),(Ir y118),(125,Ad t),(126,.bool true)] rfl ⟨bt,Ae⟩ ?_
   refine Fp 15 [0,1,2,3,4,5,6,7,9,10] [(Ak w),(Bf c z),(Bh z),(DU n2 c k),(J7 n2 c csG b119 psG cP2 aC cC),(KQ c b119 psG cP2 z p t aT cT),(BP csG z),(BX csG aC cC z),(He psG z p),(IB n109 y118)] rfl rfl ?_
   refine CU [(0,o0),(1,(a1 4)),(2,o0),(3,o0),(4,(a1 4)),(5,o0),(6,(oi p)),(7,o0),(8,(oa [.via 5 (.slice aT ((DY c p t).length) cT)])),(9,o0)] [2,5,13,14,109,110,111,124,125,128,129,135,136] [Qb (n2+1),Qb (n2+1),BI p,p<psG.length,Bq,∀ w',Ch.holds (KQ c b119 psG cP2 z p t aT cT) w'→w'.cell? ⟨b119,0+EK 5 p+4,none⟩=some (.slice aT ((DY c p t).length) cT)] (Ed 10 6) [(AO z),(AQ n2),(Eu n25),(14,Ad p),(Ff c b111 o112),(Eo c),(111,Ad p),(Ir y118),(125,Ad t),(128,.slice (some ⟨b119,0,none⟩) psG.length cP2),(129,Ad p),(135,.slice aT ((DY c p t).length) cT),(136,.func (.func 37) #[] #[pt n25])] ⟨rfl,rfl,rfl,(by omega),rfl,Iq (sz:=5) (j:=p) (k:=4) (fun _=>rfl) (by first | omega | (rw[List.length_set];omega)) (by rw[LG (by omega)];rfl),Ae⟩ ?_
   refine CX 10 ?_
   refine FZ [] [] 37 #[i6 1,pt n25] (some 137) (by as_aux_lemma=>kernel_rfl) rfl rfl Ae ?_
   intro w131 hw131
   refine BV (args:=[i6 1,pt n25]) 10 ⟨w,n129,(OA n2 c csG k b119 psG cP2 aC cC z n25 p t n109 y118 aT cT w)⟩ Try.func37 rfl (by kernel_rfl) (by kernel_rfl) hw131 ?_
   refine q_c 17 0 [] [[o0],[(a1 8),o0],[(a1 8),o0,(ov (i6 ((C9 c p+1+(t:Int))+1))),(a1 8)],[o0,o0]] [Qb n25,Qb n25,Wr ((C9 c p+1+(t:Int):Int)+1) ((C9 c p+1+(t:Int))+1),Qb n25] [(3,i6 (C9 c p+1+(t:Int)))] ⟨w,n129,[(Ak w),(Bf c z),(Bh z),(DU n2 c k),(J7 n2 c csG b119 psG cP2 aC cC),(KQ c b119 psG cP2 z p t aT cT),(BP csG z),(BX csG aC cC z),(P5 c n25 p t),(He psG z p),(IB n109 y118),(O1 c z p t aT cT)]⟩ rfl ⟨rfl,rfl,Be,rfl,Ae⟩ ?_
   refine AZ [] [] (i6 (C9 c p+1+(t:Int))) Ae ?_
   intro w132 hw132
   have hs133:=hw132
   refine⟨_,_,rfl,hs133,.inr (fun c hc=>hs133.all c (by first | exact hc | exact Dt (is:=[0,1,2,3,4,5,6,7,9,10]) rfl c hc)), ?_⟩
   refine DV [2,5,13,14,109,110,111,124,125,128,129,135,137] [(AO z),(AQ n2),(Eu n25),(14,Ad p),(Ff c b111 o112),(Eo c),(111,Ad p),(Ir y118),(125,Ad t),(128,.slice (some ⟨b119,0,none⟩) psG.length cP2),(129,Ad p),(135,.slice aT ((DY c p t).length) cT),(137,i6 (C9 c p+1+(t:Int)))] ?_
   refine CX 11 ?_
   refine EJ o0 [2,5,13,14,109,110,111,124,125,128,129,135,138] [] [(AO z),(AQ n2),(Eu n25),(14,Ad p),(Ff c b111 o112),(Eo c),(111,Ad p),(Ir y118),(125,Ad t),(128,.slice (some ⟨b119,0,none⟩) psG.length cP2),(129,Ad p),(135,.slice aT ((DY c p t).length) cT),(138,.slice (some ⟨n129,0,none⟩) 1 1)] ⟨w,n129+1,[(Ak w),(Bf c z),(Bh z),(DU n2 c k),(J7 n2 c csG b119 psG cP2 aC cC),(KQ c b119 psG cP2 z p t aT cT),(BP csG z),(BX csG aC cC z),(P5 c n25 p t),(He psG z p),(IB n109 y118),(O1 c z p t aT cT),(bk n129 #[i6 (C9 c p+1+(t:Int))] 3)]⟩ [0,1,2,3,4,5,6,7,9,10] Ae (.inr rfl) ?_
   refine CX 12 ?_
   refine QD z 11 12 (DY c p t) [C9 c p+1+(t:Int)] (fun x:Int=>[i6 x]) 3 1 8 (.slice aT ((DY c p t).length) cT) n129 1 1 #[i6 (C9 c p+1+(t:Int))] 3 (0,0) true (some 139) [0,1,2,3,4,5,6,7,9,10] (by simp only[List.length_cons,List.length_nil];omega) (show z≤n129+1 by omega) (.inr ⟨rfl,rfl⟩) (fun ax134 cp135 n136 (hn137:n129+1≤n136) => ?_)
   refine DV [2,5,13,14,109,110,111,124,125,128,129,139] [(AO z),(AQ n2),(Eu n25),(14,Ad p),(Ff c b111 o112),(Eo c),(111,Ad p),(Ir y118),(125,Ad t),(128,.slice (some ⟨b119,0,none⟩) psG.length cP2),(129,Ad p),(139,.slice ax134 (((DY c p t)++[C9 c p+1+(t:Int)]).length) cp135)] ?_
   refine CU [(13,(oi p)),(14,o0)] [2,5,13,14,109,110,111,124,125,139,141] [BI p,p<psG.length,Bq] (Ed 15 1) [(AO z),(AQ n2),(Eu n25),(14,Ad p),(Ff c b111 o112),(Eo c),(111,Ad p),(Ir y118),(125,Ad t),(139,.slice ax134 (((DY c p t)++[C9 c p+1+(t:Int)]).length) cp135),(141,.pointer (some ⟨b119,0+EK 5 p+4,none⟩))] ⟨rfl,(by omega),rfl,Ae⟩ ?_
   refine CX 15 ?_
   refine RP 5 p 4 (psG.set p (⟨Bi c p,Bi c p+2,Bi c p+2+17,C9 c p,(⟨aT,cT,DY c p t⟩:Sl Int)⟩:Aj)) (⟨Bi c p,Bi c p+2,Bi c p+2+17,C9 c p,(⟨ax134,cp135,((DY c p t)++[C9 c p+1+(t:Int)])⟩:Sl Int)⟩:Aj) Aj.cells z 69 5 b119 psG.length cP2 (.slice ax134 (((DY c p t)++[C9 c p+1+(t:Int)]).length) cp135) none [] (by first | omega | (rw[List.length_set];omega)) (by first | (rw[hp1 p (Nat.le_refl _) (by omega)];rfl) | (rw[LG (by omega)];rfl)) (.inl rfl) ?_
   refine DV [2,5,13,14,109,110,111,124,125] [(AO z),(AQ n2),(Eu n25),(14,Ad p),(Ff c b111 o112),(Eo c),(111,Ad p),(Ir y118),(125,Ad t)] ?_
   refine IA 16 [0,1,2,3,4,5,6,7,8,9,10,11,12] [(Ak w),(Bf c z),(Bh z),(DU n2 c k),(J7 n2 c csG b119 psG cP2 aC cC),(SX c b119 psG cP2 z p t aT cT ax134 cp135),(BP csG z),(BX csG aC cC z),(P5 c n25 p t),(He psG z p),(IB n109 y118),(AV z 3 1 (fun x:Int=>[i6 x]) (.slice ax134 (((DY c p t)++[C9 c p+1+(t:Int)]).length) cp135) ((DY c p t)++[C9 c p+1+(t:Int)])),(bk n129 #[i6 (C9 c p+1+(t:Int))] 3)] rfl rfl ?_
   refine D9 ?_
   refine Ja 4 0 [] [[(ov (i6 ((t+1:Nat):Int))),o0]] [Wr ((t:Int)+1) (((t+1:Nat):Int))] [(AO z),(AQ n2),(Eu n25),(14,Ad p),(Ff c b111 o112),(Eo c),(111,Ad p),(Ir y118),(125,i6 ((t+1:Nat):Int))] rfl ⟨Be,Ae⟩ ?_
   refine BO [0,1,2,3,4,5,6,7,8,9,10,11] [(Ak w),(Bf c z),(Bh z),(DU n2 c k),(J7 n2 c csG b119 psG cP2 aC cC),(SX c b119 psG cP2 z p t aT cT ax134 cp135),(BP csG z),(BX csG aC cC z),(P5 c n25 p t),(He psG z p),(IB n109 y118),(AV z 3 1 (fun x:Int=>[i6 x]) (.slice ax134 (((DY c p t)++[C9 c p+1+(t:Int)]).length) cp135) ((DY c p t)++[C9 c p+1+(t:Int)]))] rfl rfl ?_
   refine Dp [2,5,13,14,109,110,111,124,125] [(AO z),(AQ n2),(Eu n25),(14,Ad p),(Ff c b111 o112),(Eo c),(111,Ad p),(Ir y118),(125,i6 ((t+1:Nat):Int))] ?_
   refine Bz (fun a w' hs=>⟨(Fq y118) - (t+1),by omega,n136,(t+1),ax134,cp135,rfl,by omega,by omega,by(try dsimp only[Hq,J7,Dw,F6,NH,Bh,Gq,P5,Oz,G9,IB,LQ,DU,Dc,Bf,SX,KQ,O1,He,Cj,G6,Na,BX,BP,Ff,BJ,KP,EI,Gy,Eu,Bd,H9,Dn,Eo,Em,BB,Ir,AQ,AO,EG,Cb,OA,Nh,Hg,Gz]at hs ⊢);simp only[List.set_set]at hs;rw[show C9 c p+1+((t+1:Nat):Int)=C9 c p+1+(t:Int)+1 from by omega,Vy];exact hs⟩)
  refine A8 13 0 [0] [[oF],[(ov (i6 ((p+1:Nat):Int))),o0]] [BF ((t:Int)<((Fq y118:Nat):Int)),Wr ((p:Int)+1) (((p+1:Nat):Int))] [(AO z),(AQ n2),(Eu n25),(Ff c b111 o112),(Eo c),(111,i6 ((p+1:Nat):Int))] rfl ⟨bf,Be,Ae⟩ ?_
  refine Qk 9 11 [0,1,2,3,4,5,6,7,8,10] [(Ak w),(Bf c z),(Bh z),(DU n2 c k),(J7 n2 c csG b119 psG cP2 aC cC),(KQ c b119 psG cP2 z p t aT cT),(BP csG z),(BX csG aC cC z),(Oz c n25 p t),(IB n109 y118)] ?_
  refine BO [0,1,2,3,4,5,6,7,8,10] [(Ak w),(Bf c z),(Bh z),(DU n2 c k),(J7 n2 c csG b119 psG cP2 aC cC),(KQ c b119 psG cP2 z p t aT cT),(BP csG z),(BX csG aC cC z),(Oz c n25 p t),(AA z 3 1 (fun x:Int=>[i6 x]) ((psG.take p).map Aj.Tables++[⟨aT,cT,(DY c p t)⟩]))] rfl rfl ?_
  refine EP [2,5,13,109,110,111] [(AO z),(AQ n2),(Eu n25),(KP c),(Eo c),(111,i6 ((p+1:Nat):Int))] (by(try dsimp only[Hq,J7,Dw,F6,NH,Bh,Gq,P5,Oz,G9,IB,LQ,DU,Dc,Bf,SX,KQ,O1,He,Cj,G6,Na,BX,BP,Ff,BJ,KP,EI,Gy,Eu,Bd,H9,Dn,Eo,Em,BB,Ir,AQ,AO,EG,Cb,OA,Nh,Hg,Gz]);simp only[ha113];rfl) ?_
  refine Bz (fun a w' hs=>⟨c.Aa.xs.length - (p+1),by omega,n129,(p+1),(psG.set p (⟨Bi c p,Bi c p+2,Bi c p+2+17,C9 c p,(⟨aT,cT,DY c p t⟩:Sl Int)⟩:Aj)),(some ⟨b119,0,none⟩),cP2,rfl,by omega,by omega,by rw[List.length_set];exact hpl,fun q h1 h2=>by rw[RN (by omega) (by omega)];exact hp1 q (by omega) h2,fun q hq=>if e:q=p then(by rw[e];exact⟨aT,cT,by rw[LG (by omega),←hy118,show Fq y118=t by omega];rfl⟩)else(by rw[RN (fun e2=>e e2.symm) (by omega)];exact hp2 q (by omega)),by(try dsimp only[Hq,J7,Dw,F6,NH,Bh,Gq,P5,Oz,G9,IB,LQ,DU,Dc,Bf,SX,KQ,O1,He,Cj,G6,Na,BX,BP,Ff,BJ,KP,EI,Gy,Eu,Bd,H9,Dn,Eo,Em,BB,Ir,AQ,AO,EG,Cb,OA,Nh,Hg,Gz]at hs ⊢);rw[XG (by omega),List.map_append,List.length_set,show C9 c (p+1)=C9 c p+1+(t:Int)from by rw[QL,←hy118];omega];exact hs⟩)
 refine A8 12 1 [0] [[oF],[o0]] [BF ((p:Int)<(c.Aa.xs.length:Int))] [(AO z),(AQ n2),(144,.func (.func 37) #[] #[pt n25])] rfl ⟨bf,Ae⟩ ?_
 refine l_call [] [] 37 #[i6 0,pt n25] (some 145) Ae ?_
 intro w138 hw138
 refine BV (args:=[i6 0,pt n25]) 10 ⟨w,n109,(Nh n2 c csG k psG cP2 aC cC aP2 z n25 p w)⟩ Try.func37 rfl (by kernel_rfl) (by kernel_rfl) hw138 ?_
 refine A8 17 0 [] [[o0],[(a1 8),o0],[(a1 8),o0,(ov (i6 (C9 c p))),(a1 8)],[o0,o0]] [Qb n25,Qb n25,Wr ((C9 c p:Int)+0) (C9 c p),Qb n25] [(3,i6 (C9 c p))] rfl ⟨rfl,rfl,Be,rfl,Ae⟩ ?_
 refine AZ [] [] (i6 (C9 c p)) Ae ?_
 intro w139 hw139
 refine⟨_,_,rfl,hw139, ?_⟩
 refine Hu 7 0 [] [[o0,(a1 4)],[(an 4 4),(an 4 2),o0]] [Qb (n2+1),Qb (n2+1),Qb (n2+1),Qb (n2+1),Qb (n2+1),Qb (z+1),Qb (z+1),Qb (z+1),Qb (z+1)] [(AO z),(3,i6 0)] ⟨w,n109,[(Ak w),(Bf c z),(bk (z+1) #[i6 (c.Kernel*16),.slice aP2 psG.length cP2,.slice aC csG.length cC,i6 (C9 c p)] 31),(DU n2 c k),(bk (n2+1) #[i6 (c.Kernel*16),.slice aP2 psG.length cP2,.slice aC csG.length cC,i6 (C9 c p)] 31),(Na psG cP2 aP2 z),(BP csG z),(BX csG aC cC z),(LQ c n25 p),(He psG z p)]⟩ rfl ⟨rfl,rfl,rfl,rfl,rfl,rfl,rfl,rfl,rfl,Ae⟩ ?_
 refine AZ [.at 2,.at 2,.at 2,.at 2] [Qb (z+1),Qb (z+1),Qb (z+1),Qb (z+1)] (.tuple #[.agg #[i6 (c.Kernel*16),.slice aP2 psG.length cP2,.slice aC csG.length cC,i6 (C9 c p)],i6 0]) ⟨rfl,rfl,rfl,rfl,Ae⟩ ?_
 intro w140 hw140
 have hL:Lm c ⟨c.Kernel*16,⟨aP2,cP2,psG⟩,⟨aC,cC,csG⟩,C9 c p⟩:=⟨rfl,by rw[show p=c.Aa.xs.length by omega],hpl,fun q hq=>hp2 q (by omega),by simp only;omega,fun q hq=>hcs q (by omega)⟩
 have hO:Og z w140 ⟨c.Kernel*16,⟨aP2,cP2,psG⟩,⟨aC,cC,csG⟩,C9 c p⟩:=⟨w,by
  have h4:=hw140.pick [5,7,6,9] rfl rfl
  rw[hw140.size]
  unfold layS
  (try dsimp only[Hq,J7,Dw,F6,NH,Bh,Gq,Oz,G9,IB,LQ,DU,Dc,Bf,KQ,O1,He,Cj,G6,Na,BX,BP,Ff,BJ,KP,EI,Gy,Eu,Bd,H9,Dn,Eo,Em,BB,Ir,AQ,AO,EG,Cb,OA,Nh,Hg,Gz]at h4)
  rw[List.take_of_length_le (by omega)]at h4
  exact h4⟩
 exact⟨_,rfl,hL,hz ▸ Ye hfine hL hO,hz ▸ hO,Bg hw140⟩
def V6(h:Aw):List Value:=[.func (.func 40) #[.agg (Aw.arr h)] #[],.func (.func 41) #[.agg (Aw.arr h)] #[]]
section
variable (z:Nat)(c:Af)(aA:Option Addr)(k cA:Nat)(b4 o5:Nat)
abbrev OJ:=bk z (Af.arr c) 26
abbrev QO:=AV z 103 2 V6 (.slice aA ((c.Ac.xs.take k).length) cA) (c.Ac.xs.take k)
abbrev Ru:Dq:=(8,.slice (some ⟨b4,o5,none⟩) c.Ac.xs.length c.Ac.cap)
abbrev OH:Dq:=(8,.slice c.Ac.a c.Ac.xs.length c.Ac.cap)
abbrev MQ:=(9,Ad c.Ac.xs.length)
end
theorem ask_calls(w:World)(c:Af)(hc:Af.ok Any w c)(hcn:c.Ac.xs.length≤16):Calls Try.prog 35 #[.agg (Af.arr c)] w fun e w'=>∃ a cp,e = .returned (.slice a c.Ac.xs.length cp)∧Jd V6 2 (New w.heap.size) w' ⟨a,cp,c.Ac.xs⟩∧BN (fun _=>False) w w':=by
 obtain⟨z,hz⟩:∃ z,z=w.heap.size:=⟨_,rfl⟩
 refine BV (args:=[.agg (Af.arr c)]) 26 ⟨w,z,[(Ak w)]⟩ Try.func35 rfl (by kernel_rfl) (by kernel_rfl) (Fv hz) ?_
 refine Eb [0] [(0,.agg (Af.arr c))] ?_
 refine q_c 14 0 [] [[o0,o0],[o0],[o0,(a1 1),o0,o0]] [Qb z] [(3,.slice none 0 0),(OH c),(MQ c),(10,i6 0)] ⟨w,z+1,[(Ak w),(OJ z c)]⟩ rfl ⟨rfl,Ae⟩ ?_
 refine Le z 103 2 V6 ?_
 refine Ce (fun m a w'=>∃ (n2:Nat) (k:Nat) (aA:Option Addr) (cA:Nat),m=c.Ac.xs.length - k∧z+1≤n2∧(k≤c.Ac.xs.length)∧St 26 [(3,.slice aA ((c.Ac.xs.take k).length) cA),(OH c),(MQ c),(10,Ad k)] [] ⟨w,n2,[(Ak w),(OJ z c),(QO z c aA k cA)]⟩ a w') (c.Ac.xs.length - 0) ?_ ?_
 ·intro a w' hs;exact⟨(z+1),0,none,0,rfl,Nat.le_refl _,Nat.zero_le _,hs⟩
 rintro m a w' ⟨n2,k,aA,cA,rfl,hn1,hkk,hs⟩
 refine(?_:G Try.prog 26 [(3,.slice aA ((c.Ac.xs.take k).length) cA),(OH c),(MQ c),(10,Ad k)] [] ⟨w,n2,[(Ak w),(OJ z c),(QO z c aA k cA)]⟩ _ _ _) a w' hs
 clear hs a w'
 have htk:(c.Ac.xs.take k).length=k:=by rw[List.length_take];omega
 refine CP ?_
 by_cases h3:(k:Int)<(c.Ac.xs.length:Int)
 ·refine A8 10 0 [1] [[oT]] [BT ((k:Int)<(c.Ac.xs.length:Int))] [(3,.slice aA ((c.Ac.xs.take k).length) cA),(OH c),(MQ c),(10,Ad k),(11,.bool true)] rfl ⟨bt,Ae⟩ ?_
  obtain⟨b4,o5,ha6,hF8,hc7⟩:=(hc.Ac).1.all (show 0<c.Ac.xs.length by omega)
  replace ha6:c.Ac.a=some ⟨b4,o5,none⟩:=ha6
  refine IZ [(3,.slice aA ((c.Ac.xs.take k).length) cA),(Ru c b4 o5),(MQ c),(10,Ad k),(11,.bool true)] (by(try dsimp only[OJ,QO,Ru,OH,MQ]);simp only[ha6]) ?_
  have hc9:=hc7 k (show k<c.Ac.xs.length by omega)
  have he10:=(hc.Ac).2 k (show k<c.Ac.xs.length by omega)
  obtain⟨y11,hy11⟩:∃ y_,y_=gd c.Ac.xs k:=⟨_,rfl⟩
  rw[←hy11]at he10 hc9
  refine q_c 8 7 [] [[(oi k),(ol 0 (Aw.arr y11)),o0,(an 3 3)],[(an 3 3),o0,o0,(an 3 4)],[o0,(an 3 4),o0,(an 3 4),o0,o0,o0]] [BI k,k<c.Ac.xs.length,Bq,Eh w b4 (o5+k*3) (Aw.arr y11),Qb n2,Qb n2,Qb n2,Qb n2,Qb n2,Qb n2,Qb (n2+1),Qb (n2+1),Qb (n2+1),Qb (n2+1),Qb (n2+1),Qb (n2+1),Qb (n2+1),Qb (n2+1),Qb (n2+1)] [(Ru c b4 o5),(MQ c),(10,Ad k),(16,.slice aA ((c.Ac.xs.take k).length) cA),(22,.slice (some ⟨n2+2,0,none⟩) 1 1)] ⟨w,n2+3,[(Ak w),(OJ z c),(QO z c aA k cA),(bk n2 (Aw.arr y11) 77),(bk (n2+1) #[i6 y11.Kind,i6 y11.Words,i6 y11.CS] 108),(.blk (n2+2) (.cells #[.func (.func 40) #[.agg #[i6 y11.Kind,i6 y11.Words,i6 y11.CS]] #[],.func (.func 41) #[.agg #[i6 y11.Kind,i6 y11.Words,i6 y11.CS]] #[]] 103 (0,0)) true)]⟩ rfl ⟨rfl,(by omega),rfl,CB hc9,rfl,rfl,rfl,rfl,rfl,rfl,rfl,rfl,rfl,rfl,rfl,rfl,rfl,rfl,rfl,Ae⟩ ?_
  refine Fe z 2 5 (c.Ac.xs.take k) [y11] V6 103 2 16 (.slice aA ((c.Ac.xs.take k).length) cA) (n2+2) 1 1 #[.func (.func 40) #[.agg #[i6 y11.Kind,i6 y11.Words,i6 y11.CS]] #[],.func (.func 41) #[.agg #[i6 y11.Kind,i6 y11.Words,i6 y11.CS]] #[]] 103 (0,0) true (some 23) (by simp only[List.length_cons,List.length_nil];omega) (show z≤n2+3 by omega) (fun ax12 cp13 n14 (hn15:n2+3≤n14) => ?_)
  refine Di 5 0 [] [[o0],[(ov (i6 ((k+1:Nat):Int))),o0]] [Wr ((k:Int)+1) (((k+1:Nat):Int))] [(Ru c b4 o5),(MQ c),(10,i6 ((k+1:Nat):Int)),(3,.slice ax12 (((c.Ac.xs.take k)++[y11]).length) cp13)] rfl ⟨Be,Ae⟩ ?_
  refine BO [0,1,2] [(Ak w),(OJ z c),(AV z 103 2 V6 (.slice ax12 (((c.Ac.xs.take k)++[y11]).length) cp13) ((c.Ac.xs.take k)++[y11]))] rfl rfl ?_
  refine EP [3,8,9,10] [(3,.slice ax12 (((c.Ac.xs.take k)++[y11]).length) cp13),(OH c),(MQ c),(10,i6 ((k+1:Nat):Int))] (by(try dsimp only[OJ,QO,Ru,OH,MQ]);simp only[ha6];rfl) ?_
  refine Bz (fun a w' hs=>⟨c.Ac.xs.length - (k+1),by omega,n14,(k+1),ax12,cp13,rfl,by omega,by omega,by(try dsimp only[OJ,QO,Ru,OH,MQ]at hs ⊢);rw[take_snoc (by omega),←hy11];exact hs⟩)
 refine A8 15 0 [0] [[oF],[o0,o0]] [BF ((k:Int)<(c.Ac.xs.length:Int))] [(2,.slice aA ((c.Ac.xs.take k).length) cA)] rfl ⟨bf,Ae⟩ ?_
 refine AZ [] [] (.slice aA ((c.Ac.xs.take k).length) cA) Ae ?_
 intro w16 hw16
 have hpo:c.Ac.xs.take k=c.Ac.xs:=List.take_of_length_le (by omega)
 have hrow:=hw16.at (i:=2) rfl
 (try dsimp only[OJ,QO,Ru,OH,MQ]at hrow)
 rw[hpo]at hrow ⊢
 exact⟨_,_,rfl,hz ▸ JF (fun _=>rfl) hrow (by omega),Bg hw16⟩
def YL(t:Nat)(g:Ar):Bool:=decide (g.Ci / 16≤(t:Int)∧(t:Int)≤(g.Ci+g.CE - 1) / 16)
def FV(x:Ah)(t:Nat):Bool:=x.Ag.xs.any (YL t)
theorem WY{α:Type}[Inhabited α]{p:α→Bool}{xs:List α}{k:Nat}(hk:k<xs.length)(h:p (gd xs k)=true):xs.any p=true:=by
 rw[List.any_eq_true];rw[DC hk]at h;exact⟨xs[k],List.getElem_mem hk,h⟩
theorem YH{α:Type}[Inhabited α]{p:α→Bool}{xs:List α}(h:∀ i,i<xs.length→p (gd xs i)=false):xs.any p=false:=by
 rw[List.any_eq_false]
 intro y hy
 obtain⟨i,hi,rfl⟩:=List.getElem_of_mem hy
 have:=h i hi
 rw[DC hi]at this
 simp[this]
theorem ZY{x:Ah}(hr:∀ i,i<x.Ag.xs.length→I7 (gd x.Ag.xs i)=true)(t:Nat):FV x t=(Ez x x.Ag.xs.length).contains t:=by
 rw[Bool.eq_iff_iff]
 unfold FV Ez ML
 simp only[List.any_eq_true,List.contains_iff_mem,List.mem_flatMap,List.mem_range,List.mem_map,YL,decide_eq_true_eq]
 constructor
 ·rintro⟨g,hg,h1,h2⟩
  obtain⟨i,hi,rfl⟩:=List.getElem_of_mem hg
  have h3:=hr i hi
  unfold I7 at h3
  rw[decide_eq_true_eq]at h3
  rw[DC hi]at h3
  refine⟨i,hi, ?_⟩
  rw[DC hi]
  by_cases hp:x.Ag.xs[i].Ci≤16*(t:Int)
  ·exact⟨(16*(t:Int) - x.Ag.xs[i].Ci).toNat,by omega,by omega⟩
  exact⟨0,by omega,by omega⟩
 rintro⟨i,hi,k,hk,h⟩
 have h3:=hr i hi
 unfold I7 at h3
 rw[decide_eq_true_eq]at h3
 refine⟨gd x.Ag.xs i,by rw[DC hi];exact List.getElem_mem hi,by omega,by omega⟩
theorem Wi{c:Af}{k:Int}{b:Bool}(i:Nat):∀ (n:Nat),i≤n→∃ r,Bv c k b n=Bv c k b i++r
 | 0,h=>⟨[],by rw[Nat.le_zero.1 h];simp⟩
 | n+1,h=>by
  by_cases e:i=n+1
  ·exact⟨[],by rw[e];simp⟩
  obtain⟨r,hr⟩:=Wi (c:=c) (k:=k) (b:=b) i n (by omega)
  exact⟨_,by rw[JU,hr,List.append_assoc]⟩
theorem Ul{p:Nat}{x:Ah}{k:Int}{b:Bool}(j:Nat):∀ (n:Nat),j≤n→∃ r,Bo p x k b n=Bo p x k b j++r
 | 0,h=>⟨[],by rw[Nat.le_zero.1 h];simp⟩
 | n+1,h=>by
  by_cases e:j=n+1
  ·exact⟨[],by rw[e];simp⟩
  obtain⟨r,hr⟩:=Ul (p:=p) (x:=x) (k:=k) (b:=b) j n (by omega)
  cases hs:GN k b (gd x.Ai.xs n)
  ·exact⟨r,by rw[J6 hs,hr]⟩
  exact⟨_,by rw[Nz hs,hr,List.append_assoc]⟩
theorem ZP{c:Af}{k:Int}{b:Bool}{i j:Nat}(hi:i<c.Aa.xs.length)(hj:j<(gd c.Aa.xs i).Ai.xs.length)(h1:Bv c k b i=[])(h2:Bo i (gd c.Aa.xs i) k b j=[])(h3:GN k b (gd (gd c.Aa.xs i).Ai.xs j)=true):gd (Ba c k b) 0=⟨(i:Int),(j:Int)⟩:=by
 obtain⟨r1,e1⟩:=Wi (c:=c) (k:=k) (b:=b) (i+1) c.Aa.xs.length (by omega)
 obtain⟨r2,e2⟩:=Ul (p:=i) (x:=gd c.Aa.xs i) (k:=k) (b:=b) (j+1) (gd c.Aa.xs i).Ai.xs.length (by omega)
 unfold Ba
 rw[e1,JU,h1,e2,Nz h3,h2]
 simp[gd]
theorem no_end{c:Af}{k:Int}{b:Bool}(h:Ba c k b=[]):gd (Ba c k b) 0=⟨0,0⟩:=by rw[h];rfl
section
variable (x:Ah)
abbrev QK:=(10,Ad x.Ag.xs.length)
end
theorem XK(w:World)(x:Ah)(t:Nat)(ht:t<16)(hx:Ah.ok Any w x)(hr:∀ i,i<x.Ag.xs.length→I7 (gd x.Ag.xs i)=true):Calls Try.prog 33 #[.agg (Ah.arr x),.int .i64 (t:Int)] w fun e w'=>e = .returned (.bool (FV x t))∧BN (fun _=>False) w w':=by
 obtain⟨z,hz⟩:∃ z,z=w.heap.size:=⟨_,rfl⟩
 refine BV (args:=[.agg (Ah.arr x),Ad t]) 40 ⟨w,z,[(Ak w)]⟩ Try.func33 rfl (by kernel_rfl) (by kernel_rfl) (Fv hz) ?_
 have hlR:=hx.Ag.1.len
 refine Eb [0,1] [(0,.agg (Ah.arr x)),(1,Ad t)] ?_
 refine q_c 10 0 [] [[o0,o0],[o0,(a1 1),o0,o0]] [Qb z] [(1,Ad t),(2,pt z),(QK x),(11,i6 0)] ⟨w,z+1,[(Ak w),(bk z (Ah.arr x) 52)]⟩ rfl ⟨rfl,Ae⟩ ?_
 refine Ce (fun m a w'=>∃ (n2:Nat) (i:Nat),m=x.Ag.xs.length - i∧z+1≤n2∧(i≤x.Ag.xs.length)∧(∀ q,q<i→YL t (gd x.Ag.xs q)=false)∧St 40 [(1,Ad t),(2,pt z),(QK x),(11,Ad i)] [] ⟨w,n2,[(Ak w),(bk z (Ah.arr x) 52)]⟩ a w') (x.Ag.xs.length - 0) ?_ ?_
 ·intro a w' hs;exact⟨(z+1),0,rfl,Nat.le_refl _,Nat.zero_le _,fun q hq=>absurd hq (Nat.not_lt_zero q),hs⟩
 rintro m a w' ⟨n2,i,rfl,hn1,hki,hq0,hs⟩
 refine(?_:G Try.prog 40 [(1,Ad t),(2,pt z),(QK x),(11,Ad i)] [] ⟨w,n2,[(Ak w),(bk z (Ah.arr x) 52)]⟩ _ _ _) a w' hs
 clear hs a w'
 refine CP ?_
 by_cases h3:(i:Int)<(x.Ag.xs.length:Int)
 ·refine A8 14 0 [1] [[oT],[o0,o0]] [BT ((i:Int)<(x.Ag.xs.length:Int))] [(1,Ad t),(2,pt z),(QK x),(11,Ad i),(5,Ad i)] rfl ⟨bt,Ae⟩ ?_
  obtain⟨b4,o5,ha6,hF8,hc7⟩:=(hx.Ag).1.all (show 0<x.Ag.xs.length by omega)
  replace ha6:x.Ag.a=some ⟨b4,o5,none⟩:=ha6
  have hc9:=hc7 i (show i<x.Ag.xs.length by omega)
  have he10:=(hx.Ag).2 i (show i<x.Ag.xs.length by omega)
  obtain⟨y11,hy11⟩:∃ y_,y_=gd x.Ag.xs i:=⟨_,rfl⟩
  rw[←hy11]at he10 hc9
  have hrg:=hr i (by omega);rw[←hy11]at hrg;unfold I7 at hrg;rw[decide_eq_true_eq]at hrg
  refine A8 8 0 [] [[o0,(Du 1 b4 o5 x.Ag),o0,(oi i),o0,(oa [.via 0 (i6 y11.Ci)]),o0],[o0,o0,(Du 1 b4 o5 x.Ag),o0,(oi i),o0,(oa [.via 0 (i6 y11.CE)]),(ov (i6 (y11.Ci+y11.CE))),(ov (i6 ((y11.Ci+y11.CE) - 1))),o0]] [Qb z,Df b4 o5 x.Ag,BI i,i<x.Ag.xs.length,Bq,Old w b4 (o5+i*4) (i6 y11.Ci),Qb z,Df b4 o5 x.Ag,BI i,i<x.Ag.xs.length,Bq,Old w b4 (o5+i*4+1) (i6 y11.CE),Wr ((y11.Ci:Int)+y11.CE) (y11.Ci+y11.CE),Wr ((y11.Ci+y11.CE:Int) - 1) ((y11.Ci+y11.CE) - 1)] [(1,Ad t),(2,pt z),(QK x),(11,Ad i),(6,i6 y11.Ci),(7,i6 ((y11.Ci+y11.CE) - 1))] rfl ⟨rfl,Dh ha6,rfl,(by omega),rfl,BA (hc9 0 _ rfl),rfl,Dh ha6,rfl,(by omega),rfl,BA (hc9 1 _ rfl),Be,Be,Ae⟩ ?_
  by_cases h12:(t:Int)<y11.Ci / 16
  ·refine A8 9 0 [0] [[o0,(ov (i6 (y11.Ci / 16))),o0,oF,o0,o0],[(ov (i6 ((i+1:Nat):Int))),o0]] [Wr (Int.tdiv (y11.Ci) 16) (y11.Ci / 16),BF ((y11.Ci / 16:Int)≤(t:Int)),Wr ((i:Int)+1) (((i+1:Nat):Int))] [(1,Ad t),(2,pt z),(QK x),(11,i6 ((i+1:Nat):Int))] rfl ⟨congrArg (Value.int .i64) (I5 (by omega) (by omega) (by omega)),bf,Be,Ae⟩ ?_
   refine Bz (fun a w' hs=>⟨x.Ag.xs.length - (i+1),by omega,n2,(i+1),rfl,by omega,by omega,upto hq0 (by rw[←hy11];exact decide_eq_false (by omega)),hs⟩)
  by_cases h13:(((y11.Ci+y11.CE) - 1) / 16:Int)<(t:Int)
  ·refine A8 9 0 [0] [[o0,(ov (i6 (y11.Ci / 16))),o0,oT,o0,o0,o0,(ov (i6 (((y11.Ci+y11.CE) - 1) / 16))),oF,o0],[(ov (i6 ((i+1:Nat):Int))),o0]] [Wr (Int.tdiv (y11.Ci) 16) (y11.Ci / 16),BT ((y11.Ci / 16:Int)≤(t:Int)),Wr (Int.tdiv ((y11.Ci+y11.CE) - 1) 16) (((y11.Ci+y11.CE) - 1) / 16),BF ((t:Int)≤(((y11.Ci+y11.CE) - 1) / 16)),Wr ((i:Int)+1) (((i+1:Nat):Int))] [(1,Ad t),(2,pt z),(QK x),(11,i6 ((i+1:Nat):Int))] rfl ⟨congrArg (Value.int .i64) (I5 (by omega) (by omega) (by omega)),bt,congrArg (Value.int .i64) (I5 (by omega) (by omega) (by omega)),bf,Be,Ae⟩ ?_
   refine Bz (fun a w' hs=>⟨x.Ag.xs.length - (i+1),by omega,n2,(i+1),rfl,by omega,by omega,upto hq0 (by rw[←hy11];exact decide_eq_false (by omega)),hs⟩)
  refine A8 9 0 [1] [[o0,(ov (i6 (y11.Ci / 16))),o0,oT,o0,o0,o0,(ov (i6 (((y11.Ci+y11.CE) - 1) / 16))),oT,o0],[o0]] [Wr (Int.tdiv (y11.Ci) 16) (y11.Ci / 16),BT ((y11.Ci / 16:Int)≤(t:Int)),Wr (Int.tdiv ((y11.Ci+y11.CE) - 1) 16) (((y11.Ci+y11.CE) - 1) / 16),BT ((t:Int)≤(((y11.Ci+y11.CE) - 1) / 16))] [(4,.bool true)] rfl ⟨congrArg (Value.int .i64) (I5 (by omega) (by omega) (by omega)),bt,congrArg (Value.int .i64) (I5 (by omega) (by omega) (by omega)),bt,Ae⟩ ?_
  refine AZ [] [] (.bool true) Ae ?_
  intro w14 hw14
  refine⟨congrArg (fun b=>Ending.returned (Value.bool b)) (Eq.symm (?_:FV x t=true)),Bg hw14⟩
  exact WY (k:=i) (by omega) (by rw[←hy11];exact decide_eq_true ⟨by omega,by omega⟩)
 refine A8 15 0 [0] [[oF],[o0]] [BF ((i:Int)<(x.Ag.xs.length:Int))] [(4,.bool false)] rfl ⟨bf,Ae⟩ ?_
 refine AZ [] [] (.bool false) Ae ?_
 intro w15 hw15
 refine⟨congrArg (fun b=>Ending.returned (Value.bool b)) (Eq.symm (?_:FV x t=false)),Bg hw15⟩
 exact YH (fun q hq=>hq0 q (by omega))
section
variable (z:Nat)(c:Af)(y11:Ah)
abbrev Uj:=bk z (Af.arr c) 26
abbrev MR:=(10,Ad c.Aa.xs.length)
abbrev QR:=(20,Ad y11.Ai.xs.length)
end
theorem Yy(w:World)(c:Af)(ch:Int)(hc:Af.ok Any w c):Calls Try.prog 16 #[.agg (Af.arr c),.int .i64 ch] w fun e w'=>e = .returned (.tuple #[.int .i64 (gd (Ba c ch true) 0).partition,.int .i64 (gd (Ba c ch true) 0).port])∧BN (fun _=>False) w w':=by
 obtain⟨z,hz⟩:∃ z,z=w.heap.size:=⟨_,rfl⟩
 refine BV (args:=[.agg (Af.arr c),i6 ch]) 52 ⟨w,z,[(Ak w)]⟩ Try.func16 rfl (by kernel_rfl) (by kernel_rfl) (Fv hz) ?_
 have hlP:=hc.Aa.1.len
 refine Eb [0,1] [(0,.agg (Af.arr c)),(1,i6 ch)] ?_
 refine q_c 10 0 [] [[o0,o0,o0],[o0,(a1 1),o0,o0]] [Qb z] [(1,i6 ch),(2,pt z),(MR c),(11,i6 0)] ⟨w,z+1,[(Ak w),(Uj z c)]⟩ rfl ⟨rfl,Ae⟩ ?_
 refine Ce (fun m a w'=>∃ (n2:Nat) (i:Nat),m=c.Aa.xs.length - i∧z+1≤n2∧(i≤c.Aa.xs.length)∧(Bv c ch true i=[])∧St 52 [(1,i6 ch),(2,pt z),(MR c),(11,Ad i)] [] ⟨w,n2,[(Ak w),(Uj z c)]⟩ a w') (c.Aa.xs.length - 0) ?_ ?_
 ·intro a w' hs;exact⟨(z+1),0,rfl,Nat.le_refl _,Nat.zero_le _,rfl,hs⟩
 rintro m a w' ⟨n2,i,rfl,hn1,hki,heu,hs⟩
 refine(?_:G Try.prog 52 [(1,i6 ch),(2,pt z),(MR c),(11,Ad i)] [] ⟨w,n2,[(Ak w),(Uj z c)]⟩ _ _ _) a w' hs
 clear hs a w'
 refine CP ?_
 by_cases h3:(i:Int)<(c.Aa.xs.length:Int)
 ·refine A8 14 0 [1] [[oT],[o0,o0]] [BT ((i:Int)<(c.Aa.xs.length:Int))] [(1,i6 ch),(2,pt z),(MR c),(11,Ad i),(6,Ad i)] rfl ⟨bt,Ae⟩ ?_
  obtain⟨b4,o5,ha6,hF8,hc7⟩:=(hc.Aa).1.all (show 0<c.Aa.xs.length by omega)
  replace ha6:c.Aa.a=some ⟨b4,o5,none⟩:=ha6
  have hc9:=hc7 i (show i<c.Aa.xs.length by omega)
  have he10:=(hc.Aa).2 i (show i<c.Aa.xs.length by omega)
  obtain⟨y11,hy11⟩:∃ y_,y_=gd c.Aa.xs i:=⟨_,rfl⟩
  rw[←hy11]at he10 hc9
  refine A8 4 0 [] [[o0,(Du 1 b4 o5 c.Aa),o0,(oi i),o0,(oa [.via 0 (.slice y11.Ai.a y11.Ai.xs.length y11.Ai.cap)]),o0,o0]] [Qb z,Df b4 o5 c.Aa,BI i,i<c.Aa.xs.length,Bq,Old w b4 (o5+i*8+7) (.slice y11.Ai.a y11.Ai.xs.length y11.Ai.cap)] [(1,i6 ch),(2,pt z),(6,Ad i),(MR c),(11,Ad i),(QR y11),(21,i6 0)] rfl ⟨rfl,Dh ha6,rfl,(by omega),rfl,BA (hc9 7 _ rfl),Ae⟩ ?_
  refine Ce (fun m a w'=>∃ (n13:Nat) (j:Nat),m=y11.Ai.xs.length - j∧n2≤n13∧(j≤y11.Ai.xs.length)∧(Bo i y11 ch true j=[])∧St 52 [(1,i6 ch),(2,pt z),(6,Ad i),(MR c),(11,Ad i),(QR y11),(21,Ad j)] [] ⟨w,n13,[(Ak w),(Uj z c)]⟩ a w') (y11.Ai.xs.length - 0) ?_ ?_
  ·intro a w' hs;exact⟨n2,0,rfl,Nat.le_refl _,Nat.zero_le _,rfl,hs⟩
  rintro m a w' ⟨n13,j,rfl,hn12,hkj,hpe,hs⟩
  refine(?_:G Try.prog 52 [(1,i6 ch),(2,pt z),(6,Ad i),(MR c),(11,Ad i),(QR y11),(21,Ad j)] [] ⟨w,n13,[(Ak w),(Uj z c)]⟩ _ _ _) a w' hs
  clear hs a w'
  have hlp:=he10.Ai.1.len
  refine CP ?_
  by_cases h14:(j:Int)<(y11.Ai.xs.length:Int)
  ·refine A8 14 0 [1] [[oT],[o0,o0]] [BT ((j:Int)<(y11.Ai.xs.length:Int))] [(1,i6 ch),(2,pt z),(6,Ad i),(MR c),(11,Ad i),(QR y11),(21,Ad j),(7,Ad j)] rfl ⟨bt,Ae⟩ ?_
   obtain⟨b15,o16,ha17,hF19,hc18⟩:=(he10.Ai).1.all (show 0<y11.Ai.xs.length by omega)
   replace ha17:y11.Ai.a=some ⟨b15,o16,none⟩:=ha17
   have hc20:=hc18 j (show j<y11.Ai.xs.length by omega)
   have he21:=(he10.Ai).2 j (show j<y11.Ai.xs.length by omega)
   obtain⟨y22,hy22⟩:∃ y_,y_=gd y11.Ai.xs j:=⟨_,rfl⟩
   rw[←hy22]at he21 hc20
   by_cases h23:(y22.Channel:Int)=ch
   ·refine A8 3 0 [] [[o0,(Du 1 b4 o5 c.Aa),o0,(oi i),o0,⟨.auto [.via 0 (.slice y11.Ai.a y11.Ai.xs.length y11.Ai.cap)],some (.slice (some ⟨b15,o16,none⟩) y11.Ai.xs.length y11.Ai.cap)⟩,o0,(oi j),o0,(oa [.via 0 (i6 y22.Channel)]),o0,oT,o0,o0,(Du 1 b4 o5 c.Aa),o0,(oi i),o0,⟨.auto [.via 0 (.slice y11.Ai.a y11.Ai.xs.length y11.Ai.cap)],some (.slice (some ⟨b15,o16,none⟩) y11.Ai.xs.length y11.Ai.cap)⟩,o0,(oi j),o0,(oa [.via 0 (.bool y22.Source)]),o0]] [Qb z,Df b4 o5 c.Aa,BI i,i<c.Aa.xs.length,Bq,Old w b4 (o5+i*8+7) (.slice y11.Ai.a y11.Ai.xs.length y11.Ai.cap),Df b15 o16 y11.Ai,BI j,j<y11.Ai.xs.length,Bq,Old w b15 (o16+j*2) (i6 y22.Channel),ET y22.Channel ch,Qb z,Df b4 o5 c.Aa,BI i,i<c.Aa.xs.length,Bq,Old w b4 (o5+i*8+7) (.slice y11.Ai.a y11.Ai.xs.length y11.Ai.cap),Df b15 o16 y11.Ai,BI j,j<y11.Ai.xs.length,Bq,Old w b15 (o16+j*2+1) (.bool y22.Source)] [(1,i6 ch),(2,pt z),(6,Ad i),(MR c),(11,Ad i),(QR y11),(21,Ad j),(7,Ad j),(47,.bool y22.Source)] rfl ⟨rfl,Dh ha6,rfl,(by omega),rfl,BA (hc9 7 _ rfl),Dh ha17,rfl,(by omega),rfl,BA (hc20 0 _ rfl),et,rfl,Dh ha6,rfl,(by omega),rfl,BA (hc9 7 _ rfl),Dh ha17,rfl,(by omega),rfl,BA (hc20 1 _ rfl),Ae⟩ ?_
    by_cases h24:y22.Source=true
    ·refine A8 6 0 [3] [[o0,o0,o0,o0]] [Value.bool y22.Source=Value.bool true] [(4,Ad i),(5,Ad j)] rfl ⟨(congrArg Value.bool h24),Ae⟩ ?_
     refine AZ [] [] (.tuple #[(Ad i),Ad j]) Ae ?_
     intro w25 hw25
     have hg:=ZP (i:=i) (j:=j) (by omega) (by rw[←hy11];omega) heu (by rw[←hy11];exact hpe) (by rw[←hy11,←hy22];exact UJ (by omega) (by revert h24;cases y22.Source <;> simp))
     refine⟨?_,Bg hw25⟩
     rw[hg]
    refine A8 6 0 [2] [[(ov (i6 ((j+1:Nat):Int))),o0]] [Value.bool y22.Source=Value.bool false,Wr ((j:Int)+1) (((j+1:Nat):Int))] [(1,i6 ch),(2,pt z),(6,Ad i),(MR c),(11,Ad i),(QR y11),(21,i6 ((j+1:Nat):Int))] rfl ⟨(congrArg Value.bool (Bool.eq_false_iff.2 h24)),Be,Ae⟩ ?_
    refine Bz (fun a w' hs=>⟨y11.Ai.xs.length - (j+1),by omega,n13,(j+1),rfl,by omega,by omega,by rw[J6 (by rw[←hy22];exact Tn (by revert h24;cases y22.Source <;> simp))];exact hpe,hs⟩)
   refine A8 9 0 [0] [[o0,(Du 1 b4 o5 c.Aa),o0,(oi i),o0,⟨.auto [.via 0 (.slice y11.Ai.a y11.Ai.xs.length y11.Ai.cap)],some (.slice (some ⟨b15,o16,none⟩) y11.Ai.xs.length y11.Ai.cap)⟩,o0,(oi j),o0,(oa [.via 0 (i6 y22.Channel)]),o0,oF,o0,o0],[(ov (i6 ((j+1:Nat):Int))),o0]] [Qb z,Df b4 o5 c.Aa,BI i,i<c.Aa.xs.length,Bq,Old w b4 (o5+i*8+7) (.slice y11.Ai.a y11.Ai.xs.length y11.Ai.cap),Df b15 o16 y11.Ai,BI j,j<y11.Ai.xs.length,Bq,Old w b15 (o16+j*2) (i6 y22.Channel),EF y22.Channel ch,Wr ((j:Int)+1) (((j+1:Nat):Int))] [(1,i6 ch),(2,pt z),(6,Ad i),(MR c),(11,Ad i),(QR y11),(21,i6 ((j+1:Nat):Int))] rfl ⟨rfl,Dh ha6,rfl,(by omega),rfl,BA (hc9 7 _ rfl),Dh ha17,rfl,(by omega),rfl,BA (hc20 0 _ rfl),ef,Be,Ae⟩ ?_
   refine Bz (fun a w' hs=>⟨y11.Ai.xs.length - (j+1),by omega,n13,(j+1),rfl,by omega,by omega,by rw[J6 (by rw[←hy22];exact Uy (by omega))];exact hpe,hs⟩)
  refine A8 13 0 [0] [[oF],[(ov (i6 ((i+1:Nat):Int))),o0]] [BF ((j:Int)<(y11.Ai.xs.length:Int)),Wr ((i:Int)+1) (((i+1:Nat):Int))] [(1,i6 ch),(2,pt z),(MR c),(11,i6 ((i+1:Nat):Int))] rfl ⟨bf,Be,Ae⟩ ?_
  refine Bz (fun a w' hs=>⟨c.Aa.xs.length - (i+1),by omega,n13,(i+1),rfl,by omega,by omega,by rw[JU,heu,←hy11,show y11.Ai.xs.length=j by omega];exact hpe,hs⟩)
 refine A8 15 0 [0] [[oF],[o0,o0]] [BF ((i:Int)<(c.Aa.xs.length:Int))] [(4,i6 0),(5,i6 0)] rfl ⟨bf,Ae⟩ ?_
 refine AZ [] [] (.tuple #[i6 0,i6 0]) Ae ?_
 intro w26 hw26
 have e0:i=c.Aa.xs.length:=by omega
 subst e0
 have hg:=no_end heu
 refine⟨?_,Bg hw26⟩
 rw[hg]
structure Ap where
 At:Int
 Size:Int
 Au:A7
 deriving Inhabited,DecidableEq
def Ap.cells(x:Ap):List Value:=[.int .i64 x.At]++[.int .i64 x.Size]++A7.cells x.Au
abbrev Ap.arr(x:Ap):Array Value:= #[.int .i64 x.At,.int .i64 x.Size,.int .i64 x.Au.Kind,.int .i64 x.Au.Index,.int .i64 x.Au.Port]
structure Ap.ok(F:Nat→Prop)(W:World)(x:Ap):Prop where
 At:Fb .i64 x.At
 Size:Fb .i64 x.Size
 Au:A7.ok F W x.Au
theorem Ap.ok.ext{F F':Nat→Prop}{W W':World}(he:Ext F W W')(hF:∀ b,F b→F' b){x:Ap}(h:Ap.ok F W x):Ap.ok F' W' x:=⟨h.At,h.Size,A7.ok.ext he hF h.Au⟩
def GM(c:Af)(i:Nat):List Ap:=[⟨Bi c i,2,⟨3,(i:Int),0⟩⟩,⟨Bi c i+2,17,⟨4,(i:Int),0⟩⟩,⟨Bi c i+2+17,5,⟨5,(i:Int),0⟩⟩]
def Ei(c:Af)(i:Nat):List Ap:=[⟨16*c.Kernel,2,⟨2,0,0⟩⟩]++(List.range i).flatMap (GM c)
def Ku(c:Af)(k:Nat)(e:Ee)(j:Nat):Ap:=⟨F9 c k j,portOf (gd c.Ac.xs k),⟨8,e.partition,e.port⟩⟩
def Gm(c:Af)(k:Nat)(l:List Ee):List Ap:=(List.range l.length).map (fun j=>Ku c k (gd l j) j)
def Ny(c:Af)(k:Nat):List Ap:=[⟨Bc c k,2,⟨6,(k:Int),0⟩⟩,⟨Bc c k+2,AB (gd c.Ac.xs k),⟨7,(k:Int),0⟩⟩]++Gm c k (Ba c (k:Int) false)
def DW(c:Af)(k:Nat):List Ap:=(List.range k).flatMap (Ny c)
def D5(c:Af)(p n:Nat):List Ap:=(List.range n).map (fun(u:Nat)=>(⟨16*(C9 c p+(u:Int)),16,⟨9,(p:Int),0⟩⟩:Ap))
def KG(c:Af)(p:Nat):List Ap:=(List.range p).flatMap (fun p=>D5 c p (1+Fq (gd c.Aa.xs p)))
def AU(c:Af):List Ap:=Ei c c.Aa.xs.length++DW c c.Ac.xs.length++KG c c.Aa.xs.length
theorem TZ{c:Af}{i:Nat}:Ei c (i+1)=Ei c i++[⟨Bi c i,2,⟨3,(i:Int),0⟩⟩]++[⟨Bi c i+2,17,⟨4,(i:Int),0⟩⟩]++[⟨Bi c i+2+17,5,⟨5,(i:Int),0⟩⟩]:=by
 unfold Ei;rw[List.range_succ,List.flatMap_append];simp[GM]
theorem Xo{c:Af}:∀ (i:Nat),(Ei c i).length=1+3*i
 | 0=>rfl
 | i+1=>by rw[TZ];simp[Xo i];omega
theorem RS{c:Af}{k:Nat}{l:List Ee}:(Gm c k l).length=l.length:=by simp[Gm]
theorem Y2{c:Af}{k:Nat}{l:List Ee}{e:Ee}:Gm c k (l++[e])=Gm c k l++[Ku c k e l.length]:=by
 unfold Gm
 rw[List.length_append,List.length_singleton,List.range_succ,List.map_append]
 congr 1
 ·refine List.map_congr_left fun j hj => ?_
  rw[LK (List.mem_range.1 hj)]
 simp only[List.map_cons,List.map_nil,Xn]
theorem QX{c:Af}{k:Nat}:DW c (k+1)=DW c k++Ny c k:=by unfold DW;rw[List.range_succ,List.flatMap_append];simp
theorem UV{c:Af}(hf:Fine c):∀ (k:Nat),k≤c.Ac.xs.length→(DW c k).length≤6*k
 | 0,_=>by simp[DW]
 | k+1,h=>by
  have h1:=UV hf k (by omega)
  have h2:=hf.TP (show k<c.Ac.xs.length by omega)
  unfold Gg at h2
  rw[QX,Ny,List.length_append,List.length_append,RS]
  simp only[List.length_cons,List.length_nil];omega
theorem Ob{c:Af}{p n:Nat}:D5 c p (n+1)=D5 c p n++[⟨16*(C9 c p+(n:Int)),16,⟨9,(p:Int),0⟩⟩]:=by unfold D5;rw[List.range_succ,List.map_append];rfl
theorem Qn{c:Af}{p n:Nat}:(D5 c p n).length=n:=by simp[D5]
theorem TY{c:Af}{p:Nat}:KG c (p+1)=KG c p++D5 c p (1+Fq (gd c.Aa.xs p)):=by unfold KG;rw[List.range_succ,List.flatMap_append];simp
theorem WX{c:Af}:∀ (p:Nat),(KG c p).length≤17*p
 | 0=>by simp[KG]
 | p+1=>by
  have h1:=WX (c:=c) p
  have h2:=Oy (gd c.Aa.xs p)
  rw[TY,List.length_append,Qn];omega
theorem pieces_len{c:Af}(hf:Fine c):(AU c).length≤400:=by
 have h1:=Xo (c:=c) c.Aa.xs.length
 have h2:=UV hf c.Ac.xs.length (Nat.le_refl _)
 have h3:=WX (c:=c) c.Aa.xs.length
 have hpn:=hf.pn;have hcn:=hf.cn
 unfold AU
 rw[List.length_append,List.length_append];omega
theorem Zd{c:Af}{k j:Nat}(hj:j≤64):Bc c k≤F9 c k j∧F9 c k j≤Bc c k+9100:=by
 have h1:=KE (gd c.Ac.xs k)
 have h2:=P6 (gd c.Ac.xs k)
 unfold F9
 have h4:=Int.mul_nonneg (show(0:Int)≤(j:Int)by omega) h2.1
 have h5:=Int.mul_le_mul (show(j:Int)≤64 by omega) h2.2 h2.1 (by omega)
 omega
theorem YV{x:Ah}(hr:∀ i,i<x.Ag.xs.length→I7 (gd x.Ag.xs i)=true):(List.range 16).countP (fun b=>FV x b)=Fq x:=by
 unfold Fq
 congr 1
 funext b
 exact ZY hr b
theorem Yd(w:World)(c:Af)(hc:Af.ok Any w c)(h:BZ c=true):Calls Try.prog 15 #[.agg (Af.arr c)] w fun e w'=>e = .returned (.bool true)∧BN (fun _=>False) w w':=by
 have:=WI w c hc
 rwa [h]at this
theorem Zf(w:World)(c:Af)(hc:Af.ok Any w c)(h:BZ c=false):Calls Try.prog 15 #[.agg (Af.arr c)] w fun e w'=>e = .returned (.bool false)∧BN (fun _=>False) w w':=by
 have:=WI w c hc
 rwa [h]at this
section
variable (n36:Nat)(c:Af)(k:Nat)(y30:Aw)(n10 i:Nat)(n21 z n6:Nat)(aR3:Option Addr)(p:Nat)(y55:Ah)(q cR3:Nat)(aR2:Option Addr)(cR2:Nat)(aR7:Option Addr)(u cR7:Nat)(aR5:Option Addr)(cR5:Nat)(aR1:Option Addr)(cR1:Nat)(ax72:Option Addr)(cp73:Nat)(ax16:Option Addr)(cp17:Nat)(ax38:Option Addr)(cp39 t:Nat)(w:World)
abbrev I4:=bk n36 #[i6 ((Bc c k)+2),i6 (AB y30),i6 7,Ad k,i6 0] 66
abbrev VF:=bk n10 #[i6 ((Bi c i)+2),i6 17,i6 4,Ad i,i6 0] 66
abbrev Io:=bk (n21+1) #[i6 (Bc c k),i6 2,i6 6,Ad k,i6 0] 66
abbrev DI:=bk (z+1) #[i6 (16*c.Kernel),i6 2,i6 2,i6 0,i6 0] 66
abbrev Uk:=bk n6 #[i6 (Bi c i),i6 2,i6 3,Ad i,i6 0] 66
abbrev Il:=bk n21 (Aw.arr y30) 77
abbrev DF:=bk z (Af.arr c) 26
abbrev OW:=AV z 66 5 Ap.cells (.slice aR3 ((Ei c i++DW c k++[(⟨Bc c k,2,(⟨6,(k:Int),0⟩:A7)⟩:Ap)]++[(⟨Bc c k+2,AB y30,(⟨7,(k:Int),0⟩:A7)⟩:Ap)]++Gm c k (Bv c (k:Int) false p++Bo p y55 (k:Int) false q)).length) cR3) (Ei c i++DW c k++[(⟨Bc c k,2,(⟨6,(k:Int),0⟩:A7)⟩:Ap)]++[(⟨Bc c k+2,AB y30,(⟨7,(k:Int),0⟩:A7)⟩:Ap)]++Gm c k (Bv c (k:Int) false p++Bo p y55 (k:Int) false q))
abbrev JH:=AV z 66 5 Ap.cells (.slice aR2 ((Ei c i++DW c k++[(⟨Bc c k,2,(⟨6,(k:Int),0⟩:A7)⟩:Ap)]++[(⟨Bc c k+2,AB y30,(⟨7,(k:Int),0⟩:A7)⟩:Ap)]++Gm c k (Bv c (k:Int) false p)).length) cR2) (Ei c i++DW c k++[(⟨Bc c k,2,(⟨6,(k:Int),0⟩:A7)⟩:Ap)]++[(⟨Bc c k+2,AB y30,(⟨7,(k:Int),0⟩:A7)⟩:Ap)]++Gm c k (Bv c (k:Int) false p))
abbrev Tt:=AV z 66 5 Ap.cells (.slice aR7 ((Ei c i++DW c k++KG c p++D5 c p u).length) cR7) (Ei c i++DW c k++KG c p++D5 c p u)
abbrev MC:=AV z 66 5 Ap.cells (.slice aR5 ((Ei c i++DW c k++KG c p).length) cR5) (Ei c i++DW c k++KG c p)
abbrev GX:=AV z 66 5 Ap.cells (.slice aR1 ((Ei c i++DW c k).length) cR1) (Ei c i++DW c k)
abbrev Vm:Dq:=(3,.slice ax72 ((Ei c i++DW c k++[(⟨Bc c k,2,(⟨6,(k:Int),0⟩:A7)⟩:Ap)]++[(⟨Bc c k+2,AB y30,(⟨7,(k:Int),0⟩:A7)⟩:Ap)]++Gm c k (Bv c (k:Int) false p++Bo p y55 (k:Int) false q)++[(⟨F9 c k (Bv c (k:Int) false p++Bo p y55 (k:Int) false q).length,portOf y30,(⟨8,(p:Int),(q:Int)⟩:A7)⟩:Ap)]).length) cp73)
abbrev Vk:Dq:=(125,.slice aR3 ((Ei c i++DW c k++[(⟨Bc c k,2,(⟨6,(k:Int),0⟩:A7)⟩:Ap)]++[(⟨Bc c k+2,AB y30,(⟨7,(k:Int),0⟩:A7)⟩:Ap)]++Gm c k (Bv c (k:Int) false p++Bo p y55 (k:Int) false q)).length) cR3)
abbrev Jy:Dq:=(3,.slice aR3 ((Ei c i++DW c k++[(⟨Bc c k,2,(⟨6,(k:Int),0⟩:A7)⟩:Ap)]++[(⟨Bc c k+2,AB y30,(⟨7,(k:Int),0⟩:A7)⟩:Ap)]++Gm c k (Bv c (k:Int) false p++Bo p y55 (k:Int) false q)).length) cR3)
abbrev UY:Dq:=(3,.slice ax16 ((((Ei c i++[(⟨Bi c i,2,(⟨3,(i:Int),0⟩:A7)⟩:Ap)])++[(⟨(Bi c i)+2,17,(⟨4,(i:Int),0⟩:A7)⟩:Ap)])++[(⟨((Bi c i)+2)+17,5,(⟨5,(i:Int),0⟩:A7)⟩:Ap)]).length) cp17)
abbrev GZ:Dq:=(3,.slice aR2 ((Ei c i++DW c k++[(⟨Bc c k,2,(⟨6,(k:Int),0⟩:A7)⟩:Ap)]++[(⟨Bc c k+2,AB y30,(⟨7,(k:Int),0⟩:A7)⟩:Ap)]++Gm c k (Bv c (k:Int) false p)).length) cR2)
abbrev Xf:Dq:=(3,.slice ax38 (((Ei c i++DW c k++[(⟨Bc c k,2,(⟨6,(k:Int),0⟩:A7)⟩:Ap)])++[(⟨(Bc c k)+2,AB y30,(⟨7,(k:Int),0⟩:A7)⟩:Ap)]).length) cp39)
abbrev SQ:=(12,i6 (((1+(List.range t).countP (fun b=>FV (gd c.Aa.xs p) b))+1:Nat):Int))
abbrev NJ:=(166,i6 ((1+(List.range t).countP (fun b=>FV (gd c.Aa.xs p) b):Nat):Int))
abbrev JW:=(12,i6 ((1+(List.range t).countP (fun b=>FV (gd c.Aa.xs p) b):Nat):Int))
abbrev IQ:=(4,i6 (F9 c k (Bv c (k:Int) false p++Bo p y55 (k:Int) false q).length))
abbrev Ha:=(4,i6 (F9 c k (Bv c (k:Int) false p).length))
abbrev Hf:Dq:=(3,.slice aR5 ((Ei c i++DW c k++KG c p).length) cR5)
abbrev EW:=(149,Ad c.Aa.xs.length)
abbrev FB:=(27,Ad c.Aa.xs.length)
abbrev Es:=(93,Ad c.Aa.xs.length)
abbrev Dk:=(60,Ad c.Ac.xs.length)
abbrev GU:=(103,Ad y55.Ai.xs.length)
abbrev FQ:Dq:=(3,.slice aR1 ((Ei c i++DW c k).length) cR1)
abbrev OE:=(4,i6 (16*(C9 c p+(u:Int))))
abbrev Nk:=(104,i6 ((q+1:Nat):Int))
abbrev DT:=(7,pt n21)
abbrev MX:=[(Ak w),(DF c z),(DI c z),(OW c k y30 i z aR3 p y55 q cR3),(Il y30 n21),(Io c k n21),(I4 n36 c k y30)]
end
theorem Ud(w:World)(c:Af)(hc:Af.ok Any w c)(hok:BZ c=true):Calls Try.prog 17 #[.agg (Af.arr c)] w fun e w'=>∃ a cp,e = .returned (.slice a (AU c).length cp)∧Jd Ap.cells 5 (New w.heap.size) w' ⟨a,cp,AU c⟩∧BN (fun _=>False) w w':=by
 obtain⟨z,hz⟩:∃ z,z=w.heap.size:=⟨_,rfl⟩
 refine BV (args:=[.agg (Af.arr c)]) 181 ⟨w,z,[(Ak w)]⟩ Try.func17 rfl (by kernel_rfl) (by kernel_rfl) (Fv hz) ?_
 have hfine:=MW hok;have hkn:=hfine.kn;have hpn:=hfine.pn;have hcn:=hfine.cn;have h8:∀ i,i<c.Aa.xs.length→(gd c.Aa.xs i).Ai.xs.length≤8:=fun i hi=>MG (hfine.parts i hi)
 refine Eb [0] [(0,.agg (Af.arr c))] ?_
 refine q_c 14 5 [] [[o0,o0],[o0],[o0,(a1 1),(ov (i6 (16*c.Kernel))),o0],[o0,o0,o0,o0,o0]] [Qb z,Wr ((16:Int)*c.Kernel) (16*c.Kernel)] [(1,pt z),(4,i6 (16*c.Kernel)),(17,.slice none 0 0),(21,.slice (some ⟨z+1,0,none⟩) 1 1)] ⟨w,z+2,[(Ak w),(DF c z),(DI c z)]⟩ rfl ⟨rfl,Be,Ae⟩ ?_
 refine Pn z 66 5 Ap.cells ?_
 refine Fe z 3 2 ([]) [(⟨16*c.Kernel,2,(⟨2,0,0⟩:A7)⟩:Ap)] Ap.cells 66 5 40 (.slice none 0 0) (z+1) 1 1 #[i6 (16*c.Kernel),i6 2,i6 2,i6 0,i6 0] 66 (0,0) true (some 22) (by simp only[List.length_cons,List.length_nil,List.length_append];omega) (show z≤z+2 by omega) (fun ax1 cp2 n3 (hn4:z+2≤n3) => ?_)
 refine Di 12 0 [] [[o0],[o0,(ov (i6 ((16*c.Kernel)+2))),o0],[o0,(a1 1),o0,o0]] [Wr ((16*c.Kernel:Int)+2) ((16*c.Kernel)+2),Qb z] [(1,pt z),(3,.slice ax1 (([]++[(⟨16*c.Kernel,2,(⟨2,0,0⟩:A7)⟩:Ap)]).length) cp2),(4,i6 ((16*c.Kernel)+2)),(FB c),(28,i6 0)] rfl ⟨Be,rfl,Ae⟩ ?_
 refine Ce (fun m a w'=>∃ (n6:Nat) (i:Nat) (aR0:Option Addr) (cR0:Nat),m=c.Aa.xs.length - i∧n3≤n6∧(i≤c.Aa.xs.length)∧St 181 [(1,pt z),(3,.slice aR0 ((Ei c i).length) cR0),(4,i6 (Bi c i)),(FB c),(28,Ad i)] [] ⟨w,n6,[(Ak w),(DF c z),(DI c z),(AV z 66 5 Ap.cells (.slice aR0 ((Ei c i).length) cR0) (Ei c i))]⟩ a w') (c.Aa.xs.length - 0) ?_ ?_
 ·intro a w' hs;exact⟨n3,0,ax1,cp2,rfl,Nat.le_refl _,Nat.zero_le _,by(try dsimp only[DI,DF,FB]at hs ⊢);rw[show Bi c 0=(16*c.Kernel)+2 from by unfold Bi;omega];exact hs⟩
 rintro m a w' ⟨n6,i,aR0,cR0,rfl,hn5,hki,hs⟩
 refine(?_:G Try.prog 181 [(1,pt z),(3,.slice aR0 ((Ei c i).length) cR0),(4,i6 (Bi c i)),(FB c),(28,Ad i)] [] ⟨w,n6,[(Ak w),(DF c z),(DI c z),(AV z 66 5 Ap.cells (.slice aR0 ((Ei c i).length) cR0) (Ei c i))]⟩ _ _ _) a w' hs
 clear hs a w'
 have hpA:Bi c i=c.Kernel*16+2+24*(i:Int):=rfl
 have hlp:=Xo (c:=c) i
 refine CP ?_
 by_cases h7:(i:Int)<(c.Aa.xs.length:Int)
 ·refine q_c 15 6 [1] [[oT],[o0,o0],[o0,o0,o0,o0,o0,o0]] [BT ((i:Int)<(c.Aa.xs.length:Int))] [(1,pt z),(4,i6 (Bi c i)),(FB c),(28,Ad i),(5,Ad i),(31,.slice aR0 ((Ei c i).length) cR0),(36,.slice (some ⟨n6,0,none⟩) 1 1)] ⟨w,n6+1,[(Ak w),(DF c z),(DI c z),(AV z 66 5 Ap.cells (.slice aR0 ((Ei c i).length) cR0) (Ei c i)),(Uk c i n6)]⟩ rfl ⟨bt,Ae⟩ ?_
  refine Fe z 3 4 (Ei c i) [(⟨Bi c i,2,(⟨3,(i:Int),0⟩:A7)⟩:Ap)] Ap.cells 66 5 40 (.slice aR0 ((Ei c i).length) cR0) n6 1 1 #[i6 (Bi c i),i6 2,i6 3,Ad i,i6 0] 66 (0,0) true (some 37) (by simp only[List.length_cons,List.length_nil,List.length_append];omega) (show z≤n6+1 by omega) (fun ax8 cp9 n10 (hn11:n6+1≤n10) => ?_)
  refine Hu 4 7 [] [[o0],[o0,o0,(ov (i6 ((Bi c i)+2))),o0,o0,o0,o0]] [Wr ((Bi c i:Int)+2) ((Bi c i)+2)] [(1,pt z),(4,i6 (Bi c i)),(FB c),(28,Ad i),(5,Ad i),(38,.slice ax8 ((Ei c i++[(⟨Bi c i,2,(⟨3,(i:Int),0⟩:A7)⟩:Ap)]).length) cp9),(44,.slice (some ⟨n10,0,none⟩) 1 1)] ⟨w,n10+1,[(Ak w),(DF c z),(DI c z),(AV z 66 5 Ap.cells (.slice ax8 ((Ei c i++[(⟨Bi c i,2,(⟨3,(i:Int),0⟩:A7)⟩:Ap)]).length) cp9) (Ei c i++[(⟨Bi c i,2,(⟨3,(i:Int),0⟩:A7)⟩:Ap)])),(Uk c i n6),(VF c n10 i)]⟩ rfl ⟨Be,Ae⟩ ?_
  refine Fe z 3 5 (Ei c i++[(⟨Bi c i,2,(⟨3,(i:Int),0⟩:A7)⟩:Ap)]) [(⟨(Bi c i)+2,17,(⟨4,(i:Int),0⟩:A7)⟩:Ap)] Ap.cells 66 5 40 (.slice ax8 ((Ei c i++[(⟨Bi c i,2,(⟨3,(i:Int),0⟩:A7)⟩:Ap)]).length) cp9) n10 1 1 #[i6 ((Bi c i)+2),i6 17,i6 4,Ad i,i6 0] 66 (0,0) true (some 45) (by simp only[List.length_cons,List.length_nil,List.length_append];omega) (show z≤n10+1 by omega) (fun ax12 cp13 n14 (hn15:n10+1≤n14) => ?_)
  refine Hu 4 8 [] [[o0],[o0,o0,(ov (i6 ((Bi c i)+2))),(ov (i6 (((Bi c i)+2)+17))),o0,o0,o0,o0]] [Wr ((Bi c i:Int)+2) ((Bi c i)+2),Wr (((Bi c i)+2:Int)+17) (((Bi c i)+2)+17)] [(1,pt z),(4,i6 (Bi c i)),(FB c),(28,Ad i),(46,.slice ax12 (((Ei c i++[(⟨Bi c i,2,(⟨3,(i:Int),0⟩:A7)⟩:Ap)])++[(⟨(Bi c i)+2,17,(⟨4,(i:Int),0⟩:A7)⟩:Ap)]).length) cp13),(53,.slice (some ⟨n14,0,none⟩) 1 1)] ⟨w,n14+1,[(Ak w),(DF c z),(DI c z),(AV z 66 5 Ap.cells (.slice ax12 (((Ei c i++[(⟨Bi c i,2,(⟨3,(i:Int),0⟩:A7)⟩:Ap)])++[(⟨(Bi c i)+2,17,(⟨4,(i:Int),0⟩:A7)⟩:Ap)]).length) cp13) ((Ei c i++[(⟨Bi c i,2,(⟨3,(i:Int),0⟩:A7)⟩:Ap)])++[(⟨(Bi c i)+2,17,(⟨4,(i:Int),0⟩:A7)⟩:Ap)])),(Uk c i n6),(VF c n10 i),(bk n14 #[i6 (((Bi c i)+2)+17),i6 5,i6 5,Ad i,i6 0] 66)]⟩ rfl ⟨Be,Be,Ae⟩ ?_
  refine Fe z 3 6 ((Ei c i++[(⟨Bi c i,2,(⟨3,(i:Int),0⟩:A7)⟩:Ap)])++[(⟨(Bi c i)+2,17,(⟨4,(i:Int),0⟩:A7)⟩:Ap)]) [(⟨((Bi c i)+2)+17,5,(⟨5,(i:Int),0⟩:A7)⟩:Ap)] Ap.cells 66 5 40 (.slice ax12 (((Ei c i++[(⟨Bi c i,2,(⟨3,(i:Int),0⟩:A7)⟩:Ap)])++[(⟨(Bi c i)+2,17,(⟨4,(i:Int),0⟩:A7)⟩:Ap)]).length) cp13) n14 1 1 #[i6 (((Bi c i)+2)+17),i6 5,i6 5,Ad i,i6 0] 66 (0,0) true (some 54) (by simp only[List.length_cons,List.length_nil,List.length_append];omega) (show z≤n14+1 by omega) (fun ax16 cp17 n18 (hn19:n14+1≤n18) => ?_)
  refine Di 8 0 [] [[o0],[o0,(ov (i6 ((Bi c i)+24))),o0],[(ov (i6 ((i+1:Nat):Int))),o0]] [Wr ((Bi c i:Int)+24) ((Bi c i)+24),Wr ((i:Int)+1) (((i+1:Nat):Int))] [(1,pt z),(4,i6 ((Bi c i)+24)),(FB c),(28,i6 ((i+1:Nat):Int)),(UY c i ax16 cp17)] rfl ⟨Be,Be,Ae⟩ ?_
  refine BO [0,1,2,3] [(Ak w),(DF c z),(DI c z),(AV z 66 5 Ap.cells (.slice ax16 ((((Ei c i++[(⟨Bi c i,2,(⟨3,(i:Int),0⟩:A7)⟩:Ap)])++[(⟨(Bi c i)+2,17,(⟨4,(i:Int),0⟩:A7)⟩:Ap)])++[(⟨((Bi c i)+2)+17,5,(⟨5,(i:Int),0⟩:A7)⟩:Ap)]).length) cp17) (((Ei c i++[(⟨Bi c i,2,(⟨3,(i:Int),0⟩:A7)⟩:Ap)])++[(⟨(Bi c i)+2,17,(⟨4,(i:Int),0⟩:A7)⟩:Ap)])++[(⟨((Bi c i)+2)+17,5,(⟨5,(i:Int),0⟩:A7)⟩:Ap)]))] rfl rfl ?_
  refine Dp [1,3,4,27,28] [(1,pt z),(UY c i ax16 cp17),(4,i6 ((Bi c i)+24)),(FB c),(28,i6 ((i+1:Nat):Int))] ?_
  refine Bz (fun a w' hs=>⟨c.Aa.xs.length - (i+1),by omega,n18,(i+1),ax16,cp17,rfl,by omega,by omega,by(try dsimp only[VF,DI,Uk,DF,UY,FB]at hs ⊢);rw[show Bi c (i+1)=(Bi c i)+24 from by unfold Bi;omega,TZ];exact hs⟩)
 refine A8 16 0 [0] [[oF],[o0,(a1 1),o0,o0]] [BF ((i:Int)<(c.Aa.xs.length:Int)),Qb z] [(1,pt z),(3,.slice aR0 ((Ei c i).length) cR0),(4,i6 (Bi c i)),(Dk c),(61,i6 0)] rfl ⟨bf,rfl,Ae⟩ ?_
 refine Ce (fun m a w'=>∃ (n21:Nat) (k:Nat) (aR1:Option Addr) (cR1:Nat),m=c.Ac.xs.length - k∧n6≤n21∧(k≤c.Ac.xs.length)∧St 181 [(1,pt z),(FQ c k i aR1 cR1),(4,i6 (Bc c k)),(Dk c),(61,Ad k)] [] ⟨w,n21,[(Ak w),(DF c z),(DI c z),(GX c k i z aR1 cR1)]⟩ a w') (c.Ac.xs.length - 0) ?_ ?_
 ·intro a w' hs;exact⟨n6,0,aR0,cR0,rfl,Nat.le_refl _,Nat.zero_le _,by(try dsimp only[VF,DI,Uk,DF,GX,UY,FB,Dk,FQ]at hs ⊢);rw[show DW c 0=[]from rfl,List.append_nil,show Bc c 0=Bi c i from by rw[show i=c.Aa.xs.length by omega];rfl];exact hs⟩
 rintro m a w' ⟨n21,k,aR1,cR1,rfl,hn20,hkk,hs⟩
 refine(?_:G Try.prog 181 [(1,pt z),(FQ c k i aR1 cR1),(4,i6 (Bc c k)),(Dk c),(61,Ad k)] [] ⟨w,n21,[(Ak w),(DF c z),(DI c z),(GX c k i z aR1 cR1)]⟩ _ _ _) a w' hs
 clear hs a w'
 have hcb:=PZ hfine k (by omega)
 have hp0:Bi c c.Aa.xs.length=c.Kernel*16+2+24*(c.Aa.xs.length:Int):=rfl
 have hlc:=UV hfine k (by omega)
 refine CP ?_
 by_cases h22:(k:Int)<(c.Ac.xs.length:Int)
 ·refine A8 14 0 [1] [[oT],[o0,o0]] [BT ((k:Int)<(c.Ac.xs.length:Int))] [(1,pt z),(FQ c k i aR1 cR1),(4,i6 (Bc c k)),(Dk c),(61,Ad k),(6,Ad k)] rfl ⟨bt,Ae⟩ ?_
  obtain⟨b23,o24,ha25,hF27,hc26⟩:=(hc.Ac).1.all (show 0<c.Ac.xs.length by omega)
  replace ha25:c.Ac.a=some ⟨b23,o24,none⟩:=ha25
  have hc28:=hc26 k (show k<c.Ac.xs.length by omega)
  have he29:=(hc.Ac).2 k (show k<c.Ac.xs.length by omega)
  obtain⟨y30,hy30⟩:∃ y_,y_=gd c.Ac.xs k:=⟨_,rfl⟩
  rw[←hy30]at he29 hc28
  have hsb:=KE y30;have hpb:=P6 y30;have hlb:=WT hfine (show k<c.Ac.xs.length by omega)
  refine q_c 5 6 [] [[o0,(Du 1 b23 o24 c.Ac),o0,(oi k),(ol 0 (Aw.arr y30)),o0,(an 3 4)],[o0,o0,o0,o0,o0,o0]] [Qb z,Df b23 o24 c.Ac,BI k,k<c.Ac.xs.length,Bq,Eh w b23 (o24+k*3) (Aw.arr y30),Qb n21,Qb n21,Qb n21] [(1,pt z),(4,i6 (Bc c k)),(Dk c),(61,Ad k),(6,Ad k),(DT n21),(69,.slice aR1 ((Ei c i++DW c k).length) cR1),(74,.slice (some ⟨n21+1,0,none⟩) 1 1)] ⟨w,n21+2,[(Ak w),(DF c z),(DI c z),(GX c k i z aR1 cR1),(Il y30 n21),(Io c k n21)]⟩ rfl ⟨rfl,Dh ha25,rfl,(by omega),rfl,CB hc28,rfl,rfl,rfl,Ae⟩ ?_
  refine Fe z 3 5 (Ei c i++DW c k) [(⟨Bc c k,2,(⟨6,(k:Int),0⟩:A7)⟩:Ap)] Ap.cells 66 5 40 (.slice aR1 ((Ei c i++DW c k).length) cR1) (n21+1) 1 1 #[i6 (Bc c k),i6 2,i6 6,Ad k,i6 0] 66 (0,0) true (some 75) (by simp only[List.length_cons,List.length_nil,List.length_append];omega) (show z≤n21+2 by omega) (fun ax31 cp32 n33 (hn34:n21+2≤n33) => ?_)
  refine Di 4 4 [] [[o0],[o0,o0,(ov (i6 ((Bc c k)+2))),(an 3 4)]] [Wr ((Bc c k:Int)+2) ((Bc c k)+2),Qb n21,Qb n21,Qb n21] [(1,pt z),(4,i6 (Bc c k)),(Dk c),(61,Ad k),(6,Ad k),(DT n21),(76,.slice ax31 ((Ei c i++DW c k++[(⟨Bc c k,2,(⟨6,(k:Int),0⟩:A7)⟩:Ap)]).length) cp32),(78,i6 ((Bc c k)+2)),(79,.agg (Aw.arr y30))] rfl ⟨Be,rfl,rfl,rfl,Ae⟩ ?_
  refine H5 32 #[.agg (Aw.arr y30)] (some 80) (i6 (AB y30)) (fun w35 hw35=>Uu w35 y30 (he29.ext (hw35.ext rfl) (fun _ h=>h))) (fun n36 (hn37:n33≤n36) => ?_)
  refine Hu 0 4 [] [[o0,o0,o0,o0]] [] [(1,pt z),(4,i6 (Bc c k)),(Dk c),(61,Ad k),(6,Ad k),(DT n21),(76,.slice ax31 ((Ei c i++DW c k++[(⟨Bc c k,2,(⟨6,(k:Int),0⟩:A7)⟩:Ap)]).length) cp32),(84,.slice (some ⟨n36,0,none⟩) 1 1)] ⟨w,n36+1,[(Ak w),(DF c z),(DI c z),(AV z 66 5 Ap.cells (.slice ax31 ((Ei c i++DW c k++[(⟨Bc c k,2,(⟨6,(k:Int),0⟩:A7)⟩:Ap)]).length) cp32) (Ei c i++DW c k++[(⟨Bc c k,2,(⟨6,(k:Int),0⟩:A7)⟩:Ap)])),(Il y30 n21),(Io c k n21),(I4 n36 c k y30)]⟩ rfl Ae ?_
  refine Fe z 3 6 (Ei c i++DW c k++[(⟨Bc c k,2,(⟨6,(k:Int),0⟩:A7)⟩:Ap)]) [(⟨(Bc c k)+2,AB y30,(⟨7,(k:Int),0⟩:A7)⟩:Ap)] Ap.cells 66 5 40 (.slice ax31 ((Ei c i++DW c k++[(⟨Bc c k,2,(⟨6,(k:Int),0⟩:A7)⟩:Ap)]).length) cp32) n36 1 1 #[i6 ((Bc c k)+2),i6 (AB y30),i6 7,Ad k,i6 0] 66 (0,0) true (some 85) (by simp only[List.length_cons,List.length_nil,List.length_append];omega) (show z≤n36+1 by omega) (fun ax38 cp39 n40 (hn41:n36+1≤n40) => ?_)
  refine Di 4 2 [] [[o0],[o0,(an 3 4)]] [Qb n21,Qb n21,Qb n21] [(1,pt z),(Dk c),(61,Ad k),(6,Ad k),(DT n21),(Xf c k y30 i ax38 cp39),(86,i6 (Bc c k)),(87,.agg (Aw.arr y30))] rfl ⟨rfl,rfl,rfl,Ae⟩ ?_
  refine H5 32 #[.agg (Aw.arr y30)] (some 88) (i6 (AB y30)) (fun w42 hw42=>Uu w42 y30 (he29.ext (hw42.ext rfl) (fun _ h=>h))) (fun n43 (hn44:n40≤n43) => ?_)
  refine Di 7 0 [] [[(ov (i6 (2+(AB y30)))),(ov (i6 ((Bc c k)+(2+(AB y30))))),o0],[o0,(a1 1),o0,o0]] [Wr ((2:Int)+(AB y30)) (2+(AB y30)),Wr ((Bc c k:Int)+(2+(AB y30))) ((Bc c k)+(2+(AB y30))),Qb z] [(1,pt z),(Xf c k y30 i ax38 cp39),(4,i6 ((Bc c k)+(2+(AB y30)))),(6,Ad k),(DT n21),(Dk c),(61,Ad k),(Es c),(94,i6 0)] rfl ⟨Be,Be,rfl,Ae⟩ ?_
  refine Ce (fun m a w'=>∃ (n46:Nat) (p:Nat) (aR2:Option Addr) (cR2:Nat),m=c.Aa.xs.length - p∧n43≤n46∧(p≤c.Aa.xs.length)∧St 181 [(1,pt z),(GZ c k y30 i p aR2 cR2),(Ha c k p),(6,Ad k),(DT n21),(Dk c),(61,Ad k),(Es c),(94,Ad p)] [] ⟨w,n46,[(Ak w),(DF c z),(DI c z),(JH c k y30 i z p aR2 cR2),(Il y30 n21),(Io c k n21),(I4 n36 c k y30)]⟩ a w') (c.Aa.xs.length - 0) ?_ ?_
  ·intro a w' hs;exact⟨n43,0,ax38,cp39,rfl,Nat.le_refl _,Nat.zero_le _,by(try dsimp only[I4,Io,DI,Il,DF,JH,GX,GZ,Xf,Ha,FB,Es,Dk,FQ,DT]at hs ⊢);rw[show Bv c (k:Int) false 0=[]from rfl,show F9 c k (List.length [])=(Bc c k)+(2+(AB y30))from by unfold F9;rw[←hy30,List.length_nil];omega,show Gm c k []=[]from rfl,List.append_nil];exact hs⟩
  rintro m a w' ⟨n46,p,aR2,cR2,rfl,hn45,hkp,hs⟩
  refine(?_:G Try.prog 181 [(1,pt z),(GZ c k y30 i p aR2 cR2),(Ha c k p),(6,Ad k),(DT n21),(Dk c),(61,Ad k),(Es c),(94,Ad p)] [] ⟨w,n46,[(Ak w),(DF c z),(DI c z),(JH c k y30 i z p aR2 cR2),(Il y30 n21),(Io c k n21),(I4 n36 c k y30)]⟩ _ _ _) a w' hs
  clear hs a w'
  have hle:=Qm (k:=(k:Int)) (b:=false) h8 p (by omega)
  have hdb:=Zd (c:=c) (k:=k) (show(Bv c (k:Int) false p).length≤64 by omega)
  have hld:=RS (c:=c) (k:=k) (l:=Bv c (k:Int) false p)
  refine CP ?_
  by_cases h47:(p:Int)<(c.Aa.xs.length:Int)
  ·refine A8 14 0 [1] [[oT],[o0,o0]] [BT ((p:Int)<(c.Aa.xs.length:Int))] [(1,pt z),(GZ c k y30 i p aR2 cR2),(Ha c k p),(6,Ad k),(DT n21),(Dk c),(61,Ad k),(Es c),(94,Ad p),(8,Ad p)] rfl ⟨bt,Ae⟩ ?_
   obtain⟨b48,o49,ha50,hF52,hc51⟩:=(hc.Aa).1.all (show 0<c.Aa.xs.length by omega)
   replace ha50:c.Aa.a=some ⟨b48,o49,none⟩:=ha50
   have hc53:=hc51 p (show p<c.Aa.xs.length by omega)
   have he54:=(hc.Aa).2 p (show p<c.Aa.xs.length by omega)
   obtain⟨y55,hy55⟩:∃ y_,y_=gd c.Aa.xs p:=⟨_,rfl⟩
   rw[←hy55]at he54 hc53
   have h8p:=h8 p (by omega);rw[←hy55]at h8p
   refine A8 4 0 [] [[o0,(Du 1 b48 o49 c.Aa),o0,(oi p),o0,(oa [.via 0 (.slice y55.Ai.a y55.Ai.xs.length y55.Ai.cap)]),o0,o0]] [Qb z,Df b48 o49 c.Aa,BI p,p<c.Aa.xs.length,Bq,Old w b48 (o49+p*8+7) (.slice y55.Ai.a y55.Ai.xs.length y55.Ai.cap)] [(1,pt z),(GZ c k y30 i p aR2 cR2),(Ha c k p),(6,Ad k),(DT n21),(8,Ad p),(Dk c),(61,Ad k),(Es c),(94,Ad p),(GU y55),(104,i6 0)] rfl ⟨rfl,Dh ha50,rfl,(by omega),rfl,BA (hc53 7 _ rfl),Ae⟩ ?_
   refine Ce (fun m a w'=>∃ (n57:Nat) (q:Nat) (aR3:Option Addr) (cR3:Nat),m=y55.Ai.xs.length - q∧n46≤n57∧(q≤y55.Ai.xs.length)∧St 181 [(1,pt z),(Jy c k y30 i aR3 p y55 q cR3),(IQ c k p y55 q),(6,Ad k),(DT n21),(8,Ad p),(Dk c),(61,Ad k),(Es c),(94,Ad p),(GU y55),(104,Ad q)] [] ⟨w,n57,(MX n36 c k y30 i n21 z aR3 p y55 q cR3 w)⟩ a w') (y55.Ai.xs.length - 0) ?_ ?_
   ·intro a w' hs;exact⟨n46,0,aR2,cR2,rfl,Nat.le_refl _,Nat.zero_le _,by(try dsimp only[I4,Io,DI,Il,DF,OW,JH,GX,Jy,GZ,IQ,Ha,FB,Es,Dk,GU,FQ,DT,MX]at hs ⊢);rw[show Bo p y55 (k:Int) false 0=[]from rfl,List.append_nil];exact hs⟩
   rintro m a w' ⟨n57,q,aR3,cR3,rfl,hn56,hkq,hs⟩
   refine(?_:G Try.prog 181 [(1,pt z),(Jy c k y30 i aR3 p y55 q cR3),(IQ c k p y55 q),(6,Ad k),(DT n21),(8,Ad p),(Dk c),(61,Ad k),(Es c),(94,Ad p),(GU y55),(104,Ad q)] [] ⟨w,n57,(MX n36 c k y30 i n21 z aR3 p y55 q cR3 w)⟩ _ _ _) a w' hs
   clear hs a w'
   have hlq:(Bo p y55 (k:Int) false q).length≤q:=Pg
   have hl2:(Bv c (k:Int) false p++Bo p y55 (k:Int) false q).length=(Bv c (k:Int) false p).length+(Bo p y55 (k:Int) false q).length:=List.length_append
   have hdb2:=Zd (c:=c) (k:=k) (show(Bv c (k:Int) false p++Bo p y55 (k:Int) false q).length≤64 by omega)
   have hld2:=RS (c:=c) (k:=k) (l:=(Bv c (k:Int) false p++Bo p y55 (k:Int) false q))
   refine CP ?_
   by_cases h58:(q:Int)<(y55.Ai.xs.length:Int)
   ·refine A8 14 0 [1] [[oT],[o0,o0]] [BT ((q:Int)<(y55.Ai.xs.length:Int))] [(1,pt z),(Jy c k y30 i aR3 p y55 q cR3),(IQ c k p y55 q),(6,Ad k),(DT n21),(8,Ad p),(Dk c),(61,Ad k),(Es c),(94,Ad p),(GU y55),(104,Ad q),(9,Ad q)] rfl ⟨bt,Ae⟩ ?_
    obtain⟨b59,o60,ha61,hF63,hc62⟩:=(he54.Ai).1.all (show 0<y55.Ai.xs.length by omega)
    replace ha61:y55.Ai.a=some ⟨b59,o60,none⟩:=ha61
    have hc64:=hc62 q (show q<y55.Ai.xs.length by omega)
    have he65:=(he54.Ai).2 q (show q<y55.Ai.xs.length by omega)
    obtain⟨y66,hy66⟩:∃ y_,y_=gd y55.Ai.xs q:=⟨_,rfl⟩
    rw[←hy66]at he65 hc64
    refine q_c 4 0 [] [[o0,(Du 1 b48 o49 c.Aa),o0,(oi p),o0,⟨.auto [.via 0 (.slice y55.Ai.a y55.Ai.xs.length y55.Ai.cap)],some (.slice (some ⟨b59,o60,none⟩) y55.Ai.xs.length y55.Ai.cap)⟩,o0,(oi q),(ol 0 (AC.arr y66)),o0,(an 2 7)]] [Qb z,Df b48 o49 c.Aa,BI p,p<c.Aa.xs.length,Bq,Old w b48 (o49+p*8+7) (.slice y55.Ai.a y55.Ai.xs.length y55.Ai.cap),Df b59 o60 y55.Ai,BI q,q<y55.Ai.xs.length,Bq,Eh w b59 (o60+q*2) (AC.arr y66),Qb n57,Qb n57] [(1,pt z),(Jy c k y30 i aR3 p y55 q cR3),(IQ c k p y55 q),(6,Ad k),(DT n21),(8,Ad p),(Dk c),(61,Ad k),(Es c),(94,Ad p),(GU y55),(104,Ad q),(9,Ad q),(10,pt n57)] ⟨w,n57+1,[(Ak w),(DF c z),(DI c z),(OW c k y30 i z aR3 p y55 q cR3),(Il y30 n21),(Io c k n21),(I4 n36 c k y30),(bk n57 (AC.arr y66) 75)]⟩ rfl ⟨rfl,Dh ha50,rfl,(by omega),rfl,BA (hc53 7 _ rfl),Dh ha61,rfl,(by omega),rfl,CB hc64,rfl,rfl,Ae⟩ ?_
    by_cases h67:(y66.Channel:Int)=(k:Int)
    ·by_cases h68:y66.Source=true
     ·refine A8 9 0 [0] [[o0,(a1 7),o0,oT,o0,o0,(a1 7),(ov (.bool false)),o0],[(ov (i6 ((q+1:Nat):Int))),o0]] [Qb n57,ET y66.Channel (k:Int),Qb n57,Value.bool (!y66.Source)=Value.bool false,Wr ((q:Int)+1) (((q+1:Nat):Int))] [(1,pt z),(Jy c k y30 i aR3 p y55 q cR3),(IQ c k p y55 q),(6,Ad k),(DT n21),(8,Ad p),(Dk c),(61,Ad k),(Es c),(94,Ad p),(GU y55),(Nk q)] rfl ⟨rfl,et,rfl,by simp[h68],Be,Ae⟩ ?_
      refine BO [0,1,2,3,4,5,6] (MX n36 c k y30 i n21 z aR3 p y55 q cR3 w) rfl rfl ?_
      have hT:=J6 (p:=p) (x:=y55) (k:=(k:Int)) (b:=false) (j:=q) (by rw[←hy66];exact Tn (by revert h68;cases y66.Source <;> simp))
      refine Dp [1,3,4,6,7,8,60,61,93,94,103,104] [(1,pt z),(Jy c k y30 i aR3 p y55 q cR3),(IQ c k p y55 q),(6,Ad k),(DT n21),(8,Ad p),(Dk c),(61,Ad k),(Es c),(94,Ad p),(GU y55),(Nk q)] ?_
      refine Bz (fun a w' hs=>⟨y55.Ai.xs.length - (q+1),by omega,(n57+1),(q+1),aR3,cR3,rfl,by omega,by omega,by(try dsimp only[I4,Io,DI,Il,DF,OW,JH,GX,Jy,GZ,IQ,Ha,FB,Es,Dk,GU,FQ,Nk,DT,MX]at hs ⊢);rw[hT];exact hs⟩)
     refine A8 6 3 [1] [[o0,(a1 7),o0,oT,o0,o0,(a1 7),(ov (.bool true)),o0],[o0,o0,(an 3 4)]] [Qb n57,ET y66.Channel (k:Int),Qb n57,Value.bool (!y66.Source)=Value.bool true,Qb n21,Qb n21,Qb n21] [(1,pt z),(IQ c k p y55 q),(6,Ad k),(DT n21),(8,Ad p),(Dk c),(61,Ad k),(Es c),(94,Ad p),(GU y55),(104,Ad q),(9,Ad q),(Vk c k y30 i aR3 p y55 q cR3),(126,i6 (F9 c k (Bv c (k:Int) false p++Bo p y55 (k:Int) false q).length)),(127,.agg (Aw.arr y30))] rfl ⟨rfl,et,rfl,by simp[h68],rfl,rfl,rfl,Ae⟩ ?_
     refine H5 30 #[.agg (Aw.arr y30)] (some 128) (i6 (portOf y30)) (fun w69 hw69=>RX w69 y30 (he29.ext (hw69.ext rfl) (fun _ h=>h))) (fun n70 (hn71:n57+1≤n70) => ?_)
     refine Hu 0 5 [] [[o0,o0,o0,o0,o0]] [] [(1,pt z),(IQ c k p y55 q),(6,Ad k),(DT n21),(8,Ad p),(Dk c),(61,Ad k),(Es c),(94,Ad p),(GU y55),(104,Ad q),(Vk c k y30 i aR3 p y55 q cR3),(133,.slice (some ⟨n70,0,none⟩) 1 1)] ⟨w,n70+1,[(Ak w),(DF c z),(DI c z),(OW c k y30 i z aR3 p y55 q cR3),(Il y30 n21),(Io c k n21),(I4 n36 c k y30),(bk n57 (AC.arr y66) 75),(bk n70 #[i6 (F9 c k (Bv c (k:Int) false p++Bo p y55 (k:Int) false q).length),i6 (portOf y30),i6 8,Ad p,Ad q] 66)]⟩ rfl Ae ?_
     refine Fe z 3 8 (Ei c i++DW c k++[(⟨Bc c k,2,(⟨6,(k:Int),0⟩:A7)⟩:Ap)]++[(⟨Bc c k+2,AB y30,(⟨7,(k:Int),0⟩:A7)⟩:Ap)]++Gm c k (Bv c (k:Int) false p++Bo p y55 (k:Int) false q)) [(⟨F9 c k (Bv c (k:Int) false p++Bo p y55 (k:Int) false q).length,portOf y30,(⟨8,(p:Int),(q:Int)⟩:A7)⟩:Ap)] Ap.cells 66 5 40 (.slice aR3 ((Ei c i++DW c k++[(⟨Bc c k,2,(⟨6,(k:Int),0⟩:A7)⟩:Ap)]++[(⟨Bc c k+2,AB y30,(⟨7,(k:Int),0⟩:A7)⟩:Ap)]++Gm c k (Bv c (k:Int) false p++Bo p y55 (k:Int) false q)).length) cR3) n70 1 1 #[i6 (F9 c k (Bv c (k:Int) false p++Bo p y55 (k:Int) false q).length),i6 (portOf y30),i6 8,Ad p,Ad q] 66 (0,0) true (some 134) (by simp only[List.length_cons,List.length_nil,List.length_append];omega) (show z≤n70+1 by omega) (fun ax72 cp73 n74 (hn75:n70+1≤n74) => ?_)
     refine Di 3 2 [] [[o0],[o0,(an 3 4)]] [Qb n21,Qb n21,Qb n21] [(1,pt z),(6,Ad k),(DT n21),(8,Ad p),(Dk c),(61,Ad k),(Es c),(94,Ad p),(GU y55),(104,Ad q),(Vm c k y30 i p y55 q ax72 cp73),(135,i6 (F9 c k (Bv c (k:Int) false p++Bo p y55 (k:Int) false q).length)),(136,.agg (Aw.arr y30))] rfl ⟨rfl,rfl,rfl,Ae⟩ ?_
     refine H5 30 #[.agg (Aw.arr y30)] (some 137) (i6 (portOf y30)) (fun w76 hw76=>RX w76 y30 (he29.ext (hw76.ext rfl) (fun _ h=>h))) (fun n77 (hn78:n74≤n77) => ?_)
     refine Di 5 0 [] [[(ov (i6 ((F9 c k (Bv c (k:Int) false p++Bo p y55 (k:Int) false q).length)+(portOf y30)))),o0],[(ov (i6 ((q+1:Nat):Int))),o0]] [Wr ((F9 c k (Bv c (k:Int) false p++Bo p y55 (k:Int) false q).length:Int)+(portOf y30)) ((F9 c k (Bv c (k:Int) false p++Bo p y55 (k:Int) false q).length)+(portOf y30)),Wr ((q:Int)+1) (((q+1:Nat):Int))] [(1,pt z),(6,Ad k),(DT n21),(8,Ad p),(Dk c),(61,Ad k),(Es c),(94,Ad p),(GU y55),(Nk q),(Vm c k y30 i p y55 q ax72 cp73),(4,i6 ((F9 c k (Bv c (k:Int) false p++Bo p y55 (k:Int) false q).length)+(portOf y30)))] rfl ⟨Be,Be,Ae⟩ ?_
     refine BO [0,1,2,3,4,5,6] [(Ak w),(DF c z),(DI c z),(AV z 66 5 Ap.cells (.slice ax72 ((Ei c i++DW c k++[(⟨Bc c k,2,(⟨6,(k:Int),0⟩:A7)⟩:Ap)]++[(⟨Bc c k+2,AB y30,(⟨7,(k:Int),0⟩:A7)⟩:Ap)]++Gm c k (Bv c (k:Int) false p++Bo p y55 (k:Int) false q)++[(⟨F9 c k (Bv c (k:Int) false p++Bo p y55 (k:Int) false q).length,portOf y30,(⟨8,(p:Int),(q:Int)⟩:A7)⟩:Ap)]).length) cp73) (Ei c i++DW c k++[(⟨Bc c k,2,(⟨6,(k:Int),0⟩:A7)⟩:Ap)]++[(⟨Bc c k+2,AB y30,(⟨7,(k:Int),0⟩:A7)⟩:Ap)]++Gm c k (Bv c (k:Int) false p++Bo p y55 (k:Int) false q)++[(⟨F9 c k (Bv c (k:Int) false p++Bo p y55 (k:Int) false q).length,portOf y30,(⟨8,(p:Int),(q:Int)⟩:A7)⟩:Ap)])),(Il y30 n21),(Io c k n21),(I4 n36 c k y30)] rfl rfl ?_
     have hT:=Nz (p:=p) (x:=y55) (k:=(k:Int)) (b:=false) (j:=q) (by rw[←hy66];exact UJ (by omega) (by revert h68;cases y66.Source <;> simp))
     refine Dp [1,3,4,6,7,8,60,61,93,94,103,104] [(1,pt z),(Vm c k y30 i p y55 q ax72 cp73),(4,i6 ((F9 c k (Bv c (k:Int) false p++Bo p y55 (k:Int) false q).length)+(portOf y30))),(6,Ad k),(DT n21),(8,Ad p),(Dk c),(61,Ad k),(Es c),(94,Ad p),(GU y55),(Nk q)] ?_
     refine Bz (fun a w' hs=>⟨y55.Ai.xs.length - (q+1),by omega,n77,(q+1),ax72,cp73,rfl,by omega,by omega,by(try dsimp only[I4,Io,DI,Il,DF,OW,JH,GX,Vm,Vk,Jy,GZ,IQ,Ha,FB,Es,Dk,GU,FQ,Nk,DT,MX]at hs ⊢);rw[hT,←List.append_assoc,Y2,←List.append_assoc,Ku,←hy30,show F9 c k ((Bv c (k:Int) false p++Bo p y55 (k:Int) false q)++[(⟨(p:Int),(q:Int)⟩:Ee)]).length=F9 c k (Bv c (k:Int) false p++Bo p y55 (k:Int) false q).length+portOf y30 from by rw[List.length_append,List.length_singleton,V9,←hy30]];exact hs⟩)
    refine A8 9 0 [0] [[o0,(a1 7),o0,oF,o0,o0],[(ov (i6 ((q+1:Nat):Int))),o0]] [Qb n57,EF y66.Channel (k:Int),Wr ((q:Int)+1) (((q+1:Nat):Int))] [(1,pt z),(Jy c k y30 i aR3 p y55 q cR3),(IQ c k p y55 q),(6,Ad k),(DT n21),(8,Ad p),(Dk c),(61,Ad k),(Es c),(94,Ad p),(GU y55),(Nk q)] rfl ⟨rfl,ef,Be,Ae⟩ ?_
    refine BO [0,1,2,3,4,5,6] (MX n36 c k y30 i n21 z aR3 p y55 q cR3 w) rfl rfl ?_
    have hT:=J6 (p:=p) (x:=y55) (k:=(k:Int)) (b:=false) (j:=q) (by rw[←hy66];exact Uy (by omega))
    refine Dp [1,3,4,6,7,8,60,61,93,94,103,104] [(1,pt z),(Jy c k y30 i aR3 p y55 q cR3),(IQ c k p y55 q),(6,Ad k),(DT n21),(8,Ad p),(Dk c),(61,Ad k),(Es c),(94,Ad p),(GU y55),(Nk q)] ?_
    refine Bz (fun a w' hs=>⟨y55.Ai.xs.length - (q+1),by omega,(n57+1),(q+1),aR3,cR3,rfl,by omega,by omega,by(try dsimp only[I4,Io,DI,Il,DF,OW,JH,GX,Vk,Jy,GZ,IQ,Ha,FB,Es,Dk,GU,FQ,Nk,DT,MX]at hs ⊢);rw[hT];exact hs⟩)
   refine A8 13 0 [0] [[oF],[(ov (i6 ((p+1:Nat):Int))),o0]] [BF ((q:Int)<(y55.Ai.xs.length:Int)),Wr ((p:Int)+1) (((p+1:Nat):Int))] [(1,pt z),(Jy c k y30 i aR3 p y55 q cR3),(IQ c k p y55 q),(6,Ad k),(DT n21),(Dk c),(61,Ad k),(Es c),(94,i6 ((p+1:Nat):Int))] rfl ⟨bf,Be,Ae⟩ ?_
   refine Bz (fun a w' hs=>⟨c.Aa.xs.length - (p+1),by omega,n57,(p+1),aR3,cR3,rfl,by omega,by omega,by(try dsimp only[I4,Io,DI,Il,DF,OW,JH,GX,Jy,GZ,IQ,Ha,FB,Es,Dk,GU,FQ,Nk,DT,MX]at hs ⊢);rw[JU,←hy55,show y55.Ai.xs.length=q by omega];exact hs⟩)
  refine A8 13 0 [0] [[oF],[(ov (i6 ((k+1:Nat):Int))),o0]] [BF ((p:Int)<(c.Aa.xs.length:Int)),Wr ((k:Int)+1) (((k+1:Nat):Int))] [(1,pt z),(GZ c k y30 i p aR2 cR2),(Ha c k p),(Dk c),(61,i6 ((k+1:Nat):Int))] rfl ⟨bf,Be,Ae⟩ ?_
  refine BO [0,1,2,3] [(Ak w),(DF c z),(DI c z),(JH c k y30 i z p aR2 cR2)] rfl rfl ?_
  refine Dp [1,3,4,60,61] [(1,pt z),(GZ c k y30 i p aR2 cR2),(Ha c k p),(Dk c),(61,i6 ((k+1:Nat):Int))] ?_
  refine Bz (fun a w' hs=>⟨c.Ac.xs.length - (k+1),by omega,n46,(k+1),aR2,cR2,rfl,by omega,by omega,by(try dsimp only[I4,Io,DI,Il,DF,OW,JH,GX,Jy,GZ,IQ,Ha,FB,Es,Dk,GU,FQ,DT,MX]at hs ⊢);rw[QX,Ny,VC,←hy30,show Gg c k=(Bv c (k:Int) false p).length from by rw[show p=c.Aa.xs.length by omega];rfl,show Ba c (k:Int) false=Bv c (k:Int) false p from by rw[show p=c.Aa.xs.length by omega];rfl,←List.append_assoc,←List.append_assoc];simp only[List.append_assoc,List.cons_append,List.nil_append]at hs ⊢;exact hs⟩)
 refine A8 12 0 [0] [[oF]] [BF ((k:Int)<(c.Ac.xs.length:Int))] [(1,pt z),(FQ c k i aR1 cR1),(4,i6 (Bc c k)),(Dk c),(61,Ad k),(62,.bool false)] rfl ⟨bf,Ae⟩ ?_
 have hkc:k=c.Ac.xs.length:=by omega
 have hfr:JA c=(Bc c k+16 - 1) / 16:=by rw[hkc];rfl
 refine Eb [1,3,4] [(1,pt z),(FQ c k i aR1 cR1),(4,i6 (Bc c k))] ?_
 refine Ce (fun m a w'=>∃ (n80:Nat) (at8:Int),m=(16*JA c - at8).toNat∧n21≤n80∧(Bc c k≤at8∧at8≤16*JA c)∧St 181 [(1,pt z),(FQ c k i aR1 cR1),(4,i6 at8)] [] ⟨w,n80,[(Ak w),(DF c z),(DI c z),(GX c k i z aR1 cR1)]⟩ a w') ((16*JA c - Bc c k).toNat) ?_ ?_
 ·intro a w' hs;exact⟨n21,(Bc c k),rfl,Nat.le_refl _,by omega,hs⟩
 rintro m a w' ⟨n80,at8,rfl,hn79,hat,hs⟩
 refine(?_:G Try.prog 181 [(1,pt z),(FQ c k i aR1 cR1),(4,i6 at8)] [] ⟨w,n80,[(Ak w),(DF c z),(DI c z),(GX c k i z aR1 cR1)]⟩ _ _ _) a w' hs
 clear hs a w'
 refine CP <| CP ?_
 by_cases h81:(at8 % 16:Int)=0
 ·refine A8 15 0 [0] [[o0,(ov (i6 (at8 % 16))),oF],[o0,(a1 1),o0,o0]] [i6 (Int.tmod (at8) 16)=i6 (at8 % 16),NF (at8 % 16) 0,Qb z] [(1,pt z),(FQ c k i aR1 cR1),(4,i6 at8),(EW c),(150,i6 0)] rfl ⟨congrArg (Value.int .i64) (Ze (by omega) (by omega)),nf,rfl,Ae⟩ ?_
  refine Ce (fun m a w'=>∃ (n83:Nat) (p:Nat) (aR5:Option Addr) (cR5:Nat),m=c.Aa.xs.length - p∧n80≤n83∧(p≤c.Aa.xs.length)∧St 181 [(1,pt z),(Hf c k i p aR5 cR5),(4,i6 (16*C9 c p)),(EW c),(150,Ad p)] [] ⟨w,n83,[(Ak w),(DF c z),(DI c z),(MC c k i z p aR5 cR5)]⟩ a w') (c.Aa.xs.length - 0) ?_ ?_
  ·intro a w' hs;exact⟨n80,0,aR1,cR1,rfl,Nat.le_refl _,Nat.zero_le _,by(try dsimp only[I4,Io,DI,Il,DF,JH,MC,GX,GZ,Ha,Hf,EW,FB,Es,Dk,FQ,DT]at hs ⊢);rw[show KG c 0=[]from rfl,List.append_nil,show 16*C9 c 0=at8 from by rw[show C9 c 0=JA c from rfl];omega];exact hs⟩
  rintro m a w' ⟨n83,p,aR5,cR5,rfl,hn82,hkp,hs⟩
  refine(?_:G Try.prog 181 [(1,pt z),(Hf c k i p aR5 cR5),(4,i6 (16*C9 c p)),(EW c),(150,Ad p)] [] ⟨w,n83,[(Ak w),(DF c z),(DI c z),(MC c k i z p aR5 cR5)]⟩ _ _ _) a w' hs
  clear hs a w'
  have htb:=NG hfine p (by omega)
  have hlt:=WX (c:=c) p
  refine CP ?_
  by_cases h84:(p:Int)<(c.Aa.xs.length:Int)
  ·refine A8 23 0 [1] [[oT],[o0,o0],[o0],[o0]] [BT ((p:Int)<(c.Aa.xs.length:Int))] [(1,pt z),(Hf c k i p aR5 cR5),(4,i6 (16*C9 c p)),(11,Ad p),(12,i6 1),(EW c),(150,Ad p),(153,i6 0)] rfl ⟨bt,Ae⟩ ?_
   refine Ce (fun m a w'=>∃ (n86:Nat) (t:Nat),m=16 - t∧n83≤n86∧(t≤16)∧St 181 [(1,pt z),(Hf c k i p aR5 cR5),(4,i6 (16*C9 c p)),(11,Ad p),(JW c p t),(EW c),(150,Ad p),(153,Ad t)] [] ⟨w,n86,[(Ak w),(DF c z),(DI c z),(MC c k i z p aR5 cR5)]⟩ a w') (16 - 0) ?_ ?_
   ·intro a w' hs;exact⟨n83,0,rfl,Nat.le_refl _,Nat.zero_le _,hs⟩
   rintro m a w' ⟨n86,t,rfl,hn85,hkt,hs⟩
   refine(?_:G Try.prog 181 [(1,pt z),(Hf c k i p aR5 cR5),(4,i6 (16*C9 c p)),(11,Ad p),(JW c p t),(EW c),(150,Ad p),(153,Ad t)] [] ⟨w,n86,[(Ak w),(DF c z),(DI c z),(MC c k i z p aR5 cR5)]⟩ _ _ _) a w' hs
   clear hs a w'
   have hcl:(List.range t).countP (fun b=>FV (gd c.Aa.xs p) b)≤t:=Nat.le_trans List.countP_le_length (by simp)
   refine CP ?_
   by_cases h87:(t:Int)<16
   ·refine A8 14 0 [1] [[oT],[o0,o0]] [BT ((t:Int)<16)] [(1,pt z),(Hf c k i p aR5 cR5),(4,i6 (16*C9 c p)),(11,Ad p),(JW c p t),(EW c),(150,Ad p),(153,Ad t),(13,Ad t)] rfl ⟨bt,Ae⟩ ?_
    obtain⟨b88,o89,ha90,hF92,hc91⟩:=(hc.Aa).1.all (show 0<c.Aa.xs.length by omega)
    replace ha90:c.Aa.a=some ⟨b88,o89,none⟩:=ha90
    have hc93:=hc91 p (show p<c.Aa.xs.length by omega)
    have he94:=(hc.Aa).2 p (show p<c.Aa.xs.length by omega)
    obtain⟨y95,hy95⟩:∃ y_,y_=gd c.Aa.xs p:=⟨_,rfl⟩
    rw[←hy95]at he94 hc93
    have h8p:=h8 p (by omega);rw[←hy95]at h8p
    refine A8 1 6 [] [[o0,(Du 1 b88 o89 c.Aa),o0,(oi p),(ol 0 (Ah.arr y95)),o0]] [Qb z,Df b88 o89 c.Aa,BI p,p<c.Aa.xs.length,Bq,Eh w b88 (o89+p*8) (Ah.arr y95)] [(1,pt z),(Hf c k i p aR5 cR5),(4,i6 (16*C9 c p)),(11,Ad p),(JW c p t),(EW c),(150,Ad p),(153,Ad t),(160,.agg (Ah.arr y95)),(161,Ad t)] rfl ⟨rfl,Dh ha90,rfl,(by omega),rfl,CB hc93,Ae⟩ ?_
    refine H5 33 #[.agg (Ah.arr y95),Ad t] (some 162) (.bool (FV y95 t)) (fun w96 hw96=>XK w96 y95 t (by omega) (he94.ext (hw96.ext rfl) (fun _ h=>h)) (TA (by rw[hy95];exact hfine.parts p (by omega)))) (fun n97 (hn98:n86≤n97) => ?_)
    refine Ui [1,3,4,11,12,149,150,153,162] [(1,pt z),(Hf c k i p aR5 cR5),(4,i6 (16*C9 c p)),(11,Ad p),(JW c p t),(EW c),(150,Ad p),(153,Ad t),(162,.bool (FV y95 t))] ?_
    refine l_nil (by kernel_rfl) ?_
    refine UI ?_
    by_cases h99:(FV y95 t)=true
    ·refine A8 7 0 [3] [[o0,(ov (i6 (((1+(List.range t).countP (fun b=>FV (gd c.Aa.xs p) b))+1:Nat):Int))),o0],[(ov (i6 ((t+1:Nat):Int))),o0]] [Value.bool (FV y95 t)=Value.bool true,Wr ((((1+(List.range t).countP (fun b=>FV (gd c.Aa.xs p) b):Nat):Int):Int)+1) ((((1+(List.range t).countP (fun b=>FV (gd c.Aa.xs p) b))+1:Nat):Int)),Wr ((t:Int)+1) (((t+1:Nat):Int))] [(1,pt z),(Hf c k i p aR5 cR5),(4,i6 (16*C9 c p)),(11,Ad p),(SQ c p t),(EW c),(150,Ad p),(153,i6 ((t+1:Nat):Int))] rfl ⟨(congrArg Value.bool h99),Be,Be,Ae⟩ ?_
     have hT:=RH (p:=fun b=>FV (gd c.Aa.xs p) b) (j:=t)
     rw[←hy95]at hT
     simp only[h99,if_true,if_false,Nat.add_zero]at hT
     refine Dp [1,3,4,11,12,149,150,153] [(1,pt z),(Hf c k i p aR5 cR5),(4,i6 (16*C9 c p)),(11,Ad p),(SQ c p t),(EW c),(150,Ad p),(153,i6 ((t+1:Nat):Int))] ?_
     refine Bz (fun a w' hs=>⟨16 - (t+1),by omega,n97,(t+1),rfl,by omega,by omega,by(try dsimp only[I4,Io,DI,Il,DF,JH,MC,GX,GZ,SQ,JW,Ha,Hf,EW,FB,Es,Dk,FQ,DT]at hs ⊢);rw[←hy95]at hs ⊢;rw[hT];exact hs⟩)
    refine A8 6 0 [2] [[(ov (i6 ((t+1:Nat):Int))),o0]] [Value.bool (FV y95 t)=Value.bool false,Wr ((t:Int)+1) (((t+1:Nat):Int))] [(1,pt z),(Hf c k i p aR5 cR5),(4,i6 (16*C9 c p)),(11,Ad p),(JW c p t),(EW c),(150,Ad p),(153,i6 ((t+1:Nat):Int))] rfl ⟨(congrArg Value.bool (Bool.eq_false_iff.2 h99)),Be,Ae⟩ ?_
    have hT:=RH (p:=fun b=>FV (gd c.Aa.xs p) b) (j:=t)
    rw[←hy95]at hT
    simp only[(Bool.eq_false_iff.2 h99),Bool.false_eq_true,if_true,if_false,Nat.add_zero]at hT
    refine Dp [1,3,4,11,12,149,150,153] [(1,pt z),(Hf c k i p aR5 cR5),(4,i6 (16*C9 c p)),(11,Ad p),(JW c p t),(EW c),(150,Ad p),(153,i6 ((t+1:Nat):Int))] ?_
    refine Bz (fun a w' hs=>⟨16 - (t+1),by omega,n97,(t+1),rfl,by omega,by omega,by(try dsimp only[I4,Io,DI,Il,DF,JH,MC,GX,GZ,SQ,JW,Ha,Hf,EW,FB,Es,Dk,FQ,DT]at hs ⊢);rw[←hy95]at hs ⊢;rw[hT];exact hs⟩)
   refine A8 15 0 [0] [[oF],[o0,o0]] [BF ((t:Int)<16)] [(1,pt z),(Hf c k i p aR5 cR5),(4,i6 (16*C9 c p)),(11,Ad p),(EW c),(150,Ad p),(NJ c p t),(167,i6 0)] rfl ⟨bf,Ae⟩ ?_
   refine Ce (fun m a w'=>∃ (n101:Nat) (u:Nat) (aR7:Option Addr) (cR7:Nat),m=(1+(List.range t).countP (fun b=>FV (gd c.Aa.xs p) b)) - u∧n86≤n101∧(u≤(1+(List.range t).countP (fun b=>FV (gd c.Aa.xs p) b)))∧St 181 [(1,pt z),(3,.slice aR7 ((Ei c i++DW c k++KG c p++D5 c p u).length) cR7),(OE c p u),(11,Ad p),(EW c),(150,Ad p),(NJ c p t),(167,Ad u)] [] ⟨w,n101,[(Ak w),(DF c z),(DI c z),(Tt c k i z p aR7 u cR7)]⟩ a w') ((1+(List.range t).countP (fun b=>FV (gd c.Aa.xs p) b)) - 0) ?_ ?_
   ·intro a w' hs;exact⟨n86,0,aR5,cR5,rfl,Nat.le_refl _,Nat.zero_le _,by(try dsimp only[I4,Io,DI,Il,DF,JH,Tt,MC,GX,GZ,SQ,NJ,JW,Ha,Hf,EW,FB,Es,Dk,FQ,OE,DT]at hs ⊢);rw[show D5 c p 0=[]from rfl,List.append_nil,show 16*(C9 c p+((0:Nat):Int))=16*C9 c p from by omega];exact hs⟩
   rintro m a w' ⟨n101,u,aR7,cR7,rfl,hn100,hku,hs⟩
   refine(?_:G Try.prog 181 [(1,pt z),(3,.slice aR7 ((Ei c i++DW c k++KG c p++D5 c p u).length) cR7),(OE c p u),(11,Ad p),(EW c),(150,Ad p),(NJ c p t),(167,Ad u)] [] ⟨w,n101,[(Ak w),(DF c z),(DI c z),(Tt c k i z p aR7 u cR7)]⟩ _ _ _) a w' hs
   clear hs a w'
   have hlu:=Qn (c:=c) (p:=p) (n:=u)
   refine CP ?_
   by_cases h102:(u:Int)<((1+(List.range t).countP (fun b=>FV (gd c.Aa.xs p) b):Nat):Int)
   ·refine q_c 11 6 [1] [[oT],[o0,o0,o0,o0,o0,o0]] [BT ((u:Int)<((1+(List.range t).countP (fun b=>FV (gd c.Aa.xs p) b):Nat):Int))] [(1,pt z),(OE c p u),(11,Ad p),(EW c),(150,Ad p),(NJ c p t),(167,Ad u),(169,.slice aR7 ((Ei c i++DW c k++KG c p++D5 c p u).length) cR7),(174,.slice (some ⟨n101,0,none⟩) 1 1)] ⟨w,n101+1,[(Ak w),(DF c z),(DI c z),(Tt c k i z p aR7 u cR7),(bk n101 #[i6 (16*(C9 c p+(u:Int))),i6 16,i6 9,Ad p,i6 0] 66)]⟩ rfl ⟨bt,Ae⟩ ?_
    refine Fe z 3 4 (Ei c i++DW c k++KG c p++D5 c p u) [(⟨16*(C9 c p+(u:Int)),16,(⟨9,(p:Int),0⟩:A7)⟩:Ap)] Ap.cells 66 5 40 (.slice aR7 ((Ei c i++DW c k++KG c p++D5 c p u).length) cR7) n101 1 1 #[i6 (16*(C9 c p+(u:Int))),i6 16,i6 9,Ad p,i6 0] 66 (0,0) true (some 175) (by simp only[List.length_cons,List.length_nil,List.length_append];omega) (show z≤n101+1 by omega) (fun ax103 cp104 n105 (hn106:n101+1≤n105) => ?_)
    refine Di 8 0 [] [[o0],[o0,(ov (i6 ((16*(C9 c p+(u:Int)))+16))),o0],[(ov (i6 ((u+1:Nat):Int))),o0]] [Wr ((16*(C9 c p+(u:Int)):Int)+16) ((16*(C9 c p+(u:Int)))+16),Wr ((u:Int)+1) (((u+1:Nat):Int))] [(1,pt z),(4,i6 ((16*(C9 c p+(u:Int)))+16)),(11,Ad p),(EW c),(150,Ad p),(NJ c p t),(167,i6 ((u+1:Nat):Int)),(3,.slice ax103 ((Ei c i++DW c k++KG c p++D5 c p u++[(⟨16*(C9 c p+(u:Int)),16,(⟨9,(p:Int),0⟩:A7)⟩:Ap)]).length) cp104)] rfl ⟨Be,Be,Ae⟩ ?_
    refine BO [0,1,2,3] [(Ak w),(DF c z),(DI c z),(AV z 66 5 Ap.cells (.slice ax103 ((Ei c i++DW c k++KG c p++D5 c p u++[(⟨16*(C9 c p+(u:Int)),16,(⟨9,(p:Int),0⟩:A7)⟩:Ap)]).length) cp104) (Ei c i++DW c k++KG c p++D5 c p u++[(⟨16*(C9 c p+(u:Int)),16,(⟨9,(p:Int),0⟩:A7)⟩:Ap)]))] rfl rfl ?_
    refine Dp [1,3,4,11,149,150,166,167] [(1,pt z),(3,.slice ax103 ((Ei c i++DW c k++KG c p++D5 c p u++[(⟨16*(C9 c p+(u:Int)),16,(⟨9,(p:Int),0⟩:A7)⟩:Ap)]).length) cp104),(4,i6 ((16*(C9 c p+(u:Int)))+16)),(11,Ad p),(EW c),(150,Ad p),(NJ c p t),(167,i6 ((u+1:Nat):Int))] ?_
    refine Bz (fun a w' hs=>⟨(1+(List.range t).countP (fun b=>FV (gd c.Aa.xs p) b)) - (u+1),by omega,n105,(u+1),ax103,cp104,rfl,by omega,by omega,by(try dsimp only[I4,Io,DI,Il,DF,JH,Tt,MC,GX,GZ,NJ,JW,Ha,Hf,EW,FB,Es,Dk,FQ,OE,DT]at hs ⊢);rw[Ob,←List.append_assoc,show 16*(C9 c p+((u+1:Nat):Int))=(16*(C9 c p+(u:Int)))+16 from by omega];exact hs⟩)
   refine A8 13 0 [0] [[oF],[(ov (i6 ((p+1:Nat):Int))),o0]] [BF ((u:Int)<((1+(List.range t).countP (fun b=>FV (gd c.Aa.xs p) b):Nat):Int)),Wr ((p:Int)+1) (((p+1:Nat):Int))] [(1,pt z),(3,.slice aR7 ((Ei c i++DW c k++KG c p++D5 c p u).length) cR7),(OE c p u),(EW c),(150,i6 ((p+1:Nat):Int))] rfl ⟨bf,Be,Ae⟩ ?_
   have hnn:1+Fq (gd c.Aa.xs p)=u:=by rw[←YV (TA (hfine.parts p (by omega))),show 16=t by omega];omega
   refine Dp [1,3,4,149,150] [(1,pt z),(3,.slice aR7 ((Ei c i++DW c k++KG c p++D5 c p u).length) cR7),(OE c p u),(EW c),(150,i6 ((p+1:Nat):Int))] ?_
   refine Bz (fun a w' hs=>⟨c.Aa.xs.length - (p+1),by omega,n101,(p+1),aR7,cR7,rfl,by omega,by omega,by(try dsimp only[I4,Io,DI,Il,DF,JH,Tt,MC,GX,GZ,NJ,JW,Ha,Hf,EW,FB,Es,Dk,FQ,OE,DT]at hs ⊢);rw[TY,hnn,←List.append_assoc,show 16*C9 c (p+1)=16*(C9 c p+(u:Int))from by rw[QL];omega];exact hs⟩)
  refine A8 15 0 [0] [[oF],[o0,o0]] [BF ((p:Int)<(c.Aa.xs.length:Int))] [(2,.slice aR5 ((Ei c i++DW c k++KG c p).length) cR5)] rfl ⟨bf,Ae⟩ ?_
  refine AZ [] [] (.slice aR5 ((Ei c i++DW c k++KG c p).length) cR5) Ae ?_
  intro w107 hw107
  have hpo:Ei c i++DW c k++KG c p=AU c:=by rw[show i=c.Aa.xs.length by omega,show k=c.Ac.xs.length by omega,show p=c.Aa.xs.length by omega];rfl
  have hrow:=hw107.at (i:=3) rfl
  (try dsimp only[I4,Io,DI,Il,DF,JH,MC,GX,GZ,JW,Ha,Hf,EW,FB,Es,Dk,FQ,DT]at hrow)
  rw[hpo]at hrow ⊢
  exact⟨_,_,rfl,hz ▸ JF (fun _=>rfl) hrow (by have:=pieces_len hfine;omega),Bg hw107⟩
 refine A8 10 0 [1] [[o0,(ov (i6 (at8 % 16))),oT],[o0,(ov (i6 (at8+1))),o0]] [i6 (Int.tmod (at8) 16)=i6 (at8 % 16),NT (at8 % 16) 0,Wr ((at8:Int)+1) (at8+1)] [(1,pt z),(FQ c k i aR1 cR1),(4,i6 (at8+1))] rfl ⟨congrArg (Value.int .i64) (Ze (by omega) (by omega)),nt,Be,Ae⟩ ?_
 refine Bz (fun a w' hs=>⟨(16*JA c - (at8+1)).toNat,by omega,n80,(at8+1),rfl,by omega,by omega,hs⟩)
def nP(p:Aj):Aj:={ p with Tables:=⟨none,0,p.Tables.xs⟩ }
def nC(p:Aq):Aq:={ p with AX:=⟨none,0,p.AX.xs⟩ }
structure Fold where
 bar:Int
 ps:List Aj
 cs:List Aq
 ch:Int
 fin:Int
def QY(p:Aj)(at_:Int):Aj:=if p.Root=0 then{ p with Root:=at_ / 16 }else{ p with Tables:=⟨none,0,p.Tables.xs++[at_ / 16]⟩ }
def Zo(p:Aq)(y:Ap):Aq:={ p with AX:=⟨none,0,p.AX.xs++[⟨y.Au.Index,y.Au.Port,y.At⟩]⟩ }
def GL(F:Fold)(y:Ap):Fold :=
 if y.Au.Kind=2 then{ F with bar:=y.At,fin:=y.At+y.Size }
 else if y.Au.Kind=3 then{ F with ps:=F.ps.set y.Au.Index.toNat { gd F.ps y.Au.Index.toNat with Lock:=y.At },fin:=y.At+y.Size }
 else if y.Au.Kind=4 then{ F with ps:=F.ps.set y.Au.Index.toNat { gd F.ps y.Au.Index.toNat with Fh:=y.At },fin:=y.At+y.Size }
 else if y.Au.Kind=5 then{ F with ps:=F.ps.set y.Au.Index.toNat { gd F.ps y.Au.Index.toNat with State:=y.At },fin:=y.At+y.Size }
 else if y.Au.Kind=6 then{ F with cs:=F.cs.set y.Au.Index.toNat { gd F.cs y.Au.Index.toNat with Lock:=y.At },ch:=y.Au.Index,fin:=y.At+y.Size }
 else if y.Au.Kind=7 then{ F with cs:=F.cs.set y.Au.Index.toNat { gd F.cs y.Au.Index.toNat with Gw:=y.At },fin:=y.At+y.Size }
 else if y.Au.Kind=8 then{ F with cs:=F.cs.set F.ch.toNat (Zo (gd F.cs F.ch.toNat) y),fin:=y.At+y.Size }
 else{ F with ps:=F.ps.set y.Au.Index.toNat (QY (gd F.ps y.Au.Index.toNat) y.At),fin:=y.At+y.Size }
def Qq(c:Af)(k:Nat):Aq:=⟨0,0,(gd (Ba c (k:Int) true) 0).partition,(gd (Ba c (k:Int) true) 0).port,⟨none,0,[]⟩⟩
def F0(c:Af):Fold:=⟨0,(List.range c.Aa.xs.length).map (fun _=>⟨0,0,0,0,⟨none,0,[]⟩⟩),(List.range c.Ac.xs.length).map (Qq c),0,16*c.Kernel⟩
theorem map_set{α:Type}{n k:Nat}{f g:Nat→α}{v:α}(h1:g k=v)(h2:∀ q,q≠k→g q=f q):((List.range n).map f).set k v=(List.range n).map g:=by
 apply List.ext_getElem (by simp)
 intro i hi hi'
 rw[List.getElem_set]
 simp only[List.getElem_map,List.getElem_range]
 split
 ·rename_i e;subst e;exact h1.symm
 rename_i e;exact(h2 i (fun x=>e x.symm)).symm
theorem SE{α:Type}[Inhabited α]{n k:Nat}{f:Nat→α}(hk:k<n):gd ((List.range n).map f) k=f k:=by rw[DC (by simpa using hk)];simp
def V5(c:Af)(i:Nat):Nat→Aj:=fun p=>if p<i then NU c p else⟨0,0,0,0,⟨none,0,[]⟩⟩
theorem foldP(c:Af):∀ (i:Nat),i≤c.Aa.xs.length→∃ fin,(Ei c i).foldl GL (F0 c)=⟨16*c.Kernel,(List.range c.Aa.xs.length).map (V5 c i),(F0 c).cs,0,fin⟩∧(i=0→fin=16*c.Kernel+2)
 | 0,_=>⟨16*c.Kernel+2,rfl,fun _=>rfl⟩
 | i+1,h=>by
  obtain⟨fin,e, -⟩:=foldP c i (by omega)
  refine⟨Bi c i+2+17+5, ?_,fun h=>by omega⟩
  rw[TZ,List.foldl_append,List.foldl_append,List.foldl_append,e]
  have hl:i<((List.range c.Aa.xs.length).map (V5 c i)).length:=by simp;omega
  have hg:gd ((List.range c.Aa.xs.length).map (V5 c i)) i=⟨0,0,0,0,⟨none,0,[]⟩⟩:=by rw[SE (by omega)];simp[V5]
  simp only[List.foldl_cons,List.foldl_nil,GL,Int.toNat_natCast]
  simp only[if_true,if_false,reduceIte,show ¬ ((3:Int)=2)by decide,show ¬ ((4:Int)=2)by decide,show ¬ ((4:Int)=3)by decide,show ¬ ((5:Int)=2)by decide,show ¬ ((5:Int)=3)by decide,show ¬ ((5:Int)=4)by decide]
  rw[hg,LG hl,List.set_set,LG (by simpa using hl),List.set_set]
  rw[map_set (g:=V5 c (i+1)) (by simp[V5,NU]) (fun q hq=>by unfold V5;by_cases e:q<i <;> simp[e,show(q<i+1)=(q<i∨q=i)by apply propext;omega,hq])]
theorem XA(c:Af)(k:Nat)(b:Int)(ps:List Aj)(cs:List Aq)(hk:k<cs.length)(hc0:(gd cs k).AX=⟨none,0,[]⟩)(fin:Int)(l:List Ee)(hl:∀ j,j<l.length→gd l j=gd (Ba c (k:Int) false) j):∀ (j:Nat),j≤l.length→∃ fin',((List.range j).map (fun j=>Ku c k (gd l j) j)).foldl GL ⟨b,ps,cs,(k:Int),fin⟩=⟨b,ps,cs.set k { gd cs k with AX:=⟨none,0,D8 c k j⟩ },(k:Int),fin'⟩
 | 0,_=>⟨fin,by
  show _=(⟨b,ps,cs.set k { gd cs k with AX:=⟨none,0,[]⟩ },(k:Int),fin⟩:Fold)
  rw[←hc0,show({ gd cs k with AX:=(gd cs k).AX }:Aq)=gd cs k from rfl,DC hk,List.set_getElem_self];rfl⟩
 | j+1,h=>by
  obtain⟨fin',e⟩:=XA c k b ps cs hk hc0 fin l hl j (by omega)
  refine⟨F9 c k j+portOf (gd c.Ac.xs k), ?_⟩
  rw[List.range_succ,List.map_append,List.foldl_append,e]
  simp only[List.map_cons,List.map_nil,List.foldl_cons,List.foldl_nil,GL,Ku,Int.toNat_natCast]
  simp only[if_true,if_false,reduceIte,show ¬ ((8:Int)=2)by decide,show ¬ ((8:Int)=3)by decide,show ¬ ((8:Int)=4)by decide,show ¬ ((8:Int)=5)by decide,show ¬ ((8:Int)=6)by decide,show ¬ ((8:Int)=7)by decide]
  rw[LG hk,List.set_set,Zo,UD,hl j (by omega)]
  rfl
def Ue(c:Af)(k:Nat):Nat→Aq:=fun q=>if q<k then GK c q ⟨none,0,D8 c q (Gg c q)⟩else Qq c q
theorem foldC(c:Af)(b:Int)(ps:List Aj)(fin:Int):∀ (k:Nat),k≤c.Ac.xs.length→∃ ch fin',(DW c k).foldl GL ⟨b,ps,(F0 c).cs,0,fin⟩=⟨b,ps,(List.range c.Ac.xs.length).map (Ue c k),ch,fin'⟩∧(k=0→fin'=fin)
 | 0,_=>⟨0,fin,rfl,fun _=>rfl⟩
 | k+1,h=>by
  obtain⟨ch,fin',e, -⟩:=foldC c b ps fin k (by omega)
  have hg:gd ((List.range c.Ac.xs.length).map (Ue c k)) k=Qq c k:=by rw[SE (by omega)];simp[Ue]
  have hl:k<((List.range c.Ac.xs.length).map (Ue c k)).length:=by simp;omega
  rw[QX,List.foldl_append,e,Ny,List.foldl_append]
  simp only[List.foldl_cons,List.foldl_nil,GL,Int.toNat_natCast]
  simp only[if_true,if_false,reduceIte,show ¬ ((6:Int)=2)by decide,show ¬ ((6:Int)=3)by decide,show ¬ ((6:Int)=4)by decide,show ¬ ((6:Int)=5)by decide,show ¬ ((7:Int)=2)by decide,show ¬ ((7:Int)=3)by decide,show ¬ ((7:Int)=4)by decide,show ¬ ((7:Int)=5)by decide,show ¬ ((7:Int)=6)by decide]
  rw[hg,LG hl,List.set_set]
  obtain⟨fin'',e2⟩:=XA c k b ps (((List.range c.Ac.xs.length).map (Ue c k)).set k { Qq c k with Lock:=Bc c k,Gw:=Bc c k+2 }) (by simpa using hl) (by rw[LG hl];rfl) (Bc c k+2+AB (gd c.Ac.xs k)) (Ba c (k:Int) false) (fun j hj=>rfl) (Ba c (k:Int) false).length (Nat.le_refl _)
  refine⟨(k:Int),fin'', ?_,fun h=>by omega⟩
  rw[Gm,e2,LG hl,List.set_set,map_set (g:=Ue c (k+1)) (by simp only[Ue,Nat.lt_succ_self,if_true];rfl) (fun q hq=>by unfold Ue;by_cases e:q<k <;> simp[e,show(q<k+1)=(q<k∨q=k)by apply propext;omega,hq])]
theorem Xe{c:Af}(hf:Fine c):∀ (p:Nat),1≤C9 c p
 | 0=>by
  have h1:=(PZ hf _ (Nat.le_refl _)).1
  have h2:=hf.kn
  show 1≤JA c
  unfold JA
  unfold Bi at h1
  omega
 | p+1=>by have:=Xe hf p;rw[QL];omega
theorem YO(c:Af)(hf:Fine c)(p:Nat)(b ch fin:Int)(ps:List Aj)(cs:List Aq)(hp:p<ps.length)(h0:gd ps p=NU c p):∀ (u:Nat),(D5 c p (u+1)).foldl GL ⟨b,ps,cs,ch,fin⟩=⟨b,ps.set p (Ey c p ⟨none,0,DY c p u⟩),cs,ch,16*(C9 c p+(u:Int))+16⟩
 | 0=>by
  rw[Ob]
  simp only[D5,List.range_zero,List.map_nil,List.nil_append,List.foldl_cons,List.foldl_nil,GL,Int.toNat_natCast]
  simp only[if_true,if_false,reduceIte,show ¬ ((9:Int)=2)by decide,show ¬ ((9:Int)=3)by decide,show ¬ ((9:Int)=4)by decide,show ¬ ((9:Int)=5)by decide,show ¬ ((9:Int)=6)by decide,show ¬ ((9:Int)=7)by decide,show ¬ ((9:Int)=8)by decide]
  rw[h0]
  have:QY (NU c p) (16*(C9 c p+((0:Nat):Int)))=Ey c p ⟨none,0,DY c p 0⟩:=by
   unfold QY
   rw[if_pos (show(NU c p).Root=0 from rfl)]
   show(⟨Bi c p,Bi c p+2,Bi c p+2+17,_,⟨none,0,[]⟩⟩:Aj)=_
   rw[show 16*(C9 c p+((0:Nat):Int)) / 16=C9 c p by omega];rfl
  rw[this]
 | u+1=>by
  have ht:=Xe hf p
  rw[Ob,List.foldl_append,YO c hf p b ch fin ps cs hp h0 u]
  simp only[List.foldl_cons,List.foldl_nil,GL,Int.toNat_natCast]
  simp only[if_true,if_false,reduceIte,show ¬ ((9:Int)=2)by decide,show ¬ ((9:Int)=3)by decide,show ¬ ((9:Int)=4)by decide,show ¬ ((9:Int)=5)by decide,show ¬ ((9:Int)=6)by decide,show ¬ ((9:Int)=7)by decide,show ¬ ((9:Int)=8)by decide]
  rw[LG hp,List.set_set]
  have:QY (Ey c p ⟨none,0,DY c p u⟩) (16*(C9 c p+((u+1:Nat):Int)))=Ey c p ⟨none,0,DY c p (u+1)⟩:=by
   unfold QY
   rw[if_neg (show ¬ (Ey c p ⟨none,0,DY c p u⟩).Root=0 by show ¬ C9 c p=0;omega)]
   rw[Vy]
   show(⟨Bi c p,Bi c p+2,Bi c p+2+17,C9 c p,⟨none,0,DY c p u++[_]⟩⟩:Aj)=_
   rw[show 16*(C9 c p+((u+1:Nat):Int)) / 16=C9 c p+1+(u:Int)by omega];rfl
  rw[this]
def psT(c:Af)(i:Nat):Nat→Aj:=fun p=>if p<i then Ey c p ⟨none,0,DY c p (Fq (gd c.Aa.xs p))⟩else NU c p
theorem foldT(c:Af)(hf:Fine c)(b ch fin:Int)(cs:List Aq):∀ (i:Nat),i≤c.Aa.xs.length→∃ fin',(KG c i).foldl GL ⟨b,(List.range c.Aa.xs.length).map (psT c 0),cs,ch,fin⟩=⟨b,(List.range c.Aa.xs.length).map (psT c i),cs,ch,fin'⟩∧(i=0→fin'=fin)∧(0<i→fin'=16*C9 c i)
 | 0,_=>⟨fin,rfl,fun _=>rfl,fun h=>by omega⟩
 | i+1,h=>by
  obtain⟨fin',e, -, -⟩:=foldT c hf b ch fin cs i (by omega)
  have hl:i<((List.range c.Aa.xs.length).map (psT c i)).length:=by simp;omega
  refine⟨16*(C9 c i+((Fq (gd c.Aa.xs i):Nat):Int))+16, ?_,fun h=>by omega,fun _ => ?_⟩
  ·rw[TY,List.foldl_append,e,Nat.add_comm 1 (Fq (gd c.Aa.xs i)),YO c hf i b ch fin' _ cs hl (by rw[SE (by omega)];simp[psT])]
   rw[map_set (g:=psT c (i+1)) (by simp[psT]) (fun q hq=>by unfold psT;by_cases e:q<i <;> simp[e,show(q<i+1)=(q<i∨q=i)by apply propext;omega,hq])]
  rw[QL];omega
theorem fold_all(c:Af)(hf:Fine c):∃ ch fin,(AU c).foldl GL (F0 c)=⟨16*c.Kernel,(List.range c.Aa.xs.length).map (psT c c.Aa.xs.length),(List.range c.Ac.xs.length).map (Ue c c.Ac.xs.length),ch,fin⟩∧(fin+16 - 1) / 16=C9 c c.Aa.xs.length:=by
 obtain⟨f1,e1,g1⟩:=foldP c _ (Nat.le_refl _)
 obtain⟨ch,f2,e2,g2⟩:=foldC c (16*c.Kernel) ((List.range c.Aa.xs.length).map (V5 c c.Aa.xs.length)) f1 _ (Nat.le_refl _)
 have hpt:(List.range c.Aa.xs.length).map (V5 c c.Aa.xs.length)=(List.range c.Aa.xs.length).map (psT c 0):=List.map_congr_left fun p hp=>by simp[V5,psT,List.mem_range.1 hp]
 obtain⟨f3,e3,g3,g4⟩:=foldT c hf (16*c.Kernel) ch f2 ((List.range c.Ac.xs.length).map (Ue c c.Ac.xs.length)) _ (Nat.le_refl _)
 refine⟨ch,f3, ?_, ?_⟩
 ·unfold AU
  rw[List.foldl_append,List.foldl_append,e1,e2,hpt,e3]
 by_cases h0:c.Aa.xs.length=0
 ·have hc0:c.Ac.xs.length=0:=by
   rcases Nat.eq_zero_or_pos c.Ac.xs.length with h | h
   ·exact h
   exfalso
   have:=(hf.TP h).1
   rw[OM]at this
   unfold Gx Ew at this
   rw[h0]at this
   simp at this
  have a1:=g1 h0;have a2:=g2 hc0;have a3:=g3 h0
  rw[h0,show C9 c 0=(Bc c c.Ac.xs.length+16 - 1) / 16 from rfl,hc0,show Bc c 0=Bi c c.Aa.xs.length from rfl,h0,show Bi c 0=c.Kernel*16+2+24*((0:Nat):Int)from rfl]
  omega
 have a4:=g4 (by omega)
 omega
theorem KT{α β:Type}[Inhabited α][Inhabited β]{f:α→β}{xs:List α}{n:Nat}(h:n<xs.length):gd (xs.map f) n=f (gd xs n):=by rw[DC (by simpa using h),DC h];simp
theorem P7{α β:Type}[Inhabited α]{f:α→β}{xs:List α}{n:Nat}{T:α}(hn:n<xs.length)(h:f T=f (gd xs n)):(xs.set n T).map f=xs.map f:=by
 rw[List.map_set,h,DC hn,←List.getElem_map (f:=f) (h:=by simpa using hn),List.set_getElem_self]
def AY(c:Af)(m:Nat):Fold:=((AU c).take m).foldl GL (F0 c)
theorem Iy{c:Af}{m:Nat}(h:m<(AU c).length):AY c (m+1)=GL (AY c m) (gd (AU c) m):=by
 unfold AY;rw[take_snoc h,List.foldl_append];rfl
def Rq(c:Af)(y:Ap):Prop:=2≤y.Au.Kind∧y.Au.Kind≤9∧0≤y.At∧y.At≤200000∧0≤y.Size∧y.Size≤1000∧0≤y.Au.Index∧y.Au.Index≤1000∧0≤y.Au.Port∧y.Au.Port≤1000 ∧
 ((y.Au.Kind=3∨y.Au.Kind=4∨y.Au.Kind=5∨y.Au.Kind=9)→y.Au.Index<(c.Aa.xs.length:Int))∧((y.Au.Kind=6∨y.Au.Kind=7)→y.Au.Index<(c.Ac.xs.length:Int))∧(y.Au.Kind=8→1≤c.Ac.xs.length)
theorem pc_mem{c:Af}(hf:Fine c):∀ y∈AU c,Rq c y:=by
 have hkn:=hf.kn;have hpn:=hf.pn;have hcn:=hf.cn
 intro y hy
 unfold AU at hy
 rw[List.mem_append,List.mem_append]at hy
 rcases hy with(hy | hy) | hy
 ·unfold Ei at hy
  rw[List.mem_append]at hy
  rcases hy with hy | hy
  ·simp only[List.mem_singleton]at hy;subst hy;unfold Rq;simp only;omega
  simp only[List.mem_flatMap,List.mem_range]at hy
  obtain⟨i,hi,hy⟩:=hy
  simp only[GM,List.mem_cons,List.not_mem_nil,or_false]at hy
  have hp:Bi c i=c.Kernel*16+2+24*(i:Int):=rfl
  rcases hy with rfl | rfl | rfl <;> (unfold Rq;simp only;omega)
 ·simp only[DW,List.mem_flatMap,List.mem_range]at hy
  obtain⟨k,hk,hy⟩:=hy
  have hb:=PZ hf k (by omega)
  have hp0:Bi c c.Aa.xs.length=c.Kernel*16+2+24*(c.Aa.xs.length:Int):=rfl
  have hs:=KE (gd c.Ac.xs k)
  have hp:=P6 (gd c.Ac.xs k)
  have hd:=hf.TP hk
  unfold Ny at hy
  rw[List.mem_append]at hy
  rcases hy with hy | hy
  ·simp only[List.mem_cons,List.not_mem_nil,or_false]at hy
   rcases hy with rfl | rfl <;> (unfold Rq;simp only;omega)
  simp only[Gm,List.mem_map,List.mem_range]at hy
  obtain⟨j,hj,rfl⟩:=hy
  have hdb:=XU hf hk (show j≤4 by unfold Gg at hd;omega)
  have he:=UW (k:=(k:Int)) (b:=false) (fun i hi=>MG (hf.parts i hi)) hpn (gd (Ba c (k:Int) false) j) (by rw[DC hj];exact List.getElem_mem hj)
  unfold Rq Ku;simp only;omega
 simp only[KG,List.mem_flatMap,List.mem_range]at hy
 obtain⟨p,hp,hy⟩:=hy
 simp only[D5,List.mem_map,List.mem_range]at hy
 obtain⟨u,hu,rfl⟩:=hy
 have ht:=NG hf p (by omega)
 have hn:=Oy (gd c.Aa.xs p)
 unfold Rq;simp only;omega
theorem Wj{c:Af}(hf:Fine c){m:Nat}(h:m<(AU c).length):Rq c (gd (AU c) m):=pc_mem hf _ (by rw[DC h];exact List.getElem_mem h)
theorem WA{F:Nat→Prop}{W:World}{c:Af}(hf:Fine c):∀ i,i<(AU c).length→Ap.ok F W (gd (AU c) i):=fun i hi=>by
 obtain⟨a1,a2,a3,a4,a5,a6,a7,a8,a9,a10, -⟩:=Wj hf hi
 exact⟨Ll a3 (by omega),Ll a5 (by omega),⟨Ll (by omega) (by omega),Ll a7 (by omega),Ll a9 (by omega)⟩⟩
theorem st2(F:Fold)(y:Ap)(h:y.Au.Kind=2):GL F y=⟨y.At,F.ps,F.cs,F.ch,y.At+y.Size⟩:=by unfold GL;rw[if_pos h]
theorem st3(F:Fold)(y:Ap)(h:y.Au.Kind=3):GL F y=⟨F.bar,F.ps.set y.Au.Index.toNat { gd F.ps y.Au.Index.toNat with Lock:=y.At },F.cs,F.ch,y.At+y.Size⟩:=by unfold GL;rw[if_neg (by omega),if_pos h]
theorem st4(F:Fold)(y:Ap)(h:y.Au.Kind=4):GL F y=⟨F.bar,F.ps.set y.Au.Index.toNat { gd F.ps y.Au.Index.toNat with Fh:=y.At },F.cs,F.ch,y.At+y.Size⟩:=by unfold GL;rw[if_neg (by omega),if_neg (by omega),if_pos h]
theorem st5(F:Fold)(y:Ap)(h:y.Au.Kind=5):GL F y=⟨F.bar,F.ps.set y.Au.Index.toNat { gd F.ps y.Au.Index.toNat with State:=y.At },F.cs,F.ch,y.At+y.Size⟩:=by unfold GL;rw[if_neg (by omega),if_neg (by omega),if_neg (by omega),if_pos h]
theorem st6(F:Fold)(y:Ap)(h:y.Au.Kind=6):GL F y=⟨F.bar,F.ps,F.cs.set y.Au.Index.toNat { gd F.cs y.Au.Index.toNat with Lock:=y.At },y.Au.Index,y.At+y.Size⟩:=by unfold GL;rw[if_neg (by omega),if_neg (by omega),if_neg (by omega),if_neg (by omega),if_pos h]
theorem st7(F:Fold)(y:Ap)(h:y.Au.Kind=7):GL F y=⟨F.bar,F.ps,F.cs.set y.Au.Index.toNat { gd F.cs y.Au.Index.toNat with Gw:=y.At },F.ch,y.At+y.Size⟩:=by unfold GL;rw[if_neg (by omega),if_neg (by omega),if_neg (by omega),if_neg (by omega),if_neg (by omega),if_pos h]
theorem st8(F:Fold)(y:Ap)(h:y.Au.Kind=8):GL F y=⟨F.bar,F.ps,F.cs.set F.ch.toNat (Zo (gd F.cs F.ch.toNat) y),F.ch,y.At+y.Size⟩:=by unfold GL;rw[if_neg (by omega),if_neg (by omega),if_neg (by omega),if_neg (by omega),if_neg (by omega),if_neg (by omega),if_pos h]
theorem st9(F:Fold)(y:Ap)(h:y.Au.Kind=9):GL F y=⟨F.bar,F.ps.set y.Au.Index.toNat (QY (gd F.ps y.Au.Index.toNat) y.At),F.cs,F.ch,y.At+y.Size⟩:=by unfold GL;rw[if_neg (by omega),if_neg (by omega),if_neg (by omega),if_neg (by omega),if_neg (by omega),if_neg (by omega),if_neg (by omega)]
theorem Xx{c:Af}(hf:Fine c):∀ (m:Nat),m≤(AU c).length→0≤(AY c m).ch∧((AY c m).ch<(c.Ac.xs.length:Int)∨(AY c m).ch=0)
 | 0,_=>⟨Int.le_refl _,.inr rfl⟩
 | m+1,h=>by
  have ih:=Xx hf m (by omega)
  obtain⟨a1,a2,a3,a4,a5,a6,a7,a8,a9,a10,a11,a12,a13⟩:=Wj hf (show m<(AU c).length by omega)
  rw[Iy (by omega)]
  generalize gd (AU c) m=y at *
  have hk:y.Au.Kind=2∨y.Au.Kind=3∨y.Au.Kind=4∨y.Au.Kind=5∨y.Au.Kind=6∨y.Au.Kind=7∨y.Au.Kind=8∨y.Au.Kind=9:=by omega
  rcases hk with h | h | h | h | h | h | h | h
  ·rw[st2 _ _ h];exact ih
  ·rw[st3 _ _ h];exact ih
  ·rw[st4 _ _ h];exact ih
  ·rw[st5 _ _ h];exact ih
  ·rw[st6 _ _ h];exact⟨a7,.inl (a12 (.inl h))⟩
  ·rw[st7 _ _ h];exact ih
  ·rw[st8 _ _ h];exact ih
  rw[st9 _ _ h];exact ih
theorem Wv{c:Af}(hf:Fine c):(AY c (AU c).length).bar=16*c.Kernel∧(AY c (AU c).length).ps=(List.range c.Aa.xs.length).map (psT c c.Aa.xs.length)∧(AY c (AU c).length).cs=(List.range c.Ac.xs.length).map (Ue c c.Ac.xs.length)∧((AY c (AU c).length).fin+16 - 1) / 16=C9 c c.Aa.xs.length:=by
 obtain⟨ch,fin,e,h⟩:=fold_all c hf
 unfold AY
 rw[List.take_length,e]
 exact⟨rfl,rfl,rfl,h⟩
def Ns(c:Af)(k:Nat):List Aq:=(List.range c.Ac.xs.length).map (fun q=>if q<k then Qq c q else⟨0,0,0,0,⟨none,0,[]⟩⟩)
theorem csUp_zero{c:Af}:Ns c 0=List.replicate c.Ac.xs.length ⟨0,0,0,0,⟨none,0,[]⟩⟩:=by
 unfold Ns;apply List.ext_getElem (by simp);intro i h1 h2;simp
theorem Yv{c:Af}{k:Nat}:(Ns c k).length=c.Ac.xs.length:=by simp[Ns]
theorem csUp_at{c:Af}{k:Nat}(h:k<c.Ac.xs.length):gd (Ns c k) k=⟨0,0,0,0,⟨none,0,[]⟩⟩:=by unfold Ns;rw[SE h];simp
theorem csUp_succ{c:Af}{k:Nat}:(Ns c k).set k (Qq c k)=Ns c (k+1):=by
 unfold Ns
 rw[map_set (g:=fun q=>if q<k+1 then Qq c q else⟨0,0,0,0,⟨none,0,[]⟩⟩) (by simp) (fun q hq=>by by_cases e:q<k <;> simp[e,show(q<k+1)=(q<k∨q=k)by apply propext;omega,hq])]
theorem csUp_all{c:Af}:Ns c c.Ac.xs.length=(F0 c).cs:=List.map_congr_left fun q hq=>by simp[List.mem_range.1 hq]
theorem csUp_nil{c:Af}{k:Nat}:(Ns c k).map Aq.AX=List.replicate c.Ac.xs.length ⟨none,0,[]⟩:=by
 apply List.ext_getElem (by simp[Ns])
 intro i h1 h2
 simp only[Ns,List.getElem_map,List.getElem_range,List.getElem_replicate]
 split <;> rfl
theorem un_nP{c:Af}{p:Nat}{x:Aj}{l:List Int}(h:nP x=Ey c p ⟨none,0,l⟩):∃ a cp,x=Ey c p ⟨a,cp,l⟩:=by
 obtain⟨x1,x2,x3,x4,a,cp,xs⟩:=x
 simp only[nP,Ey,Aj.mk.injEq,Sl.mk.injEq,true_and]at h
 obtain⟨rfl,rfl,rfl,rfl,rfl⟩:=h
 exact⟨a,cp,rfl⟩
theorem un_nC{c:Af}{k:Nat}{x:Aq}{l:List AL}(h:nC x=GK c k ⟨none,0,l⟩):∃ a cp,x=GK c k ⟨a,cp,l⟩:=by
 obtain⟨x1,x2,x3,x4,a,cp,xs⟩:=x
 simp only[nC,GK,Aq.mk.injEq,Sl.mk.injEq,true_and]at h
 obtain⟨rfl,rfl,rfl,rfl,rfl⟩:=h
 exact⟨a,cp,rfl⟩
theorem lay_of{c:Af}(hf:Fine c){ps:List Aj}{cs:List Aq}{a b:Option Addr}{n k:Nat}(h1:ps.map nP=(AY c (AU c).length).ps)(h2:cs.map nC=(AY c (AU c).length).cs):Lm c ⟨(AY c (AU c).length).bar,⟨a,n,ps⟩,⟨b,k,cs⟩,((AY c (AU c).length).fin+16 - 1) / 16⟩:=by
 obtain⟨e1,e2,e3,e4⟩:=Wv hf
 rw[e2]at h1
 rw[e3]at h2
 have hl1:ps.length=c.Aa.xs.length:=by have:=congrArg List.length h1;simpa using this
 have hl2:cs.length=c.Ac.xs.length:=by have:=congrArg List.length h2;simpa using this
 refine⟨by show(AY c (AU c).length).bar=c.Kernel*16;rw[e1];omega,e4,hl1, ?_,hl2, ?_⟩
 ·intro p hp
  refine un_nP (x:=gd ps p) ?_
  rw[←KT (f:=nP) (by omega),h1,SE hp];simp[psT,hp]
 intro k hk
 refine un_nC (x:=gd cs k) ?_
 rw[←KT (f:=nC) (by omega),h2,SE hk];simp[Ue,hk]
theorem PH{α:Type}{p:α→Prop}{xs:List α}{n:Nat}{v:α}(h:∀ x∈xs,p x)(hv:n<xs.length→p v):∀ x∈xs.set n v,p x:=by
 by_cases hn:n<xs.length
 ·intro x hx
  rcases List.mem_or_eq_of_mem_set hx with hx | rfl
  ·exact h x hx
  exact hv hn
 rw[List.set_eq_of_length_le (by omega)];exact h
theorem OU{α:Type}[Inhabited α]{xs:List α}{n:Nat}(h:n<xs.length):gd xs n∈xs:=by rw[DC h];exact List.getElem_mem h
theorem UB{c:Af}(hf:Fine c):∀ (m:Nat),m≤(AU c).length→(∀ x∈(AY c m).ps,x.Tables.xs.length≤m)∧(∀ x∈(AY c m).cs,x.AX.xs.length≤m)
 | 0,_=>by
  constructor
  ·intro x hx
   simp only[AY,List.take_zero,List.foldl_nil,F0,List.mem_map]at hx
   obtain⟨_,_,rfl⟩:=hx;exact Nat.le_refl _
  intro x hx
  simp only[AY,List.take_zero,List.foldl_nil,F0,List.mem_map]at hx
  obtain⟨_,_,rfl⟩:=hx;exact Nat.le_refl _
 | m+1,h=>by
  obtain⟨i1,i2⟩:=UB hf m (by omega)
  have j1:∀ x∈(AY c m).ps,x.Tables.xs.length≤m+1:=fun x hx=>Nat.le_succ_of_le (i1 x hx)
  have j2:∀ x∈(AY c m).cs,x.AX.xs.length≤m+1:=fun x hx=>Nat.le_succ_of_le (i2 x hx)
  obtain⟨a1,a2, -⟩:=Wj hf (show m<(AU c).length by omega)
  rw[Iy (by omega)]
  generalize gd (AU c) m=y at *
  have hk:y.Au.Kind=2∨y.Au.Kind=3∨y.Au.Kind=4∨y.Au.Kind=5∨y.Au.Kind=6∨y.Au.Kind=7∨y.Au.Kind=8∨y.Au.Kind=9:=by omega
  rcases hk with h | h | h | h | h | h | h | h
  ·rw[st2 _ _ h];exact⟨j1,j2⟩
  ·rw[st3 _ _ h];exact⟨PH j1 (fun hn=>show(gd (AY c m).ps y.Au.Index.toNat).Tables.xs.length≤m+1 from j1 _ (OU hn)),j2⟩
  ·rw[st4 _ _ h];exact⟨PH j1 (fun hn=>show(gd (AY c m).ps y.Au.Index.toNat).Tables.xs.length≤m+1 from j1 _ (OU hn)),j2⟩
  ·rw[st5 _ _ h];exact⟨PH j1 (fun hn=>show(gd (AY c m).ps y.Au.Index.toNat).Tables.xs.length≤m+1 from j1 _ (OU hn)),j2⟩
  ·rw[st6 _ _ h];exact⟨j1,PH j2 (fun hn=>show(gd (AY c m).cs y.Au.Index.toNat).AX.xs.length≤m+1 from j2 _ (OU hn))⟩
  ·rw[st7 _ _ h];exact⟨j1,PH j2 (fun hn=>show(gd (AY c m).cs y.Au.Index.toNat).AX.xs.length≤m+1 from j2 _ (OU hn))⟩
  ·rw[st8 _ _ h]
   refine⟨j1,PH j2 (fun hn => ?_)⟩
   have:=i2 _ (OU hn)
   simp only[Zo,List.length_append,List.length_singleton];omega
  rw[st9 _ _ h]
  refine⟨PH j1 (fun hn => ?_),j2⟩
  have:=i1 _ (OU hn)
  unfold QY
  split
  ·exact Nat.le_succ_of_le this
  simp only[List.length_append,List.length_singleton];omega
theorem tabF_pos{p:Aj}{a:Int}(h:p.Root=0):QY p a={ p with Root:=a / 16 }:=by unfold QY;rw[if_pos h]
theorem tabF_neg{p:Aj}{a:Int}(h:¬ p.Root=0):QY p a={ p with Tables:=⟨none,0,p.Tables.xs++[a / 16]⟩ }:=by unfold QY;rw[if_neg h]
def SortedIn(l:List Ap)(a b:Int):Prop:=l.Pairwise (fun x y=>x.At+x.Size≤y.At)∧(∀ y∈l,a≤y.At∧0≤y.Size∧y.At+y.Size≤b)∧a≤b
theorem SortedIn.nil{a b:Int}(h:a≤b):SortedIn [] a b:=⟨List.Pairwise.nil,fun y hy=>absurd hy List.not_mem_nil,h⟩
theorem SortedIn.one{y:Ap}{a b:Int}(h1:a≤y.At)(h2:0≤y.Size)(h3:y.At+y.Size≤b):SortedIn [y] a b:=⟨List.pairwise_singleton _ _,fun x hx=>by simp only[List.mem_singleton]at hx;subst hx;exact⟨h1,h2,h3⟩,by omega⟩
theorem SortedIn.app{l m:List Ap}{a b c:Int}(h:SortedIn l a b)(k:SortedIn m b c):SortedIn (l++m) a c:=by
 refine⟨List.pairwise_append.2 ⟨h.1,k.1,fun x hx y hy => ?_⟩,fun y hy => ?_,Int.le_trans h.2.2 k.2.2⟩
 ·have:=h.2.1 x hx;have:=k.2.1 y hy;omega
 have h1:=h.2.2;have h2:=k.2.2
 rcases List.mem_append.1 hy with hy | hy
 ·have:=h.2.1 y hy;omega
 have:=k.2.1 y hy;omega
theorem SortedIn.weaken{l:List Ap}{a b b':Int}(h:SortedIn l a b)(hb:b≤b'):SortedIn l a b':=⟨h.1,fun y hy=>by have:=h.2.1 y hy;omega,by have:=h.2.2;omega⟩
theorem XY(c:Af):∀ (i:Nat),SortedIn (Ei c i) (16*c.Kernel) (Bi c i)
 | 0=>SortedIn.one (y:=⟨16*c.Kernel,2,⟨2,0,0⟩⟩) (Int.le_refl _) (by simp only;decide) (by unfold Bi;simp only;omega)
 | i+1=>by
  rw[TZ]
  refine(((XY c i).app (SortedIn.one (b:=Bi c i+2) (Int.le_refl _) (by simp only;decide) (Int.le_refl _))).app (SortedIn.one (b:=Bi c i+2+17) (Int.le_refl _) (by simp only;decide) (Int.le_refl _))).app (SortedIn.one (Int.le_refl _) (by simp only;decide) ?_)
  unfold Bi;simp only;omega
theorem Ux(c:Af)(k:Nat)(l:List Ee):∀ (j:Nat),SortedIn ((List.range j).map (fun j=>Ku c k (gd l j) j)) (F9 c k 0) (F9 c k j)
 | 0=>SortedIn.nil (Int.le_refl _)
 | j+1=>by
  have hp:=P6 (gd c.Ac.xs k)
  rw[List.range_succ,List.map_append]
  exact(Ux c k l j).app (SortedIn.one (Int.le_refl _) hp.1 (by rw[V9];exact Int.le_refl _))
theorem YI(c:Af):∀ (k:Nat),SortedIn (DW c k) (Bc c 0) (Bc c k)
 | 0=>SortedIn.nil (Int.le_refl _)
 | k+1=>by
  have hs:=KE (gd c.Ac.xs k)
  rw[QX,Ny,VC]
  have h2:SortedIn ([⟨Bc c k,2,⟨6,(k:Int),0⟩⟩]++[⟨Bc c k+2,AB (gd c.Ac.xs k),⟨7,(k:Int),0⟩⟩]) (Bc c k) (F9 c k 0) :=
   (SortedIn.one (b:=Bc c k+2) (Int.le_refl _) (by simp only;decide) (Int.le_refl _)).app (SortedIn.one (Int.le_refl _) hs.1 (by unfold F9;simp only;omega))
  exact(YI c k).app (h2.app (Ux c k _ _))
theorem Vr(c:Af)(p:Nat):∀ (n:Nat),SortedIn (D5 c p n) (16*C9 c p) (16*(C9 c p+(n:Int)))
 | 0=>SortedIn.nil (by omega)
 | n+1=>by
  rw[Ob]
  exact(Vr c p n).app (SortedIn.one (Int.le_refl _) (by simp only;decide) (by simp only;omega))
theorem Y8(c:Af):∀ (p:Nat),SortedIn (KG c p) (16*C9 c 0) (16*C9 c p)
 | 0=>SortedIn.nil (Int.le_refl _)
 | p+1=>by
  rw[TY]
  exact(Y8 c p).app ((Vr c p _).weaken (by rw[QL];omega))
theorem ZJ(c:Af):SortedIn (AU c) (16*c.Kernel) (16*C9 c c.Aa.xs.length):=by
 unfold AU
 refine((XY c _).app (YI c _)).weaken (b':=16*C9 c 0) ?_ |>.app (Y8 c _)
 show Bc c c.Ac.xs.length≤16*JA c
 unfold JA;omega
def hit(at_:Int)(y:Ap):Bool:=decide (y.At≤at_∧at_<y.At+y.Size)
theorem hit_once{l:List Ap}{a b at_:Int}(h:SortedIn l a b):∀ x∈l,∀ y∈l,hit at_ x=true→hit at_ y=true→x=y:=by
 have hp:=h.1
 have hall:=h.2.1
 clear h
 induction l with
 | nil=>intro x hx;cases hx
 | cons z l ih =>
  rw[List.pairwise_cons]at hp
  intro x hx y hy h1 h2
  unfold hit at h1 h2
  rw[decide_eq_true_eq]at h1 h2
  rcases List.mem_cons.1 hx with rfl | hx' <;> rcases List.mem_cons.1 hy with rfl | hy'
  ·rfl
  ·have:=hp.1 y hy';omega
  ·have:=hp.1 x hx';omega
  exact ih hp.2 (fun q hq=>hall q (List.mem_cons_of_mem _ hq)) x hx' y hy' (by unfold hit;exact decide_eq_true h1) (by unfold hit;exact decide_eq_true h2)
theorem ZL{α:Type}{p:α→Bool}{l m:List α}(hlm:l.Perm m)(h:∀ x∈l,∀ y∈l,p x=true→p y=true→x=y):l.find? p=m.find? p:=by
 cases h1:l.find? p with
 | none =>
  rw[List.find?_eq_none]at h1
  symm;rw[List.find?_eq_none]
  exact fun x hx=>h1 x (hlm.mem_iff.2 hx)
 | some x =>
  have hx:=List.mem_of_find?_eq_some h1
  have hpx:=List.find?_some h1
  cases h2:m.find? p with
  | none=>rw[List.find?_eq_none]at h2;exact absurd hpx (h2 x (hlm.mem_iff.1 hx))
  | some y =>
   have hy:=hlm.mem_iff.2 (List.mem_of_find?_eq_some h2)
   rw[h x hx y hy hpx (List.find?_some h2)]
theorem X7{α:Type}(A B:Nat→List α):∀ (n:Nat),((List.range n).flatMap (fun i=>A i++B i)).Perm ((List.range n).flatMap A++(List.range n).flatMap B)
 | 0=>by simp
 | n+1=>by
  rw[List.range_succ,List.flatMap_append,List.flatMap_append,List.flatMap_append]
  simp only[List.flatMap_cons,List.flatMap_nil,List.append_nil]
  refine((X7 A B n).append_right _).trans ?_
  rw[List.append_assoc,List.append_assoc]
  refine List.Perm.append_left _ ?_
  rw[←List.append_assoc,←List.append_assoc]
  exact List.Perm.append_right _ List.perm_append_comm
def E8(c:Af):List Ap:=[⟨16*c.Kernel,2,⟨2,0,0⟩⟩]++(List.range c.Aa.xs.length).flatMap (fun i=>GM c i++D5 c i (1+Fq (gd c.Aa.xs i)))++DW c c.Ac.xs.length
theorem VB(c:Af):(AU c).Perm (E8 c):=by
 unfold AU E8 Ei KG
 rw[List.append_assoc,List.append_assoc,List.append_assoc]
 refine List.Perm.append_left _ (List.Perm.symm ?_)
 refine((X7 _ _ _).append_right _).trans ?_
 rw[List.append_assoc]
 exact List.Perm.append_left _ List.perm_append_comm
theorem VE(c:Af)(at_:Int):(AU c).find? (hit at_)=(E8 c).find? (hit at_):=ZL (VB c) (hit_once (ZJ c))
def hasF(fr:Int)(g:Ar):Bool:=decide (0≤g.Frame∧g.Frame≤1024∧g.Frame≤fr∧fr<g.Frame+g.CE)
def TC(fr:Int)(x:Ah):Bool:=x.Ag.xs.any (hasF fr)
def Hw(c:Af)(fr:Int):Option Nat:=(List.range c.Aa.xs.length).find? (fun p=>TC fr (gd c.Aa.xs p))
def TM(c:Af)(fr:Int):Int:=(((Hw c fr).getD 0:Nat):Int)
theorem VY{f:Nat→Bool}{n i:Nat}(hi:i<n)(h1:∀ p,p<i→f p=false)(h2:f i=true):(List.range n).find? f=some i:=by
 rw[List.find?_range_eq_some]
 exact⟨h2,List.mem_range.2 hi,fun j hj=>by simp[h1 j hj]⟩
theorem RD{f:Nat→Bool}{n:Nat}(h:∀ p,p<n→f p=false):(List.range n).find? f=none:=by
 rw[List.find?_eq_none]
 intro x hx
 simp[h x (List.mem_range.1 hx)]
section
variable (n2:Nat)(y11:Ah)(z:Nat)(c:Af)(b4 o5:Nat)(b15 o16 j:Nat)
abbrev Ld:=bk n2 (Ah.arr y11) 52
abbrev IX:=bk z (Af.arr c) 26
abbrev Hm:Dq:=(11,.slice (some ⟨b4,o5,none⟩) c.Aa.xs.length c.Aa.cap)
abbrev MO:Dq:=(19,.slice (some ⟨b15,o16,none⟩) y11.Ag.xs.length y11.Ag.cap)
abbrev MP:Dq:=(11,.slice c.Aa.a c.Aa.xs.length c.Aa.cap)
abbrev Lh:Dq:=(19,.slice y11.Ag.a y11.Ag.xs.length y11.Ag.cap)
abbrev FT:=(12,Ad c.Aa.xs.length)
abbrev I9:=(20,Ad y11.Ag.xs.length)
abbrev Lt:=(21,i6 ((j+1:Nat):Int))
end
theorem Yc(w:World)(c:Af)(fr:Int)(hc:Af.ok Any w c)(hok:BZ c=true):Calls Try.prog 19 #[.agg (Af.arr c),.int .i64 fr] w fun e w'=>e = .returned (.tuple #[.int .i64 (TM c fr),.bool (Hw c fr).isSome])∧BN (fun _=>False) w w':=by
 obtain⟨z,hz⟩:∃ z,z=w.heap.size:=⟨_,rfl⟩
 refine BV (args:=[.agg (Af.arr c),i6 fr]) 51 ⟨w,z,[(Ak w)]⟩ Try.func19 rfl (by kernel_rfl) (by kernel_rfl) (Fv hz) ?_
 have hfine:=MW hok;have hkn:=hfine.kn;have hpn:=hfine.pn;have hcn:=hfine.cn
 refine Eb [0,1] [(0,.agg (Af.arr c)),(1,i6 fr)] ?_
 refine q_c 10 0 [] [[o0,o0,o0],[o0,(a1 1),o0,o0]] [Qb z] [(1,i6 fr),(MP c),(FT c),(13,i6 0)] ⟨w,z+1,[(Ak w),(IX z c)]⟩ rfl ⟨rfl,Ae⟩ ?_
 refine Ce (fun m a w'=>∃ (n2:Nat) (i:Nat),m=c.Aa.xs.length - i∧z+1≤n2∧(i≤c.Aa.xs.length)∧(∀ p,p<i→TC fr (gd c.Aa.xs p)=false)∧St 51 [(1,i6 fr),(MP c),(FT c),(13,Ad i)] [] ⟨w,n2,[(Ak w),(IX z c)]⟩ a w') (c.Aa.xs.length - 0) ?_ ?_
 ·intro a w' hs;exact⟨(z+1),0,rfl,Nat.le_refl _,Nat.zero_le _,fun q hq=>absurd hq (Nat.not_lt_zero q),hs⟩
 rintro m a w' ⟨n2,i,rfl,hn1,hki,hi0,hs⟩
 refine(?_:G Try.prog 51 [(1,i6 fr),(MP c),(FT c),(13,Ad i)] [] ⟨w,n2,[(Ak w),(IX z c)]⟩ _ _ _) a w' hs
 clear hs a w'
 refine CP ?_
 by_cases h3:(i:Int)<(c.Aa.xs.length:Int)
 ·refine A8 10 0 [1] [[oT]] [BT ((i:Int)<(c.Aa.xs.length:Int))] [(1,i6 fr),(MP c),(FT c),(13,Ad i),(14,.bool true)] rfl ⟨bt,Ae⟩ ?_
  obtain⟨b4,o5,ha6,hF8,hc7⟩:=(hc.Aa).1.all (show 0<c.Aa.xs.length by omega)
  replace ha6:c.Aa.a=some ⟨b4,o5,none⟩:=ha6
  refine IZ [(1,i6 fr),(Hm c b4 o5),(FT c),(13,Ad i),(14,.bool true)] (by(try dsimp only[IX,Hm,MP,FT]);simp only[ha6]) ?_
  have hc9:=hc7 i (show i<c.Aa.xs.length by omega)
  have he10:=(hc.Aa).2 i (show i<c.Aa.xs.length by omega)
  obtain⟨y11,hy11⟩:∃ y_,y_=gd c.Aa.xs i:=⟨_,rfl⟩
  rw[←hy11]at he10 hc9
  have hpt:=hfine.parts i (by omega);rw[←hy11]at hpt;have hrr:=TA hpt;have hlr:=he10.Ag.1.len
  refine q_c 8 0 [] [[o0,(oi i),(ol 0 (Ah.arr y11)),o0,o0,(an 8 2)],[o0,(a1 2),o0,o0]] [BI i,i<c.Aa.xs.length,Bq,Eh w b4 (o5+i*8) (Ah.arr y11),Qb n2,Qb n2,Qb n2,Qb n2,Qb n2,Qb n2,Qb n2,Qb n2,Qb n2] [(1,i6 fr),(6,Ad i),(Hm c b4 o5),(FT c),(13,Ad i),(Lh y11),(I9 y11),(21,i6 0)] ⟨w,n2+1,[(Ak w),(IX z c),(Ld n2 y11)]⟩ rfl ⟨rfl,(by omega),rfl,CB hc9,rfl,rfl,rfl,rfl,rfl,rfl,rfl,rfl,rfl,Ae⟩ ?_
  refine Ce (fun m a w'=>∃ (n13:Nat) (j:Nat),m=y11.Ag.xs.length - j∧n2+1≤n13∧(j≤y11.Ag.xs.length)∧(∀ q,q<j→hasF fr (gd y11.Ag.xs q)=false)∧St 51 [(1,i6 fr),(6,Ad i),(Hm c b4 o5),(FT c),(13,Ad i),(Lh y11),(I9 y11),(21,Ad j)] [] ⟨w,n13,[(Ak w),(IX z c),(Ld n2 y11)]⟩ a w') (y11.Ag.xs.length - 0) ?_ ?_
  ·intro a w' hs;exact⟨(n2+1),0,rfl,Nat.le_refl _,Nat.zero_le _,fun q hq=>absurd hq (Nat.not_lt_zero q),hs⟩
  rintro m a w' ⟨n13,j,rfl,hn12,hkj,hj0,hs⟩
  refine(?_:G Try.prog 51 [(1,i6 fr),(6,Ad i),(Hm c b4 o5),(FT c),(13,Ad i),(Lh y11),(I9 y11),(21,Ad j)] [] ⟨w,n13,[(Ak w),(IX z c),(Ld n2 y11)]⟩ _ _ _) a w' hs
  clear hs a w'
  refine CP ?_
  by_cases h14:(j:Int)<(y11.Ag.xs.length:Int)
  ·refine A8 10 0 [1] [[oT]] [BT ((j:Int)<(y11.Ag.xs.length:Int))] [(1,i6 fr),(6,Ad i),(Hm c b4 o5),(FT c),(13,Ad i),(Lh y11),(I9 y11),(21,Ad j),(22,.bool true)] rfl ⟨bt,Ae⟩ ?_
   obtain⟨b15,o16,ha17,hF19,hc18⟩:=(he10.Ag).1.all (show 0<y11.Ag.xs.length by omega)
   replace ha17:y11.Ag.a=some ⟨b15,o16,none⟩:=ha17
   refine IZ [(1,i6 fr),(6,Ad i),(Hm c b4 o5),(FT c),(13,Ad i),(MO y11 b15 o16),(I9 y11),(21,Ad j),(22,.bool true)] (by(try dsimp only[Ld,IX,Hm,MO,MP,Lh,FT,I9]);simp only[ha17]) ?_
   have hc20:=hc18 j (show j<y11.Ag.xs.length by omega)
   have he21:=(he10.Ag).2 j (show j<y11.Ag.xs.length by omega)
   obtain⟨y22,hy22⟩:∃ y_,y_=gd y11.Ag.xs j:=⟨_,rfl⟩
   rw[←hy22]at he21 hc20
   have hrg:=hrr j (by omega);rw[←hy22]at hrg;unfold I7 at hrg;rw[decide_eq_true_eq]at hrg
   refine q_c 4 0 [] [[(oi j),(ol 0 (Ar.arr y22)),o0,(an 4 3)]] [BI j,j<y11.Ag.xs.length,Bq,Eh w b15 (o16+j*4) (Ar.arr y22),Qb n13,Qb n13,Qb n13,Qb n13] [(1,i6 fr),(6,Ad i),(Hm c b4 o5),(FT c),(13,Ad i),(MO y11 b15 o16),(I9 y11),(21,Ad j),(9,pt n13)] ⟨w,n13+1,[(Ak w),(IX z c),(Ld n2 y11),(bk n13 (Ar.arr y22) 54)]⟩ rfl ⟨rfl,(by omega),rfl,CB hc20,rfl,rfl,rfl,rfl,Ae⟩ ?_
   by_cases h23:(y22.Frame:Int)<0
   ·refine A8 9 0 [0] [[o0,(a1 3),oF,o0,o0,o0,o0,o0,o0],[(ov (i6 ((j+1:Nat):Int))),o0]] [Qb n13,BF ((y22.Frame:Int)≥0),Wr ((j:Int)+1) (((j+1:Nat):Int))] [(1,i6 fr),(6,Ad i),(Hm c b4 o5),(FT c),(13,Ad i),(MO y11 b15 o16),(I9 y11),(Lt j)] rfl ⟨rfl,bf,Be,Ae⟩ ?_
    refine BO [0,1,2] [(Ak w),(IX z c),(Ld n2 y11)] rfl rfl ?_
    refine EP [1,6,11,12,13,19,20,21] [(1,i6 fr),(6,Ad i),(Hm c b4 o5),(FT c),(13,Ad i),(Lh y11),(I9 y11),(Lt j)] (by(try dsimp only[Ld,IX,Hm,MO,MP,Lh,FT,I9,Lt]);simp only[ha17];rfl) ?_
    refine Bz (fun a w' hs=>⟨y11.Ag.xs.length - (j+1),by omega,(n13+1),(j+1),rfl,by omega,by omega,upto hj0 (by rw[←hy22];exact decide_eq_false (by omega)),hs⟩)
   by_cases h24:(1024:Int)<y22.Frame
   ·refine A8 9 0 [0] [[o0,(a1 3),oT,o0,o0,(a1 3),oF,o0,o0,o0,o0,o0],[(ov (i6 ((j+1:Nat):Int))),o0]] [Qb n13,BT ((y22.Frame:Int)≥0),Qb n13,BF ((y22.Frame:Int)≤1024),Wr ((j:Int)+1) (((j+1:Nat):Int))] [(1,i6 fr),(6,Ad i),(Hm c b4 o5),(FT c),(13,Ad i),(MO y11 b15 o16),(I9 y11),(Lt j)] rfl ⟨rfl,bt,rfl,bf,Be,Ae⟩ ?_
    refine BO [0,1,2] [(Ak w),(IX z c),(Ld n2 y11)] rfl rfl ?_
    refine EP [1,6,11,12,13,19,20,21] [(1,i6 fr),(6,Ad i),(Hm c b4 o5),(FT c),(13,Ad i),(Lh y11),(I9 y11),(Lt j)] (by(try dsimp only[Ld,IX,Hm,MO,MP,Lh,FT,I9,Lt]);simp only[ha17];rfl) ?_
    refine Bz (fun a w' hs=>⟨y11.Ag.xs.length - (j+1),by omega,(n13+1),(j+1),rfl,by omega,by omega,upto hj0 (by rw[←hy22];exact decide_eq_false (by omega)),hs⟩)
   by_cases h25:(fr:Int)<y22.Frame
   ·refine A8 9 0 [0] [[o0,(a1 3),oT,o0,o0,(a1 3),oT,o0,o0,o0,o0,(a1 3),oF,o0,o0,o0],[(ov (i6 ((j+1:Nat):Int))),o0]] [Qb n13,BT ((y22.Frame:Int)≥0),Qb n13,BT ((y22.Frame:Int)≤1024),Qb n13,BF ((fr:Int)≥y22.Frame),Wr ((j:Int)+1) (((j+1:Nat):Int))] [(1,i6 fr),(6,Ad i),(Hm c b4 o5),(FT c),(13,Ad i),(MO y11 b15 o16),(I9 y11),(Lt j)] rfl ⟨rfl,bt,rfl,bt,rfl,bf,Be,Ae⟩ ?_
    refine BO [0,1,2] [(Ak w),(IX z c),(Ld n2 y11)] rfl rfl ?_
    refine EP [1,6,11,12,13,19,20,21] [(1,i6 fr),(6,Ad i),(Hm c b4 o5),(FT c),(13,Ad i),(Lh y11),(I9 y11),(Lt j)] (by(try dsimp only[Ld,IX,Hm,MO,MP,Lh,FT,I9,Lt]);simp only[ha17];rfl) ?_
    refine Bz (fun a w' hs=>⟨y11.Ag.xs.length - (j+1),by omega,(n13+1),(j+1),rfl,by omega,by omega,upto hj0 (by rw[←hy22];exact decide_eq_false (by omega)),hs⟩)
   by_cases h26:(fr:Int)<y22.Frame+y22.CE
   ·refine A8 9 0 [1] [[o0,(a1 3),oT,o0,o0,(a1 3),oT,o0,o0,o0,o0,(a1 3),oT,o0,o0,o0,o0,(a1 3),o0,(a1 3),(ov (i6 (y22.Frame+y22.CE))),oT,o0],[o0,o0,o0]] [Qb n13,BT ((y22.Frame:Int)≥0),Qb n13,BT ((y22.Frame:Int)≤1024),Qb n13,BT ((fr:Int)≥y22.Frame),Qb n13,Qb n13,Wr ((y22.Frame:Int)+y22.CE) (y22.Frame+y22.CE),BT ((fr:Int)<(y22.Frame+y22.CE))] [(4,Ad i),(5,.bool true)] rfl ⟨rfl,bt,rfl,bt,rfl,bt,rfl,rfl,Be,bt,Ae⟩ ?_
    refine AZ [] [] (.tuple #[(Ad i),.bool true]) Ae ?_
    intro w27 hw27
    have hF:Hw c fr=some i:=VY (by omega) hi0 (by rw[←hy11];exact WY (k:=j) (by omega) (by rw[←hy22];exact decide_eq_true ⟨by omega,by omega,by omega,by omega⟩))
    refine⟨?_,Bg hw27⟩
    unfold TM;rw[hF];rfl
   refine A8 9 0 [0] [[o0,(a1 3),oT,o0,o0,(a1 3),oT,o0,o0,o0,o0,(a1 3),oT,o0,o0,o0,o0,(a1 3),o0,(a1 3),(ov (i6 (y22.Frame+y22.CE))),oF,o0],[(ov (i6 ((j+1:Nat):Int))),o0]] [Qb n13,BT ((y22.Frame:Int)≥0),Qb n13,BT ((y22.Frame:Int)≤1024),Qb n13,BT ((fr:Int)≥y22.Frame),Qb n13,Qb n13,Wr ((y22.Frame:Int)+y22.CE) (y22.Frame+y22.CE),BF ((fr:Int)<(y22.Frame+y22.CE)),Wr ((j:Int)+1) (((j+1:Nat):Int))] [(1,i6 fr),(6,Ad i),(Hm c b4 o5),(FT c),(13,Ad i),(MO y11 b15 o16),(I9 y11),(Lt j)] rfl ⟨rfl,bt,rfl,bt,rfl,bt,rfl,rfl,Be,bf,Be,Ae⟩ ?_
   refine BO [0,1,2] [(Ak w),(IX z c),(Ld n2 y11)] rfl rfl ?_
   refine EP [1,6,11,12,13,19,20,21] [(1,i6 fr),(6,Ad i),(Hm c b4 o5),(FT c),(13,Ad i),(Lh y11),(I9 y11),(Lt j)] (by(try dsimp only[Ld,IX,Hm,MO,MP,Lh,FT,I9,Lt]);simp only[ha17];rfl) ?_
   refine Bz (fun a w' hs=>⟨y11.Ag.xs.length - (j+1),by omega,(n13+1),(j+1),rfl,by omega,by omega,upto hj0 (by rw[←hy22];exact decide_eq_false (by omega)),hs⟩)
  refine A8 13 0 [0] [[oF],[(ov (i6 ((i+1:Nat):Int))),o0]] [BF ((j:Int)<(y11.Ag.xs.length:Int)),Wr ((i:Int)+1) (((i+1:Nat):Int))] [(1,i6 fr),(Hm c b4 o5),(FT c),(13,i6 ((i+1:Nat):Int))] rfl ⟨bf,Be,Ae⟩ ?_
  refine BO [0,1] [(Ak w),(IX z c)] rfl rfl ?_
  refine EP [1,11,12,13] [(1,i6 fr),(MP c),(FT c),(13,i6 ((i+1:Nat):Int))] (by(try dsimp only[Ld,IX,Hm,MO,MP,Lh,FT,I9,Lt]);simp only[ha6];rfl) ?_
  refine Bz (fun a w' hs=>⟨c.Aa.xs.length - (i+1),by omega,n13,(i+1),rfl,by omega,by omega,upto hi0 (by rw[←hy11];exact YH (fun q hq=>hj0 q (by omega))),hs⟩)
 refine A8 15 0 [0] [[oF],[o0,o0]] [BF ((i:Int)<(c.Aa.xs.length:Int))] [(4,i6 0),(5,.bool false)] rfl ⟨bf,Ae⟩ ?_
 refine AZ [] [] (.tuple #[i6 0,.bool false]) Ae ?_
 intro w28 hw28
 have hF:Hw c fr=none:=RD (fun p hp=>hi0 p (by omega))
 refine⟨?_,Bg hw28⟩
 unfold TM;rw[hF];rfl
end Go.Proofs.Ytlhjneaafhoipaa.Ly
namespace Go.Proofs.Ytlhjneaafhoipaa.Eng
open Go Go.Proofs.Ytlhjneaafhoipaa.Mem
set_option linter.unusedSimpArgs false
set_option linter.unusedVariables false
theorem Sat.conv{A:AW}{w:World}(h:Sat A w){i:Nat}{c c':Ch}(hi:A.σ[i]? = some c)(hk:c'.key=c.key)(hh:c.holds w→c'.holds w)(hst:c'.stable):Sat { A with σ:=A.σ.set i c' } w:=by
 have hlt:i<A.σ.length:=(List.getElem?_eq_some_iff.1 hi).1
 have hci:A.σ[i]=c:=(List.getElem?_eq_some_iff.1 hi).2
 have hin:∀ d∈A.σ.set i c',d∈A.σ∨d=c':=fun d hd=>List.mem_or_eq_of_mem_set hd
 have hcm:c∈A.σ:=List.mem_of_getElem? hi
 refine⟨h.os,h.tape,h.output,h.size,fun d hd => ?_,fun d hd b hb => ?_,fun d hd => ?_, ?_⟩
 ·rcases hin d hd with hd | rfl
  ·exact h.all d hd
  exact hh (h.all c hcm)
 ·rcases hin d hd with hd | rfl
  ·exact h.bnd d hd b hb
  have hF:d.F=c.F:=congrArg Prod.fst hk
  rw[hF]at hb
  exact h.bnd c hcm b hb
 ·rcases hin d hd with hd | rfl
  ·exact h.Oh d hd
  exact hst
 show((A.σ.set i c').map Ch.key).Pairwise Key.apart
 have:(A.σ.set i c').map Ch.key=A.σ.map Ch.key:=by
  rw[List.map_set,hk,←hci,←List.getElem_map (f:=Ch.key) (h:=by simpa using hlt),List.set_getElem_self]
 rw[this];exact h.Om
theorem Sat.blkrow{α:Type}{A:AW}{w:World}(h:Sat A w){i b base:Nat}{e:TypeId}{sz:Nat}{cells:α→List Value}{xs:List α}{cs:Array Value}(hi:A.σ[i]? = some (.blk b (.cells cs e (0,0)) true))(hx:xs.flatMap cells=cs.toList)(hl:cs.size=xs.length*sz)(hb:base≤b)(hm:xs.length≤maxLen):Sat { A with σ:=A.σ.set i (AV base e sz cells (.slice (some ⟨b,0,none⟩) xs.length xs.length) xs) } w:=by
 refine h.conv hi ?_ (fun hw => ?_) (MH _ _ _ _ _ _)
 ·show(_,true)=(_,true)
  congr 1
  funext k
  apply propext
  show some b=some k↔k=b
  exact⟨fun e=>(Option.some.inj e).symm,fun e=>by rw[e]⟩
 have hw':w.heap[b]? = some (.cells cs e (0,0)):=hw
 show w.ownsRow base e sz (.slice (some ⟨b,0,none⟩) xs.length xs.length) xs.length (xs.flatMap cells)
 refine⟨by rw[hx];simpa using hl,.inr ⟨b,xs.length,cs,rfl,hb,hw',Nat.le_refl _,hm,hl, ?_⟩⟩
 rw[hx]
 exact List.take_of_length_le (Nat.le_of_eq (by rw[←hl,Array.length_toList]))
section
variable {P:Program}{N:Nat}{env:Env}{ds:List Deferred}{A:AW}{ops:Array Oper}{l:List Oper}{s:List Kt}{Q:Exit→Act→World→Prop}{c:Code}
theorem g_blkrow{α:Type}(i b base:Nat)(e:TypeId)(sz:Nat)(cells:α→List Value)(xs:List α)(cs:Array Value)(hb:base≤b)(K:G P N env ds { A with σ:=A.σ.set i (AV base e sz cells (.slice (some ⟨b,0,none⟩) xs.length xs.length) xs) } c s Q)(hi:A.σ[i]? = some (.blk b (.cells cs e (0,0)) true):=by rfl)(hx:xs.flatMap cells=cs.toList:=by rfl)(hl:cs.size=xs.length*sz:=by rfl)(hm:Nat.ble xs.length 1000=true:=by rfl):G P N env ds A c s Q :=
 fun a w hst=>K a w ⟨hst.sz,hst.df,hst.kn,hst.mem.blkrow hi hx hl hb (Nat.le_trans (Nat.le_of_ble_eq_true hm) (by decide))⟩
end
end Go.Proofs.Ytlhjneaafhoipaa.Eng
namespace Go.Proofs.Ytlhjneaafhoipaa.Ly
open Go Go.Proofs.Ytlhjneaafhoipaa.Eng Go.Proofs.Ytlhjneaafhoipaa.Mem
set_option linter.unusedSimpArgs false
set_option linter.unusedVariables false
set_option maxRecDepth 100000
def Dy(c:Af)(i:Nat):List Ap:=[⟨16*c.Kernel,2,⟨2,0,0⟩⟩]++(List.range i).flatMap (fun i=>GM c i++D5 c i (1+Fq (gd c.Aa.xs i)))
theorem X5{c:Af}{i:Nat}:Dy c (i+1)=Dy c i++GM c i++D5 c i (1+Fq (gd c.Aa.xs i)):=by
 unfold Dy;rw[List.range_succ,List.flatMap_append];simp
theorem Yn{c:Af}:∀ (i:Nat),(Dy c i).length≤1+20*i
 | 0=>by simp[Dy]
 | i+1=>by
  have h1:=Yn (c:=c) i
  have h2:=Oy (gd c.Aa.xs i)
  rw[X5,List.length_append,List.length_append,Qn]
  have:(GM c i).length=3:=rfl
  omega
def N8(c:Af)(k j:Nat):List Ap:=(List.range j).map (fun q=>Ku c k (gd (Ba c (k:Int) false) q) q)
theorem ZT{c:Af}{k j:Nat}:N8 c k (j+1)=N8 c k j++[Ku c k (gd (Ba c (k:Int) false) j) j]:=by unfold N8;rw[List.range_succ,List.map_append];rfl
theorem pcDj_len{c:Af}{k j:Nat}:(N8 c k j).length=j:=by simp[N8]
theorem pcChan_dj{c:Af}{k n:Nat}(h:Gg c k=n):Ny c k=[⟨Bc c k,2,⟨6,(k:Int),0⟩⟩]++[⟨Bc c k+2,AB (gd c.Ac.xs k),⟨7,(k:Int),0⟩⟩]++N8 c k n:=by subst h;rfl
theorem pcC_dj{c:Af}{l:List Ap}{k n:Nat}(h:Gg c k=n):l++DW c (k+1)=l++DW c k++[⟨Bc c k,2,⟨6,(k:Int),0⟩⟩]++[⟨Bc c k+2,AB (gd c.Ac.xs k),⟨7,(k:Int),0⟩⟩]++N8 c k n:=by
 rw[QX,pcChan_dj h];simp only[List.append_assoc]
theorem VM{c:Af}(hf:Fine c):(E8 c).length≤400:=by rw[←(VB c).length_eq];exact pieces_len hf
theorem ps_is{c:Af}{L:Bj}(hI:Lm c L){i:Nat}(hi:i<c.Aa.xs.length){y:Aj}(hy:y=gd L.Aa.xs i):y.Lock=Bi c i∧y.Fh=Bi c i+2∧y.State=Bi c i+2+17∧y.Root=C9 c i∧y.Tables.xs.length=Fq (gd c.Aa.xs i)∧∀ k,k<Fq (gd c.Aa.xs i)→gd y.Tables.xs k=C9 c i+1+(k:Int):=by
 obtain⟨p,q,e⟩:=hI.ps i hi
 rw[←hy]at e
 rw[e]
 exact⟨rfl,rfl,rfl,rfl,Ql,fun k hk=>Td hk⟩
theorem cs_is{c:Af}{L:Bj}(hI:Lm c L){k:Nat}(hk:k<c.Ac.xs.length){y:Aq}(hy:y=gd L.Ac.xs k):y.Lock=Bc c k∧y.Gw=Bc c k+2∧y.AX.xs.length=Gg c k∧∀ j,j<Gg c k→gd y.AX.xs j=KH c k j:=by
 obtain⟨p,q,e⟩:=hI.cs k hk
 rw[←hy]at e
 rw[e]
 exact⟨rfl,rfl,PR,fun j hj=>Td hj⟩
theorem dest_is{c:Af}{k j:Nat}{d:AL}{h:Aw}(hd:d=KH c k j)(hh:h=gd c.Ac.xs k):Ku c k (gd (Ba c (k:Int) false) j) j=⟨d.At,portOf h,⟨8,d.Partition,d.Port⟩⟩:=by subst hd hh;rfl
theorem part_is{c:Af}{i:Nat}{l:List Ap}{y:Aj}{T:Prop}(h:y.Lock=Bi c i∧y.Fh=Bi c i+2∧y.State=Bi c i+2+17∧y.Root=C9 c i∧T):l++GM c i++D5 c i (1+0)=l++[⟨y.Lock,2,⟨3,(i:Int),0⟩⟩]++[⟨y.Fh,17,⟨4,(i:Int),0⟩⟩]++[⟨y.State,5,⟨5,(i:Int),0⟩⟩]++[⟨y.Root*16,16,⟨9,(i:Int),0⟩⟩]:=by
 obtain⟨h1,h2,h3,h4, -⟩:=h
 rw[h1,h2,h3,h4]
 have h5:D5 c i (1+0)=[⟨C9 c i*16,16,⟨9,(i:Int),0⟩⟩]:=by
  unfold D5
  simp[List.range_succ,Int.mul_comm]
 rw[h5]
 simp[GM]
section
variable (z:Nat)(ax112:Option Addr)(c:Af)(i k:Nat)(y81:Aw)(j:Nat)(y104:AL)(cp113:Nat)(ax25:Option Addr)(y11:Aj)(cp26:Nat)(aR3:Option Addr)(cR3:Nat)(ax19:Option Addr)(cp20:Nat)(ax69:Option Addr)(y67:Aq)(cp70 n107:Nat)(ax13:Option Addr)(cp14 n84:Nat)(n27 n58:Nat)(n2 n37:Nat)(y46:Int)(n15 n21:Nat)(aR1:Option Addr)(cR1:Nat)(aR2:Option Addr)(cR2:Nat)(aR0:Option Addr)(cR0 n95:Nat)(la:Bj)(n71:Nat)(ax89:Option Addr)(cp90:Nat)(ax48:Option Addr)(cp49 b4:Nat)(o5 b60:Nat)(o61 b97:Nat)(o98 b74:Nat)(o75 cp56:Nat)(ax55:Option Addr)(w w54:World)
abbrev Rt:=bk (z+3) #[.slice ax112 ((Dy c i++DW c k++[(⟨Bc c k,2,(⟨6,(k:Int),0⟩:A7)⟩:Ap)]++[(⟨Bc c k+2,AB y81,(⟨7,(k:Int),0⟩:A7)⟩:Ap)]++N8 c k j++[(⟨y104.At,portOf y81,(⟨8,y104.Partition,y104.Port⟩:A7)⟩:Ap)]).length) cp113] 78
abbrev VN:=bk (z+3) #[.slice ax25 ((((Dy c i++[(⟨y11.Lock,2,(⟨3,(i:Int),0⟩:A7)⟩:Ap)])++[(⟨y11.Fh,17,(⟨4,(i:Int),0⟩:A7)⟩:Ap)])++[(⟨y11.State,5,(⟨5,(i:Int),0⟩:A7)⟩:Ap)]).length) cp26] 78
abbrev JP:=bk (z+3) #[.slice aR3 ((Dy c i++DW c k++[(⟨Bc c k,2,(⟨6,(k:Int),0⟩:A7)⟩:Ap)]++[(⟨Bc c k+2,AB y81,(⟨7,(k:Int),0⟩:A7)⟩:Ap)]++N8 c k j).length) cR3] 78
abbrev YG:=bk (z+3) #[.slice ax19 (((Dy c i++[(⟨y11.Lock,2,(⟨3,(i:Int),0⟩:A7)⟩:Ap)])++[(⟨y11.Fh,17,(⟨4,(i:Int),0⟩:A7)⟩:Ap)]).length) cp20] 78
abbrev PT:=bk (z+3) #[.slice ax69 ((Dy c i++DW c k++[(⟨y67.Lock,2,(⟨6,(k:Int),0⟩:A7)⟩:Ap)]).length) cp70] 78
abbrev QG:=bk n107 #[i6 y104.At,i6 (portOf y81),i6 8,i6 y104.Partition,i6 y104.Port] 81
abbrev Yl:=bk (z+3) #[.slice ax13 ((Dy c i++[(⟨y11.Lock,2,(⟨3,(i:Int),0⟩:A7)⟩:Ap)]).length) cp14] 78
abbrev IU:=bk n84 #[i6 y67.Gw,i6 (AB y81),i6 7,Ad k,i6 0] 81
abbrev Ik:=bk n27 #[i6 (y11.Root*16),i6 16,i6 9,Ad i,i6 0] 81
abbrev Gf:=bk (n58+1) #[i6 y67.Lock,i6 2,i6 6,Ad k,i6 0] 81
abbrev ED:=bk (n2+1) #[i6 y11.Lock,i6 2,i6 3,Ad i,i6 0] 81
abbrev Qs:=bk n37 #[i6 (y46*16),i6 16,i6 9,Ad i,i6 0] 81
abbrev EZ:=bk n15 #[i6 y11.Fh,i6 17,i6 4,Ad i,i6 0] 81
abbrev FC:=bk n21 #[i6 y11.State,i6 5,i6 5,Ad i,i6 0] 81
abbrev H7:=bk (z+3) #[.slice aR1 ((Dy c i++GM c i++D5 c i (1+k)).length) cR1] 78
abbrev J4:=bk (z+3) #[.slice aR2 ((Dy c i++DW c k).length) cR2] 78
abbrev FW:=bk (z+3) #[.slice aR0 ((Dy c i).length) cR0] 78
abbrev NI:=bk (n95+1) (Aw.arr y81) 108
abbrev Ep:=bk n2 (Aj.arr y11) 69
abbrev EM:=bk n58 (Aq.arr y67) 62
abbrev KO:=bk n95 (AL.arr y104) 71
abbrev BU:=bk (z+1) (Bj.arr la) 31
abbrev Gp:=bk n71 (Aw.arr y81) 108
abbrev BR:=bk z (Af.arr c) 26
abbrev P9:=AV z 81 5 Ap.cells (.slice ax112 ((Dy c i++DW c k++[(⟨Bc c k,2,(⟨6,(k:Int),0⟩:A7)⟩:Ap)]++[(⟨Bc c k+2,AB y81,(⟨7,(k:Int),0⟩:A7)⟩:Ap)]++N8 c k j++[(⟨y104.At,portOf y81,(⟨8,y104.Partition,y104.Port⟩:A7)⟩:Ap)]).length) cp113) (Dy c i++DW c k++[(⟨Bc c k,2,(⟨6,(k:Int),0⟩:A7)⟩:Ap)]++[(⟨Bc c k+2,AB y81,(⟨7,(k:Int),0⟩:A7)⟩:Ap)]++N8 c k j++[(⟨y104.At,portOf y81,(⟨8,y104.Partition,y104.Port⟩:A7)⟩:Ap)])
abbrev Vf:=AV z 81 5 Ap.cells (.slice ax25 ((((Dy c i++[(⟨y11.Lock,2,(⟨3,(i:Int),0⟩:A7)⟩:Ap)])++[(⟨y11.Fh,17,(⟨4,(i:Int),0⟩:A7)⟩:Ap)])++[(⟨y11.State,5,(⟨5,(i:Int),0⟩:A7)⟩:Ap)]).length) cp26) (((Dy c i++[(⟨y11.Lock,2,(⟨3,(i:Int),0⟩:A7)⟩:Ap)])++[(⟨y11.Fh,17,(⟨4,(i:Int),0⟩:A7)⟩:Ap)])++[(⟨y11.State,5,(⟨5,(i:Int),0⟩:A7)⟩:Ap)])
abbrev Jj:=AV z 81 5 Ap.cells (.slice aR3 ((Dy c i++DW c k++[(⟨Bc c k,2,(⟨6,(k:Int),0⟩:A7)⟩:Ap)]++[(⟨Bc c k+2,AB y81,(⟨7,(k:Int),0⟩:A7)⟩:Ap)]++N8 c k j).length) cR3) (Dy c i++DW c k++[(⟨Bc c k,2,(⟨6,(k:Int),0⟩:A7)⟩:Ap)]++[(⟨Bc c k+2,AB y81,(⟨7,(k:Int),0⟩:A7)⟩:Ap)]++N8 c k j)
abbrev Vj:=AV z 81 5 Ap.cells (.slice ax89 (((Dy c i++DW c k++[(⟨y67.Lock,2,(⟨6,(k:Int),0⟩:A7)⟩:Ap)])++[(⟨y67.Gw,AB y81,(⟨7,(k:Int),0⟩:A7)⟩:Ap)]).length) cp90) ((Dy c i++DW c k++[(⟨y67.Lock,2,(⟨6,(k:Int),0⟩:A7)⟩:Ap)])++[(⟨y67.Gw,AB y81,(⟨7,(k:Int),0⟩:A7)⟩:Ap)])
abbrev Xg:=AV z 81 5 Ap.cells (.slice ax19 (((Dy c i++[(⟨y11.Lock,2,(⟨3,(i:Int),0⟩:A7)⟩:Ap)])++[(⟨y11.Fh,17,(⟨4,(i:Int),0⟩:A7)⟩:Ap)]).length) cp20) ((Dy c i++[(⟨y11.Lock,2,(⟨3,(i:Int),0⟩:A7)⟩:Ap)])++[(⟨y11.Fh,17,(⟨4,(i:Int),0⟩:A7)⟩:Ap)])
abbrev QC:=AV z 81 5 Ap.cells (.slice ax48 ((Dy c i++GM c i++D5 c i (1+k)++[(⟨y46*16,16,(⟨9,(i:Int),0⟩:A7)⟩:Ap)]).length) cp49) (Dy c i++GM c i++D5 c i (1+k)++[(⟨y46*16,16,(⟨9,(i:Int),0⟩:A7)⟩:Ap)])
abbrev O4:=AV z 81 5 Ap.cells (.slice ax69 ((Dy c i++DW c k++[(⟨y67.Lock,2,(⟨6,(k:Int),0⟩:A7)⟩:Ap)]).length) cp70) (Dy c i++DW c k++[(⟨y67.Lock,2,(⟨6,(k:Int),0⟩:A7)⟩:Ap)])
abbrev WZ:=AV z 81 5 Ap.cells (.slice ax13 ((Dy c i++[(⟨y11.Lock,2,(⟨3,(i:Int),0⟩:A7)⟩:Ap)]).length) cp14) (Dy c i++[(⟨y11.Lock,2,(⟨3,(i:Int),0⟩:A7)⟩:Ap)])
abbrev H6:=AV z 81 5 Ap.cells (.slice aR1 ((Dy c i++GM c i++D5 c i (1+k)).length) cR1) (Dy c i++GM c i++D5 c i (1+k))
abbrev Jt:=AV z 81 5 Ap.cells (.slice aR2 ((Dy c i++DW c k).length) cR2) (Dy c i++DW c k)
abbrev FY:=AV z 81 5 Ap.cells (.slice aR0 ((Dy c i).length) cR0) (Dy c i)
abbrev EE:Dq:=(23,.slice (some ⟨b4,o5,none⟩) la.Aa.xs.length la.Aa.cap)
abbrev ES:Dq:=(68,.slice (some ⟨b60,o61,none⟩) la.Ac.xs.length la.Ac.cap)
abbrev FX:Dq:=(23,.slice la.Aa.a la.Aa.xs.length la.Aa.cap)
abbrev Mc:Dq:=(92,.slice (some ⟨b97,o98,none⟩) y67.AX.xs.length y67.AX.cap)
abbrev J3:Dq:=(68,.slice la.Ac.a la.Ac.xs.length la.Ac.cap)
abbrev FO:Dq:=(11,.slice (some ⟨b74,o75,none⟩) c.Ac.xs.length cp56)
abbrev Cc:Dq:=(6,.func (.func 34) #[] #[pt (z+3)])
abbrev G8:Dq:=(52,.slice y11.Tables.a y11.Tables.xs.length y11.Tables.cap)
abbrev KR:Dq:=(92,.slice y67.AX.a y67.AX.xs.length y67.AX.cap)
abbrev DN:=(24,Ad la.Aa.xs.length)
abbrev Ec:=(69,Ad la.Ac.xs.length)
abbrev FP:=(53,Ad y11.Tables.xs.length)
abbrev Iw:=(93,Ad y67.AX.xs.length)
abbrev Iu:Dq:=(11,.slice ax55 c.Ac.xs.length cp56)
abbrev DJ:=(3,pt (z+1))
abbrev BH:=(5,pt (z+3))
abbrev MZ:=(13,pt n58)
abbrev SH:=[(Ak w),(BR z c),(BU z la),(Vj z c i k y81 y67 ax89 cp90),(bk (z+3) #[.slice ax89 (((Dy c i++DW c k++[(⟨y67.Lock,2,(⟨6,(k:Int),0⟩:A7)⟩:Ap)])++[(⟨y67.Gw,AB y81,(⟨7,(k:Int),0⟩:A7)⟩:Ap)]).length) cp90] 78),(mid n2 w54),(EM y67 n58),(Gf k y67 n58),(Gp y81 n71),(IU k y81 y67 n84)]
abbrev Hy:=[(Ak w),(BR z c),(BU z la),(H6 z c i k aR1 cR1),(H7 z c i k aR1 cR1),(Ep y11 n2),(ED i y11 n2),(EZ i y11 n15),(FC i y11 n21),(Ik i y11 n27)]
end
theorem YK(w:World)(c:Af)(la:Bj)(hc:Af.ok Any w c)(hla:Bj.ok Any w la)(hok:BZ c=true)(hI:Lm c la):Calls Try.prog 18 #[.agg (Af.arr c),.agg (Bj.arr la)] w fun e w'=>∃ a cp,e = .returned (.slice a (E8 c).length cp)∧Jd Ap.cells 5 (New w.heap.size) w' ⟨a,cp,E8 c⟩∧BN (fun _=>False) w w':=by
 obtain⟨z,hz⟩:∃ z,z=w.heap.size:=⟨_,rfl⟩
 refine BV (args:=[.agg (Af.arr c),.agg (Bj.arr la)]) 115 ⟨w,z,[(Ak w)]⟩ Try.func18 rfl (by kernel_rfl) (by kernel_rfl) (Fv hz) ?_
 have hfine:=MW hok;have hkn:=hfine.kn;have hpn:=hfine.pn;have hcn:=hfine.cn;have hB:la.Ji=16*c.Kernel:=(by have:=hI.bar;omega);have hpl:=hI.pl;have hcl:=hI.cl;have hp0:Bi c c.Aa.xs.length=c.Kernel*16+2+24*(c.Aa.xs.length:Int):=rfl
 refine Eb [0,1] [(0,.agg (Af.arr c)),(1,.agg (Bj.arr la))] ?_
 refine q_c 18 0 [] [[o0,o0,o0],[o0,(a1 2),o0,o0,o0,o0,(a1 4)],[o0,o0],[o0,(a1 2),o0,o0]] [Qb (z+1),Qb (z+3),Qb (z+1)] [(2,pt z),(DJ z),(BH z),(Cc z),(FX la),(DN la),(25,i6 0)] ⟨w,z+4,[(Ak w),(BR z c),(BU z la),(bk (z+2) #[i6 la.Ji,i6 2,i6 2,i6 0,i6 0] 81),(bk (z+3) #[.slice (some ⟨z+2,0,none⟩) 1 1] 78)]⟩ rfl ⟨rfl,rfl,rfl,Ae⟩ ?_
 refine g_blkrow 3 (z+2) z 81 5 Ap.cells [(⟨la.Ji,2,(⟨2,0,0⟩:A7)⟩:Ap)] #[i6 la.Ji,i6 2,i6 2,i6 0,i6 0] (by omega) (?_:G _ _ _ _ ⟨w,z+4,[(Ak w),(BR z c),(BU z la),(AV z 81 5 Ap.cells (.slice (some ⟨z+2,0,none⟩) 1 1) ([(⟨la.Ji,2,(⟨2,0,0⟩:A7)⟩:Ap)])),(bk (z+3) #[.slice (some ⟨z+2,0,none⟩) 1 1] 78)]⟩ _ _ _)
 refine Ce (fun m a w'=>∃ (n2:Nat) (i:Nat) (aR0:Option Addr) (cR0:Nat),m=la.Aa.xs.length - i∧z+4≤n2∧(i≤la.Aa.xs.length)∧St 115 [(2,pt z),(DJ z),(BH z),(Cc z),(FX la),(DN la),(25,Ad i)] [] ⟨w,n2,[(Ak w),(BR z c),(BU z la),(FY z c i aR0 cR0),(FW z c i aR0 cR0)]⟩ a w') (la.Aa.xs.length - 0) ?_ ?_
 ·intro a w' hs;exact⟨(z+4),0,(some ⟨z+2,0,none⟩),1,rfl,Nat.le_refl _,Nat.zero_le _,by(try dsimp only[FW,BU,BR,FY,FX,Cc,DN,DJ,BH]at hs ⊢);rw[show Dy c 0=[(⟨la.Ji,2,(⟨2,0,0⟩:A7)⟩:Ap)]from by rw[hB];rfl];exact hs⟩
 rintro m a w' ⟨n2,i,aR0,cR0,rfl,hn1,hki,hs⟩
 refine(?_:G Try.prog 115 [(2,pt z),(DJ z),(BH z),(Cc z),(FX la),(DN la),(25,Ad i)] [] ⟨w,n2,[(Ak w),(BR z c),(BU z la),(FY z c i aR0 cR0),(FW z c i aR0 cR0)]⟩ _ _ _) a w' hs
 clear hs a w'
 have hlu:=Yn (c:=c) i
 refine CP ?_
 by_cases h3:(i:Int)<(la.Aa.xs.length:Int)
 ·refine A8 10 0 [1] [[oT]] [BT ((i:Int)<(la.Aa.xs.length:Int))] [(2,pt z),(DJ z),(BH z),(Cc z),(FX la),(DN la),(25,Ad i),(26,.bool true)] rfl ⟨bt,Ae⟩ ?_
  obtain⟨b4,o5,ha6,hF8,hc7⟩:=(hla.Aa).1.all (show 0<la.Aa.xs.length by omega)
  replace ha6:la.Aa.a=some ⟨b4,o5,none⟩:=ha6
  refine IZ [(2,pt z),(DJ z),(BH z),(Cc z),(EE la b4 o5),(DN la),(25,Ad i),(26,.bool true)] (by(try dsimp only[FW,BU,BR,FY,EE,FX,Cc,DN,DJ,BH]);simp only[ha6]) ?_
  have hc9:=hc7 i (show i<la.Aa.xs.length by omega)
  have he10:=(hla.Aa).2 i (show i<la.Aa.xs.length by omega)
  obtain⟨y11,hy11⟩:∃ y_,y_=gd la.Aa.xs i:=⟨_,rfl⟩
  rw[←hy11]at he10 hc9
  have hPy11:=ps_is hI (show i<c.Aa.xs.length by omega) hy11;have htny11:=hPy11.2.2.2.2.1;have htb:=NG hfine i (by omega);have hnl:=Oy (gd c.Aa.xs i);have hpA:Bi c i=c.Kernel*16+2+24*(i:Int):=rfl
  refine q_c 5 4 [] [[o0,(oi i),(ol 0 (Aj.arr y11)),o0,o0,(an 5 5)],[o0,o0,(a1 5),o0]] [BI i,i<la.Aa.xs.length,Bq,Eh w b4 (o5+i*5) (Aj.arr y11),Qb n2,Qb n2,Qb n2,Qb n2,Qb n2,Qb n2] [(2,pt z),(DJ z),(BH z),(Cc z),(EE la b4 o5),(DN la),(25,Ad i),(8,pt n2),(7,Ad i),(30,.func (.func 34) #[] #[pt (z+3)]),(32,i6 y11.Lock),(33,Ad i)] ⟨w,n2+1,[(Ak w),(BR z c),(BU z la),(FY z c i aR0 cR0),(FW z c i aR0 cR0),(Ep y11 n2)]⟩ rfl ⟨rfl,(by omega),rfl,CB hc9,rfl,rfl,rfl,rfl,rfl,rfl,Ae⟩ ?_
  refine l_call [] [] 34 #[i6 y11.Lock,i6 2,i6 3,Ad i,i6 0,pt (z+3)] (some 34) Ae ?_
  intro w12 hw12
  refine BV (args:=[i6 y11.Lock,i6 2,i6 3,Ad i,i6 0,pt (z+3)]) 21 ⟨w,n2+1,[(Ak w),(BR z c),(BU z la),(FY z c i aR0 cR0),(FW z c i aR0 cR0),(Ep y11 n2)]⟩ Try.func34 rfl (by kernel_rfl) (by kernel_rfl) hw12 ?_
  refine q_c 1 9 [] [[(a1 4),o0,o0,o0,o0,o0,o0,o0,o0]] [Qb (z+3)] [(BH z),(11,.slice aR0 ((Dy c i).length) cR0),(19,.slice (some ⟨n2+1,0,none⟩) 1 1)] ⟨w,n2+2,[(Ak w),(BR z c),(BU z la),(FY z c i aR0 cR0),(FW z c i aR0 cR0),(Ep y11 n2),(ED i y11 n2)]⟩ rfl ⟨rfl,Ae⟩ ?_
  refine Fe z 3 6 (Dy c i) [(⟨y11.Lock,2,(⟨3,(i:Int),0⟩:A7)⟩:Ap)] Ap.cells 81 5 40 (.slice aR0 ((Dy c i).length) cR0) (n2+1) 1 1 #[i6 y11.Lock,i6 2,i6 3,Ad i,i6 0] 81 (0,0) true (some 20) (by simp only[List.length_cons,List.length_nil,List.length_append];omega) (show z≤n2+2 by omega) (fun ax13 cp14 n15 (hn16:n2+2≤n15) => ?_)
  refine Hu 1 0 [] [[(a1 4)]] [Qb (z+3)] [] ⟨w,n15,[(Ak w),(BR z c),(BU z la),(WZ z c i y11 ax13 cp14),(Yl z c i y11 ax13 cp14),(Ep y11 n2),(ED i y11 n2)]⟩ rfl ⟨rfl,Ae⟩ ?_
  -- the function's end
  refine RI [] [] (.tuple #[]) Ae ?_
  intro w17 hw17
  refine⟨_,_,rfl,hw17, ?_⟩
  refine Di 4 4 [] [[],[o0,o0,(a1 5),o0]] [Qb n2] [(2,pt z),(DJ z),(BH z),(Cc z),(EE la b4 o5),(DN la),(25,Ad i),(8,pt n2),(7,Ad i),(35,.func (.func 34) #[] #[pt (z+3)]),(37,i6 y11.Fh),(38,Ad i)] rfl ⟨rfl,Ae⟩ ?_
  refine l_call [] [] 34 #[i6 y11.Fh,i6 17,i6 4,Ad i,i6 0,pt (z+3)] (some 39) Ae ?_
  intro w18 hw18
  refine BV (args:=[i6 y11.Fh,i6 17,i6 4,Ad i,i6 0,pt (z+3)]) 21 ⟨w,n15,[(Ak w),(BR z c),(BU z la),(WZ z c i y11 ax13 cp14),(Yl z c i y11 ax13 cp14),(Ep y11 n2),(ED i y11 n2)]⟩ Try.func34 rfl (by kernel_rfl) (by kernel_rfl) hw18 ?_
  refine q_c 1 9 [] [[(a1 4),o0,o0,o0,o0,o0,o0,o0,o0]] [Qb (z+3)] [(BH z),(11,.slice ax13 ((Dy c i++[(⟨y11.Lock,2,(⟨3,(i:Int),0⟩:A7)⟩:Ap)]).length) cp14),(19,.slice (some ⟨n15,0,none⟩) 1 1)] ⟨w,n15+1,[(Ak w),(BR z c),(BU z la),(WZ z c i y11 ax13 cp14),(Yl z c i y11 ax13 cp14),(Ep y11 n2),(ED i y11 n2),(EZ i y11 n15)]⟩ rfl ⟨rfl,Ae⟩ ?_
  refine Fe z 3 7 (Dy c i++[(⟨y11.Lock,2,(⟨3,(i:Int),0⟩:A7)⟩:Ap)]) [(⟨y11.Fh,17,(⟨4,(i:Int),0⟩:A7)⟩:Ap)] Ap.cells 81 5 40 (.slice ax13 ((Dy c i++[(⟨y11.Lock,2,(⟨3,(i:Int),0⟩:A7)⟩:Ap)]).length) cp14) n15 1 1 #[i6 y11.Fh,i6 17,i6 4,Ad i,i6 0] 81 (0,0) true (some 20) (by simp only[List.length_cons,List.length_nil,List.length_append];omega) (show z≤n15+1 by omega) (fun ax19 cp20 n21 (hn22:n15+1≤n21) => ?_)
  refine Hu 1 0 [] [[(a1 4)]] [Qb (z+3)] [] ⟨w,n21,[(Ak w),(BR z c),(BU z la),(Xg z c i y11 ax19 cp20),(YG z c i y11 ax19 cp20),(Ep y11 n2),(ED i y11 n2),(EZ i y11 n15)]⟩ rfl ⟨rfl,Ae⟩ ?_
  -- the function's end
  refine RI [] [] (.tuple #[]) Ae ?_
  intro w23 hw23
  refine⟨_,_,rfl,hw23, ?_⟩
  refine Di 4 4 [] [[],[o0,o0,(a1 5),o0]] [Qb n2] [(2,pt z),(DJ z),(BH z),(Cc z),(EE la b4 o5),(DN la),(25,Ad i),(8,pt n2),(7,Ad i),(40,.func (.func 34) #[] #[pt (z+3)]),(42,i6 y11.State),(43,Ad i)] rfl ⟨rfl,Ae⟩ ?_
  refine l_call [] [] 34 #[i6 y11.State,i6 5,i6 5,Ad i,i6 0,pt (z+3)] (some 44) Ae ?_
  intro w24 hw24
  refine BV (args:=[i6 y11.State,i6 5,i6 5,Ad i,i6 0,pt (z+3)]) 21 ⟨w,n21,[(Ak w),(BR z c),(BU z la),(Xg z c i y11 ax19 cp20),(YG z c i y11 ax19 cp20),(Ep y11 n2),(ED i y11 n2),(EZ i y11 n15)]⟩ Try.func34 rfl (by kernel_rfl) (by kernel_rfl) hw24 ?_
  refine q_c 1 9 [] [[(a1 4),o0,o0,o0,o0,o0,o0,o0,o0]] [Qb (z+3)] [(BH z),(11,.slice ax19 (((Dy c i++[(⟨y11.Lock,2,(⟨3,(i:Int),0⟩:A7)⟩:Ap)])++[(⟨y11.Fh,17,(⟨4,(i:Int),0⟩:A7)⟩:Ap)]).length) cp20),(19,.slice (some ⟨n21,0,none⟩) 1 1)] ⟨w,n21+1,[(Ak w),(BR z c),(BU z la),(Xg z c i y11 ax19 cp20),(YG z c i y11 ax19 cp20),(Ep y11 n2),(ED i y11 n2),(EZ i y11 n15),(FC i y11 n21)]⟩ rfl ⟨rfl,Ae⟩ ?_
  refine Fe z 3 8 ((Dy c i++[(⟨y11.Lock,2,(⟨3,(i:Int),0⟩:A7)⟩:Ap)])++[(⟨y11.Fh,17,(⟨4,(i:Int),0⟩:A7)⟩:Ap)]) [(⟨y11.State,5,(⟨5,(i:Int),0⟩:A7)⟩:Ap)] Ap.cells 81 5 40 (.slice ax19 (((Dy c i++[(⟨y11.Lock,2,(⟨3,(i:Int),0⟩:A7)⟩:Ap)])++[(⟨y11.Fh,17,(⟨4,(i:Int),0⟩:A7)⟩:Ap)]).length) cp20) n21 1 1 #[i6 y11.State,i6 5,i6 5,Ad i,i6 0] 81 (0,0) true (some 20) (by simp only[List.length_cons,List.length_nil,List.length_append];omega) (show z≤n21+1 by omega) (fun ax25 cp26 n27 (hn28:n21+1≤n27) => ?_)
  refine Hu 1 0 [] [[(a1 4)]] [Qb (z+3)] [] ⟨w,n27,[(Ak w),(BR z c),(BU z la),(Vf z c i ax25 y11 cp26),(VN z c i ax25 y11 cp26),(Ep y11 n2),(ED i y11 n2),(EZ i y11 n15),(FC i y11 n21)]⟩ rfl ⟨rfl,Ae⟩ ?_
  -- the function's end
  refine RI [] [] (.tuple #[]) Ae ?_
  intro w29 hw29
  refine⟨_,_,rfl,hw29, ?_⟩
  refine Di 4 5 [] [[],[o0,o0,(a1 5),(ov (i6 (y11.Root*16))),o0]] [Qb n2,Wr ((y11.Root:Int)*16) (y11.Root*16)] [(2,pt z),(DJ z),(BH z),(Cc z),(EE la b4 o5),(DN la),(25,Ad i),(8,pt n2),(7,Ad i),(45,.func (.func 34) #[] #[pt (z+3)]),(48,i6 (y11.Root*16)),(49,Ad i)] rfl ⟨rfl,Be,Ae⟩ ?_
  refine l_call [] [] 34 #[i6 (y11.Root*16),i6 16,i6 9,Ad i,i6 0,pt (z+3)] (some 50) Ae ?_
  intro w30 hw30
  refine BV (args:=[i6 (y11.Root*16),i6 16,i6 9,Ad i,i6 0,pt (z+3)]) 21 ⟨w,n27,[(Ak w),(BR z c),(BU z la),(Vf z c i ax25 y11 cp26),(VN z c i ax25 y11 cp26),(Ep y11 n2),(ED i y11 n2),(EZ i y11 n15),(FC i y11 n21)]⟩ Try.func34 rfl (by kernel_rfl) (by kernel_rfl) hw30 ?_
  refine q_c 1 9 [] [[(a1 4),o0,o0,o0,o0,o0,o0,o0,o0]] [Qb (z+3)] [(BH z),(11,.slice ax25 ((((Dy c i++[(⟨y11.Lock,2,(⟨3,(i:Int),0⟩:A7)⟩:Ap)])++[(⟨y11.Fh,17,(⟨4,(i:Int),0⟩:A7)⟩:Ap)])++[(⟨y11.State,5,(⟨5,(i:Int),0⟩:A7)⟩:Ap)]).length) cp26),(19,.slice (some ⟨n27,0,none⟩) 1 1)] ⟨w,n27+1,[(Ak w),(BR z c),(BU z la),(Vf z c i ax25 y11 cp26),(VN z c i ax25 y11 cp26),(Ep y11 n2),(ED i y11 n2),(EZ i y11 n15),(FC i y11 n21),(Ik i y11 n27)]⟩ rfl ⟨rfl,Ae⟩ ?_
  refine Fe z 3 9 (((Dy c i++[(⟨y11.Lock,2,(⟨3,(i:Int),0⟩:A7)⟩:Ap)])++[(⟨y11.Fh,17,(⟨4,(i:Int),0⟩:A7)⟩:Ap)])++[(⟨y11.State,5,(⟨5,(i:Int),0⟩:A7)⟩:Ap)]) [(⟨y11.Root*16,16,(⟨9,(i:Int),0⟩:A7)⟩:Ap)] Ap.cells 81 5 40 (.slice ax25 ((((Dy c i++[(⟨y11.Lock,2,(⟨3,(i:Int),0⟩:A7)⟩:Ap)])++[(⟨y11.Fh,17,(⟨4,(i:Int),0⟩:A7)⟩:Ap)])++[(⟨y11.State,5,(⟨5,(i:Int),0⟩:A7)⟩:Ap)]).length) cp26) n27 1 1 #[i6 (y11.Root*16),i6 16,i6 9,Ad i,i6 0] 81 (0,0) true (some 20) (by simp only[List.length_cons,List.length_nil,List.length_append];omega) (show z≤n27+1 by omega) (fun ax31 cp32 n33 (hn34:n27+1≤n33) => ?_)
  refine Hu 1 0 [] [[(a1 4)]] [Qb (z+3)] [] ⟨w,n33,[(Ak w),(BR z c),(BU z la),(AV z 81 5 Ap.cells (.slice ax31 (((((Dy c i++[(⟨y11.Lock,2,(⟨3,(i:Int),0⟩:A7)⟩:Ap)])++[(⟨y11.Fh,17,(⟨4,(i:Int),0⟩:A7)⟩:Ap)])++[(⟨y11.State,5,(⟨5,(i:Int),0⟩:A7)⟩:Ap)])++[(⟨y11.Root*16,16,(⟨9,(i:Int),0⟩:A7)⟩:Ap)]).length) cp32) ((((Dy c i++[(⟨y11.Lock,2,(⟨3,(i:Int),0⟩:A7)⟩:Ap)])++[(⟨y11.Fh,17,(⟨4,(i:Int),0⟩:A7)⟩:Ap)])++[(⟨y11.State,5,(⟨5,(i:Int),0⟩:A7)⟩:Ap)])++[(⟨y11.Root*16,16,(⟨9,(i:Int),0⟩:A7)⟩:Ap)])),(bk (z+3) #[.slice ax31 (((((Dy c i++[(⟨y11.Lock,2,(⟨3,(i:Int),0⟩:A7)⟩:Ap)])++[(⟨y11.Fh,17,(⟨4,(i:Int),0⟩:A7)⟩:Ap)])++[(⟨y11.State,5,(⟨5,(i:Int),0⟩:A7)⟩:Ap)])++[(⟨y11.Root*16,16,(⟨9,(i:Int),0⟩:A7)⟩:Ap)]).length) cp32] 78),(Ep y11 n2),(ED i y11 n2),(EZ i y11 n15),(FC i y11 n21),(Ik i y11 n27)]⟩ rfl ⟨rfl,Ae⟩ ?_
  -- the function's end
  refine RI [] [] (.tuple #[]) Ae ?_
  intro w35 hw35
  refine⟨_,_,rfl,hw35, ?_⟩
  refine Di 7 0 [] [[],[o0,(a1 5),o0,o0]] [Qb n2] [(2,pt z),(DJ z),(BH z),(Cc z),(7,Ad i),(EE la b4 o5),(DN la),(25,Ad i),(G8 y11),(FP y11),(54,i6 0)] rfl ⟨rfl,Ae⟩ ?_
  refine Ce (fun m a w'=>∃ (n37:Nat) (k:Nat) (aR1:Option Addr) (cR1:Nat),m=y11.Tables.xs.length - k∧n33≤n37∧(k≤y11.Tables.xs.length)∧St 115 [(2,pt z),(DJ z),(BH z),(Cc z),(7,Ad i),(EE la b4 o5),(DN la),(25,Ad i),(G8 y11),(FP y11),(54,Ad k)] [] ⟨w,n37,(Hy z c i k y11 n27 n2 n15 n21 aR1 cR1 la w)⟩ a w') (y11.Tables.xs.length - 0) ?_ ?_
  ·intro a w' hs;exact⟨n33,0,ax31,cp32,rfl,Nat.le_refl _,Nat.zero_le _,by(try dsimp only[VN,Ik,ED,EZ,FC,H7,FW,Ep,BU,BR,Vf,H6,FY,EE,FX,Cc,G8,DN,FP,DJ,BH,Hy]at hs ⊢);rw[show Dy c i++GM c i++D5 c i (1+0)=((((Dy c i++[(⟨y11.Lock,2,(⟨3,(i:Int),0⟩:A7)⟩:Ap)])++[(⟨y11.Fh,17,(⟨4,(i:Int),0⟩:A7)⟩:Ap)])++[(⟨y11.State,5,(⟨5,(i:Int),0⟩:A7)⟩:Ap)])++[(⟨y11.Root*16,16,(⟨9,(i:Int),0⟩:A7)⟩:Ap)])from part_is hPy11];exact hs⟩
  rintro m a w' ⟨n37,k,aR1,cR1,rfl,hn36,hkk,hs⟩
  refine(?_:G Try.prog 115 [(2,pt z),(DJ z),(BH z),(Cc z),(7,Ad i),(EE la b4 o5),(DN la),(25,Ad i),(G8 y11),(FP y11),(54,Ad k)] [] ⟨w,n37,(Hy z c i k y11 n27 n2 n15 n21 aR1 cR1 la w)⟩ _ _ _) a w' hs
  clear hs a w'
  have hlt:=Qn (c:=c) (p:=i) (n:=1+k)
  have hl3:(GM c i).length=3:=rfl
  refine CP ?_
  by_cases h38:(k:Int)<(y11.Tables.xs.length:Int)
  ·refine A8 10 0 [1] [[oT]] [BT ((k:Int)<(y11.Tables.xs.length:Int))] [(2,pt z),(DJ z),(BH z),(Cc z),(7,Ad i),(EE la b4 o5),(DN la),(25,Ad i),(G8 y11),(FP y11),(54,Ad k),(55,.bool true)] rfl ⟨bt,Ae⟩ ?_
   obtain⟨b39,o40,ha41,hF43,hc42⟩:=(he10.Tables).1.all (show 0<y11.Tables.xs.length by omega)
   replace ha41:y11.Tables.a=some ⟨b39,o40,none⟩:=ha41
   refine IZ [(2,pt z),(DJ z),(BH z),(Cc z),(7,Ad i),(EE la b4 o5),(DN la),(25,Ad i),(52,.slice (some ⟨b39,o40,none⟩) y11.Tables.xs.length y11.Tables.cap),(FP y11),(54,Ad k),(55,.bool true)] (by(try dsimp only[Ik,ED,EZ,FC,H7,FW,Ep,BU,BR,H6,FY,EE,FX,Cc,G8,DN,FP,DJ,BH,Hy]);simp only[ha41]) ?_
   have hc44:=hc42 k (show k<y11.Tables.xs.length by omega)
   have he45:=(he10.Tables).2 k (show k<y11.Tables.xs.length by omega)
   obtain⟨y46,hy46⟩:∃ y_,y_=gd y11.Tables.xs k:=⟨_,rfl⟩
   rw[←hy46]at he45 hc44
   have hTy46:=hPy11.2.2.2.2.2 k (by omega);rw[←hy46]at hTy46
   refine A8 4 4 [] [[(oi k),(oa [.via 0 (i6 y46)]),o0],[o0,o0,(ov (i6 (y46*16))),o0]] [BI k,k<y11.Tables.xs.length,Bq,Old w b39 (o40+k) (i6 y46),Wr ((y46:Int)*16) (y46*16)] [(2,pt z),(DJ z),(BH z),(Cc z),(7,Ad i),(EE la b4 o5),(DN la),(25,Ad i),(52,.slice (some ⟨b39,o40,none⟩) y11.Tables.xs.length y11.Tables.cap),(FP y11),(54,Ad k),(58,.func (.func 34) #[] #[pt (z+3)]),(60,i6 (y46*16)),(61,Ad i)] rfl ⟨rfl,(by omega),rfl,BA (hc44 0 _ rfl),Be,Ae⟩ ?_
   refine l_call [] [] 34 #[i6 (y46*16),i6 16,i6 9,Ad i,i6 0,pt (z+3)] (some 62) Ae ?_
   intro w47 hw47
   refine BV (args:=[i6 (y46*16),i6 16,i6 9,Ad i,i6 0,pt (z+3)]) 21 ⟨w,n37,(Hy z c i k y11 n27 n2 n15 n21 aR1 cR1 la w)⟩ Try.func34 rfl (by kernel_rfl) (by kernel_rfl) hw47 ?_
   refine q_c 1 9 [] [[(a1 4),o0,o0,o0,o0,o0,o0,o0,o0]] [Qb (z+3)] [(BH z),(11,.slice aR1 ((Dy c i++GM c i++D5 c i (1+k)).length) cR1),(19,.slice (some ⟨n37,0,none⟩) 1 1)] ⟨w,n37+1,[(Ak w),(BR z c),(BU z la),(H6 z c i k aR1 cR1),(H7 z c i k aR1 cR1),(Ep y11 n2),(ED i y11 n2),(EZ i y11 n15),(FC i y11 n21),(Ik i y11 n27),(Qs i n37 y46)]⟩ rfl ⟨rfl,Ae⟩ ?_
   refine Fe z 3 10 (Dy c i++GM c i++D5 c i (1+k)) [(⟨y46*16,16,(⟨9,(i:Int),0⟩:A7)⟩:Ap)] Ap.cells 81 5 40 (.slice aR1 ((Dy c i++GM c i++D5 c i (1+k)).length) cR1) n37 1 1 #[i6 (y46*16),i6 16,i6 9,Ad i,i6 0] 81 (0,0) true (some 20) (by simp only[List.length_cons,List.length_nil,List.length_append];omega) (show z≤n37+1 by omega) (fun ax48 cp49 n50 (hn51:n37+1≤n50) => ?_)
   refine Hu 1 0 [] [[(a1 4)]] [Qb (z+3)] [] ⟨w,n50,[(Ak w),(BR z c),(BU z la),(QC z c i k y46 ax48 cp49),(bk (z+3) #[.slice ax48 ((Dy c i++GM c i++D5 c i (1+k)++[(⟨y46*16,16,(⟨9,(i:Int),0⟩:A7)⟩:Ap)]).length) cp49] 78),(Ep y11 n2),(ED i y11 n2),(EZ i y11 n15),(FC i y11 n21),(Ik i y11 n27),(Qs i n37 y46)]⟩ rfl ⟨rfl,Ae⟩ ?_
   -- the function's end
   refine RI [] [] (.tuple #[]) Ae ?_
   intro w52 hw52
   refine⟨_,_,rfl,hw52, ?_⟩
   refine Di 5 0 [] [[],[(ov (i6 ((k+1:Nat):Int))),o0]] [Wr ((k:Int)+1) (((k+1:Nat):Int))] [(2,pt z),(DJ z),(BH z),(Cc z),(7,Ad i),(EE la b4 o5),(DN la),(25,Ad i),(52,.slice (some ⟨b39,o40,none⟩) y11.Tables.xs.length y11.Tables.cap),(FP y11),(54,i6 ((k+1:Nat):Int))] rfl ⟨Be,Ae⟩ ?_
   refine BO [0,1,2,3,4,5,6,7,8,9] [(Ak w),(BR z c),(BU z la),(QC z c i k y46 ax48 cp49),(bk (z+3) #[.slice ax48 ((Dy c i++GM c i++D5 c i (1+k)++[(⟨y46*16,16,(⟨9,(i:Int),0⟩:A7)⟩:Ap)]).length) cp49] 78),(Ep y11 n2),(ED i y11 n2),(EZ i y11 n15),(FC i y11 n21),(Ik i y11 n27)] rfl rfl ?_
   refine EP [2,3,5,6,7,23,24,25,52,53,54] [(2,pt z),(DJ z),(BH z),(Cc z),(7,Ad i),(EE la b4 o5),(DN la),(25,Ad i),(G8 y11),(FP y11),(54,i6 ((k+1:Nat):Int))] (by(try dsimp only[Ik,ED,Qs,EZ,FC,H7,FW,Ep,BU,BR,QC,H6,FY,EE,FX,Cc,G8,DN,FP,DJ,BH,Hy]);simp only[ha41];rfl) ?_
   refine Bz (fun a w' hs=>⟨y11.Tables.xs.length - (k+1),by omega,n50,(k+1),ax48,cp49,rfl,by omega,by omega,by(try dsimp only[Ik,ED,Qs,EZ,FC,H7,FW,Ep,BU,BR,QC,H6,FY,EE,FX,Cc,G8,DN,FP,DJ,BH,Hy]at hs ⊢);rw[←Nat.add_assoc,Ob,←List.append_assoc,show 16*(C9 c i+((1+k:Nat):Int))=y46*16 from by omega];exact hs⟩)
  refine A8 13 0 [0] [[oF],[(ov (i6 ((i+1:Nat):Int))),o0]] [BF ((k:Int)<(y11.Tables.xs.length:Int)),Wr ((i:Int)+1) (((i+1:Nat):Int))] [(2,pt z),(DJ z),(BH z),(Cc z),(EE la b4 o5),(DN la),(25,i6 ((i+1:Nat):Int))] rfl ⟨bf,Be,Ae⟩ ?_
  refine BO [0,1,2,3,4] [(Ak w),(BR z c),(BU z la),(H6 z c i k aR1 cR1),(H7 z c i k aR1 cR1)] rfl rfl ?_
  refine EP [2,3,5,6,23,24,25] [(2,pt z),(DJ z),(BH z),(Cc z),(FX la),(DN la),(25,i6 ((i+1:Nat):Int))] (by(try dsimp only[Ik,ED,Qs,EZ,FC,H7,FW,Ep,BU,BR,QC,H6,FY,EE,FX,Cc,G8,DN,FP,DJ,BH,Hy]);simp only[ha6];rfl) ?_
  refine Bz (fun a w' hs=>⟨la.Aa.xs.length - (i+1),by omega,n37,(i+1),aR1,cR1,rfl,by omega,by omega,by(try dsimp only[Ik,ED,Qs,EZ,FC,H7,FW,Ep,BU,BR,QC,H6,FY,EE,FX,Cc,G8,DN,FP,DJ,BH,Hy]at hs ⊢);rw[X5,show Fq (gd c.Aa.xs i)=k from by omega];exact hs⟩)
 refine A8 12 1 [0] [[oF],[(an 7 1)]] [BF ((i:Int)<(la.Aa.xs.length:Int)),Qb z,Qb z,Qb z,Qb z,Qb z,Qb z,Qb z] [(DJ z),(BH z),(Cc z),(65,.agg (Af.arr c))] rfl ⟨bf,rfl,rfl,rfl,rfl,rfl,rfl,rfl,Ae⟩ ?_
 refine l_call [] [] 35 #[.agg (Af.arr c)] (some 66) Ae ?_
 intro w53 hw53
 refine(ask_calls w53 c (hc.ext (hw53.ext rfl) (fun _ h=>h)) (by omega)).mono ?_
 rintro e w54 ⟨ax55,cp56,rfl,hSw54,hkw54⟩
 have hnw54:n2≤w54.heap.size:=Dx hw53 hkw54
 rw[hw53.size]at hSw54
 refine⟨_,_,rfl,hw53.Lc hkw54, ?_⟩
 refine Di 8 0 [] [[o0],[o0,(a1 2),o0,o0]] [Qb (z+1)] [(BH z),(Cc z),(Iu c cp56 ax55),(J3 la),(Ec la),(70,i6 0)] rfl ⟨rfl,Ae⟩ ?_
 have hie:i=c.Aa.xs.length:=by omega
 refine Ce (fun m a w'=>∃ (n58:Nat) (k:Nat) (aR2:Option Addr) (cR2:Nat),m=la.Ac.xs.length - k∧w54.heap.size≤n58∧(k≤la.Ac.xs.length)∧St 115 [(BH z),(Cc z),(Iu c cp56 ax55),(J3 la),(Ec la),(70,Ad k)] [] ⟨w,n58,[(Ak w),(BR z c),(BU z la),(Jt z c i k aR2 cR2),(J4 z c i k aR2 cR2),(mid n2 w54)]⟩ a w') (la.Ac.xs.length - 0) ?_ ?_
 ·intro a w' hs;exact⟨w54.heap.size,0,aR0,cR0,rfl,Nat.le_refl _,Nat.zero_le _,by(try dsimp only[Ik,ED,EZ,FC,H7,J4,FW,Ep,BU,BR,H6,Jt,FY,EE,FX,J3,Cc,G8,DN,Ec,FP,Iu,DJ,BH,Hy]at hs ⊢);rw[show DW c 0=[]from rfl,List.append_nil];exact hs⟩
 rintro m a w' ⟨n58,k,aR2,cR2,rfl,hn57,hkk,hs⟩
 refine(?_:G Try.prog 115 [(BH z),(Cc z),(Iu c cp56 ax55),(J3 la),(Ec la),(70,Ad k)] [] ⟨w,n58,[(Ak w),(BR z c),(BU z la),(Jt z c i k aR2 cR2),(J4 z c i k aR2 cR2),(mid n2 w54)]⟩ _ _ _) a w' hs
 clear hs a w'
 have hlc:=UV hfine k (by omega)
 refine CP ?_
 by_cases h59:(k:Int)<(la.Ac.xs.length:Int)
 ·refine A8 10 0 [1] [[oT]] [BT ((k:Int)<(la.Ac.xs.length:Int))] [(BH z),(Cc z),(Iu c cp56 ax55),(J3 la),(Ec la),(70,Ad k),(71,.bool true)] rfl ⟨bt,Ae⟩ ?_
  obtain⟨b60,o61,ha62,hF64,hc63⟩:=(hla.Ac).1.all (show 0<la.Ac.xs.length by omega)
  replace ha62:la.Ac.a=some ⟨b60,o61,none⟩:=ha62
  refine IZ [(BH z),(Cc z),(Iu c cp56 ax55),(ES la b60 o61),(Ec la),(70,Ad k),(71,.bool true)] (by(try dsimp only[Ik,ED,EZ,FC,H7,J4,FW,Ep,BU,BR,H6,Jt,FY,EE,ES,FX,J3,Cc,G8,DN,Ec,FP,Iu,DJ,BH,Hy]);simp only[ha62]) ?_
  have hc65:=hc63 k (show k<la.Ac.xs.length by omega)
  have he66:=(hla.Ac).2 k (show k<la.Ac.xs.length by omega)
  obtain⟨y67,hy67⟩:∃ y_,y_=gd la.Ac.xs k:=⟨_,rfl⟩
  rw[←hy67]at he66 hc65
  have hPy67:=cs_is hI (show k<c.Ac.xs.length by omega) hy67;have hdny67:=hPy67.2.2.1;have hcb:=PZ hfine k (by omega);have hdd:=hfine.TP (show k<c.Ac.xs.length by omega)
  refine q_c 5 4 [] [[o0,(oi k),(ol 0 (Aq.arr y67)),o0,o0,(an 5 6)],[o0,o0,(a1 6),o0]] [BI k,k<la.Ac.xs.length,Bq,Eh w b60 (o61+k*5) (Aq.arr y67),Qb n58,Qb n58,Qb n58,Qb n58,Qb n58,Qb n58] [(BH z),(Cc z),(Iu c cp56 ax55),(ES la b60 o61),(Ec la),(70,Ad k),(MZ n58),(12,Ad k),(75,.func (.func 34) #[] #[pt (z+3)]),(77,i6 y67.Lock),(78,Ad k)] ⟨w,n58+1,[(Ak w),(BR z c),(BU z la),(Jt z c i k aR2 cR2),(J4 z c i k aR2 cR2),(mid n2 w54),(EM y67 n58)]⟩ rfl ⟨rfl,(by omega),rfl,CB hc65,rfl,rfl,rfl,rfl,rfl,rfl,Ae⟩ ?_
  refine l_call [] [] 34 #[i6 y67.Lock,i6 2,i6 6,Ad k,i6 0,pt (z+3)] (some 79) Ae ?_
  intro w68 hw68
  refine BV (args:=[i6 y67.Lock,i6 2,i6 6,Ad k,i6 0,pt (z+3)]) 21 ⟨w,n58+1,[(Ak w),(BR z c),(BU z la),(Jt z c i k aR2 cR2),(J4 z c i k aR2 cR2),(mid n2 w54),(EM y67 n58)]⟩ Try.func34 rfl (by kernel_rfl) (by kernel_rfl) hw68 ?_
  refine q_c 1 9 [] [[(a1 4),o0,o0,o0,o0,o0,o0,o0,o0]] [Qb (z+3)] [(BH z),(11,.slice aR2 ((Dy c i++DW c k).length) cR2),(19,.slice (some ⟨n58+1,0,none⟩) 1 1)] ⟨w,n58+2,[(Ak w),(BR z c),(BU z la),(Jt z c i k aR2 cR2),(J4 z c i k aR2 cR2),(mid n2 w54),(EM y67 n58),(Gf k y67 n58)]⟩ rfl ⟨rfl,Ae⟩ ?_
  refine Fe z 3 7 (Dy c i++DW c k) [(⟨y67.Lock,2,(⟨6,(k:Int),0⟩:A7)⟩:Ap)] Ap.cells 81 5 40 (.slice aR2 ((Dy c i++DW c k).length) cR2) (n58+1) 1 1 #[i6 y67.Lock,i6 2,i6 6,Ad k,i6 0] 81 (0,0) true (some 20) (by simp only[List.length_cons,List.length_nil,List.length_append];omega) (show z≤n58+2 by omega) (fun ax69 cp70 n71 (hn72:n58+2≤n71) => ?_)
  refine Hu 1 0 [] [[(a1 4)]] [Qb (z+3)] [] ⟨w,n71,[(Ak w),(BR z c),(BU z la),(O4 z c i k ax69 y67 cp70),(PT z c i k ax69 y67 cp70),(mid n2 w54),(EM y67 n58),(Gf k y67 n58)]⟩ rfl ⟨rfl,Ae⟩ ?_
  -- the function's end
  refine RI [] [] (.tuple #[]) Ae ?_
  intro w73 hw73
  refine⟨_,_,rfl,hw73, ?_⟩
  refine Ui [5,6,11,68,69,70,13,12] [(BH z),(Cc z),(Iu c cp56 ax55),(ES la b60 o61),(Ec la),(70,Ad k),(MZ n58),(12,Ad k)] ?_
  refine l_nil (by kernel_rfl) ?_
  refine UI <| CP ?_
  obtain⟨b74,o75,ha76,hF78,hc77⟩:=((⟨hSw54,fun i hi=>hc.Ac.2 i hi⟩:F8 V6 2 (fun _ _ x=>Aw.ok Any w x) _ _ _)).1.all (show 0<c.Ac.xs.length by omega)
  replace ha76:ax55=some ⟨b74,o75,none⟩:=ha76
  refine IZ [(BH z),(Cc z),(FO c b74 o75 cp56),(ES la b60 o61),(Ec la),(70,Ad k),(MZ n58),(12,Ad k)] (by(try dsimp only[PT,Ik,Gf,ED,EZ,FC,H7,J4,FW,Ep,EM,BU,BR,O4,H6,Jt,FY,EE,ES,FX,J3,FO,Cc,G8,DN,Ec,FP,Iu,DJ,BH,MZ,Hy]);simp only[ha76]) ?_
  have hc79:=hc77 k (show k<c.Ac.xs.length by omega)
  have he80:=((⟨hSw54,fun i hi=>hc.Ac.2 i hi⟩:F8 V6 2 (fun _ _ x=>Aw.ok Any w x) _ _ _)).2 k (show k<c.Ac.xs.length by omega)
  obtain⟨y81,hy81⟩:∃ y_,y_=gd (⟨ax55,cp56,c.Ac.xs⟩:Sl Aw).xs k:=⟨_,rfl⟩
  rw[←hy81]at he80 hc79
  have hhy81:y81=gd c.Ac.xs k:=hy81
  refine Fp 10 [0,1,2,3,4,5,6,7] [(Ak w),(BR z c),(BU z la),(O4 z c i k ax69 y67 cp70),(PT z c i k ax69 y67 cp70),(mid n2 w54),(EM y67 n58),(Gf k y67 n58)] rfl rfl ?_
  refine CU [(0,o0),(1,o0),(2,(a1 6)),(3,o0),(4,o0),(5,(oi k)),(6,o0),(7,(oa [.via 5 (.func (.func 40) #[.agg (Aw.arr y81)] #[])])),(9,o0)] [5,6,11,68,69,70,13,12,80,82,87,89] [Qb n58,BI k,k<c.Ac.xs.length,Bq,∀ w',Ch.holds (mid n2 w54) w'→w'.cell? ⟨b74,o75+k*2,none⟩=some (.func (.func 40) #[.agg (Aw.arr y81)] #[])] [true,true,true,true,true,true,true,true,false,true,false] [(BH z),(Cc z),(FO c b74 o75 cp56),(ES la b60 o61),(Ec la),(70,Ad k),(MZ n58),(12,Ad k),(80,.func (.func 34) #[] #[pt (z+3)]),(82,i6 y67.Gw),(87,.func (.func 40) #[.agg (Aw.arr y81)] #[]),(89,Ad k)] ⟨rfl,rfl,(by omega),rfl,EH hF78 (hc79 0 _ rfl),Ae⟩ ?_
  refine CX 8 ?_
  refine FZ [] [] 40 #[.agg (Aw.arr y81)] (some 88) (by as_aux_lemma=>kernel_rfl) rfl rfl Ae ?_
  intro w82 hw82
  refine BV (args:=[.agg (Aw.arr y81)]) 6 ⟨w,n71,[(Ak w),(BR z c),(BU z la),(O4 z c i k ax69 y67 cp70),(PT z c i k ax69 y67 cp70),(mid n2 w54),(EM y67 n58),(Gf k y67 n58)]⟩ Try.func40 rfl (by kernel_rfl) (by kernel_rfl) hw82 ?_
  refine q_c 6 2 [] [[o0,o0],[o0,(an 3 8)]] [Qb n71,Qb n71,Qb n71] [(4,.agg (Aw.arr y81))] ⟨w,n71+1,[(Ak w),(BR z c),(BU z la),(O4 z c i k ax69 y67 cp70),(PT z c i k ax69 y67 cp70),(mid n2 w54),(EM y67 n58),(Gf k y67 n58),(Gp y81 n71)]⟩ rfl ⟨rfl,rfl,rfl,Ae⟩ ?_
  refine H5 23 #[.agg (Aw.arr y81)] (some 5) (i6 (AB y81)) (fun w83 hw83=>Nb w83 y81 (he80.ext (hw83.ext rfl) (fun _ h=>h))) (fun n84 (hn85:n71+1≤n84) => ?_)
  refine Di 3 0 [] [[o0]] [] [(2,i6 (AB y81))] rfl Ae ?_
  refine AZ [] [] (i6 (AB y81)) Ae ?_
  intro w86 hw86
  have hs87:=hw86
  refine⟨_,_,rfl,hs87,.inr (fun c hc=>hs87.all c (by first | exact hc | exact Dt (is:=[0,1,2,3,4,5,6,7]) rfl c hc)), ?_⟩
  refine DV [5,6,11,68,69,70,13,12,80,82,89,88] [(BH z),(Cc z),(FO c b74 o75 cp56),(ES la b60 o61),(Ec la),(70,Ad k),(MZ n58),(12,Ad k),(80,.func (.func 34) #[] #[pt (z+3)]),(82,i6 y67.Gw),(89,Ad k),(88,i6 (AB y81))] ?_
  refine CX 10 ?_
  refine FZ [] [] 34 #[i6 y67.Gw,i6 (AB y81),i6 7,Ad k,i6 0,pt (z+3)] (some 90) (by as_aux_lemma=>kernel_rfl) rfl rfl Ae ?_
  intro w88 hw88
  refine BV (args:=[i6 y67.Gw,i6 (AB y81),i6 7,Ad k,i6 0,pt (z+3)]) 21 ⟨w,n84,[(Ak w),(BR z c),(BU z la),(O4 z c i k ax69 y67 cp70),(PT z c i k ax69 y67 cp70),(mid n2 w54),(EM y67 n58),(Gf k y67 n58),(Gp y81 n71)]⟩ Try.func34 rfl (by kernel_rfl) (by kernel_rfl) hw88 ?_
  refine q_c 1 9 [] [[(a1 4),o0,o0,o0,o0,o0,o0,o0,o0]] [Qb (z+3)] [(BH z),(11,.slice ax69 ((Dy c i++DW c k++[(⟨y67.Lock,2,(⟨6,(k:Int),0⟩:A7)⟩:Ap)]).length) cp70),(19,.slice (some ⟨n84,0,none⟩) 1 1)] ⟨w,n84+1,[(Ak w),(BR z c),(BU z la),(O4 z c i k ax69 y67 cp70),(PT z c i k ax69 y67 cp70),(mid n2 w54),(EM y67 n58),(Gf k y67 n58),(Gp y81 n71),(IU k y81 y67 n84)]⟩ rfl ⟨rfl,Ae⟩ ?_
  refine Fe z 3 9 (Dy c i++DW c k++[(⟨y67.Lock,2,(⟨6,(k:Int),0⟩:A7)⟩:Ap)]) [(⟨y67.Gw,AB y81,(⟨7,(k:Int),0⟩:A7)⟩:Ap)] Ap.cells 81 5 40 (.slice ax69 ((Dy c i++DW c k++[(⟨y67.Lock,2,(⟨6,(k:Int),0⟩:A7)⟩:Ap)]).length) cp70) n84 1 1 #[i6 y67.Gw,i6 (AB y81),i6 7,Ad k,i6 0] 81 (0,0) true (some 20) (by simp only[List.length_cons,List.length_nil,List.length_append];omega) (show z≤n84+1 by omega) (fun ax89 cp90 n91 (hn92:n84+1≤n91) => ?_)
  refine Hu 1 0 [] [[(a1 4)]] [Qb (z+3)] [] ⟨w,n91,(SH z c i k y81 y67 n84 n58 n2 la n71 ax89 cp90 w w54)⟩ rfl ⟨rfl,Ae⟩ ?_
  -- the function's end
  refine RI [] [] (.tuple #[]) Ae ?_
  intro w93 hw93
  refine⟨_,_,rfl,hw93,.inl rfl, ?_⟩
  refine DV [5,6,11,68,69,70,13,12] [(BH z),(Cc z),(FO c b74 o75 cp56),(ES la b60 o61),(Ec la),(70,Ad k),(MZ n58),(12,Ad k)] ?_
  refine IA 11 [0,1,2,3,4,5,6,7,8,9] (SH z c i k y81 y67 n84 n58 n2 la n71 ax89 cp90 w w54) rfl rfl ?_
  refine D9 ?_
  refine Ja 6 0 [] [[o0,(a1 6),o0,o0]] [Qb n58] [(BH z),(Cc z),(FO c b74 o75 cp56),(12,Ad k),(ES la b60 o61),(Ec la),(70,Ad k),(KR y67),(Iw y67),(94,i6 0)] rfl ⟨rfl,Ae⟩ ?_
  refine Ce (fun m a w'=>∃ (n95:Nat) (j:Nat) (aR3:Option Addr) (cR3:Nat),m=y67.AX.xs.length - j∧n91≤n95∧(j≤y67.AX.xs.length)∧St 115 [(BH z),(Cc z),(FO c b74 o75 cp56),(12,Ad k),(ES la b60 o61),(Ec la),(70,Ad k),(KR y67),(Iw y67),(94,Ad j)] [] ⟨w,n95,[(Ak w),(BR z c),(BU z la),(Jj z c i k y81 j aR3 cR3),(JP z c i k y81 j aR3 cR3),(mid n2 w54),(EM y67 n58),(Gf k y67 n58),(Gp y81 n71),(IU k y81 y67 n84)]⟩ a w') (y67.AX.xs.length - 0) ?_ ?_
  ·intro a w' hs;exact⟨n91,0,ax89,cp90,rfl,Nat.le_refl _,Nat.zero_le _,by(try dsimp only[JP,PT,IU,Ik,Gf,ED,EZ,FC,H7,J4,FW,Ep,EM,BU,Gp,BR,Jj,Vj,O4,H6,Jt,FY,EE,ES,FX,J3,FO,Cc,G8,KR,DN,Ec,FP,Iw,Iu,DJ,BH,MZ,SH,Hy]at hs ⊢);rw[show N8 c k 0=[]from rfl,List.append_nil,←hPy67.1,show y67.Lock+2=y67.Gw from by omega];exact hs⟩
  rintro m a w' ⟨n95,j,aR3,cR3,rfl,hn94,hkj,hs⟩
  refine(?_:G Try.prog 115 [(BH z),(Cc z),(FO c b74 o75 cp56),(12,Ad k),(ES la b60 o61),(Ec la),(70,Ad k),(KR y67),(Iw y67),(94,Ad j)] [] ⟨w,n95,[(Ak w),(BR z c),(BU z la),(Jj z c i k y81 j aR3 cR3),(JP z c i k y81 j aR3 cR3),(mid n2 w54),(EM y67 n58),(Gf k y67 n58),(Gp y81 n71),(IU k y81 y67 n84)]⟩ _ _ _) a w' hs
  clear hs a w'
  have hld:=pcDj_len (c:=c) (k:=k) (j:=j)
  refine CP ?_
  by_cases h96:(j:Int)<(y67.AX.xs.length:Int)
  ·refine A8 10 0 [1] [[oT]] [BT ((j:Int)<(y67.AX.xs.length:Int))] [(BH z),(Cc z),(FO c b74 o75 cp56),(12,Ad k),(ES la b60 o61),(Ec la),(70,Ad k),(KR y67),(Iw y67),(94,Ad j),(95,.bool true)] rfl ⟨bt,Ae⟩ ?_
   obtain⟨b97,o98,ha99,hF101,hc100⟩:=(he66.AX).1.all (show 0<y67.AX.xs.length by omega)
   replace ha99:y67.AX.a=some ⟨b97,o98,none⟩:=ha99
   refine IZ [(BH z),(Cc z),(FO c b74 o75 cp56),(12,Ad k),(ES la b60 o61),(Ec la),(70,Ad k),(Mc y67 b97 o98),(Iw y67),(94,Ad j),(95,.bool true)] (by(try dsimp only[JP,IU,Ik,Gf,ED,EZ,FC,H7,J4,FW,Ep,EM,BU,Gp,BR,Jj,Vj,H6,Jt,FY,EE,ES,FX,Mc,J3,FO,Cc,G8,KR,DN,Ec,FP,Iw,Iu,DJ,BH,MZ,SH,Hy]);simp only[ha99]) ?_
   have hc102:=hc100 j (show j<y67.AX.xs.length by omega)
   have he103:=(he66.AX).2 j (show j<y67.AX.xs.length by omega)
   obtain⟨y104,hy104⟩:∃ y_,y_=gd y67.AX.xs j:=⟨_,rfl⟩
   rw[←hy104]at he103 hc102
   have hDy104:=hPy67.2.2.2 j (by omega);rw[←hy104]at hDy104
   refine q_c 3 0 [] [[(oi j),(ol 0 (AL.arr y104)),o0,(an 3 10)]] [BI j,j<y67.AX.xs.length,Bq,Eh w b97 (o98+j*3) (AL.arr y104),Qb n95,Qb n95,Qb n95] [(BH z),(Cc z),(FO c b74 o75 cp56),(12,Ad k),(ES la b60 o61),(Ec la),(70,Ad k),(Mc y67 b97 o98),(Iw y67),(94,Ad j),(15,pt n95)] ⟨w,n95+1,[(Ak w),(BR z c),(BU z la),(Jj z c i k y81 j aR3 cR3),(JP z c i k y81 j aR3 cR3),(mid n2 w54),(EM y67 n58),(Gf k y67 n58),(Gp y81 n71),(IU k y81 y67 n84),(KO y104 n95)]⟩ rfl ⟨rfl,(by omega),rfl,CB hc102,rfl,rfl,rfl,Ae⟩ ?_
   refine Fp 13 [0,1,2,3,4,5,6,7,8,9,10] [(Ak w),(BR z c),(BU z la),(Jj z c i k y81 j aR3 cR3),(JP z c i k y81 j aR3 cR3),(mid n2 w54),(EM y67 n58),(Gf k y67 n58),(Gp y81 n71),(IU k y81 y67 n84),(KO y104 n95)] rfl rfl ?_
   refine CU [(0,o0),(1,o0),(2,(a1 10)),(3,o0),(4,o0),(5,(oi k)),(6,o0),(7,(oa [.via 5 (.func (.func 41) #[.agg (Aw.arr y81)] #[])])),(9,o0),(10,(a1 10)),(11,o0),(12,(a1 10))] [5,6,11,12,68,69,70,92,93,94,98,100,105,108,110] [Qb n95,BI k,k<c.Ac.xs.length,Bq,∀ w',Ch.holds (mid n2 w54) w'→w'.cell? ⟨b74,o75+k*2+1,none⟩=some (.func (.func 41) #[.agg (Aw.arr y81)] #[]),Qb n95,Qb n95] [true,true,true,true,true,true,true,true,false,true,true,true,true,false] [(BH z),(Cc z),(FO c b74 o75 cp56),(12,Ad k),(ES la b60 o61),(Ec la),(70,Ad k),(Mc y67 b97 o98),(Iw y67),(94,Ad j),(98,.func (.func 34) #[] #[pt (z+3)]),(100,i6 y104.At),(105,.func (.func 41) #[.agg (Aw.arr y81)] #[]),(108,i6 y104.Partition),(110,i6 y104.Port)] ⟨rfl,rfl,(by omega),rfl,EH hF78 (hc79 1 _ rfl),rfl,rfl,Ae⟩ ?_
   refine CX 8 ?_
   refine FZ [] [] 41 #[.agg (Aw.arr y81)] (some 106) (by as_aux_lemma=>kernel_rfl) rfl rfl Ae ?_
   intro w105 hw105
   refine BV (args:=[.agg (Aw.arr y81)]) 6 ⟨w,n95+1,[(Ak w),(BR z c),(BU z la),(Jj z c i k y81 j aR3 cR3),(JP z c i k y81 j aR3 cR3),(mid n2 w54),(EM y67 n58),(Gf k y67 n58),(Gp y81 n71),(IU k y81 y67 n84),(KO y104 n95)]⟩ Try.func41 rfl (by kernel_rfl) (by kernel_rfl) hw105 ?_
   refine q_c 6 2 [] [[o0,o0],[o0,(an 3 11)]] [Qb (n95+1),Qb (n95+1),Qb (n95+1)] [(4,.agg (Aw.arr y81))] ⟨w,n95+2,[(Ak w),(BR z c),(BU z la),(Jj z c i k y81 j aR3 cR3),(JP z c i k y81 j aR3 cR3),(mid n2 w54),(EM y67 n58),(Gf k y67 n58),(Gp y81 n71),(IU k y81 y67 n84),(KO y104 n95),(NI y81 n95)]⟩ rfl ⟨rfl,rfl,rfl,Ae⟩ ?_
   refine H5 24 #[.agg (Aw.arr y81)] (some 5) (i6 (portOf y81)) (fun w106 hw106=>Wu w106 y81 (he80.ext (hw106.ext rfl) (fun _ h=>h))) (fun n107 (hn108:n95+2≤n107) => ?_)
   refine Di 3 0 [] [[o0]] [] [(2,i6 (portOf y81))] rfl Ae ?_
   refine AZ [] [] (i6 (portOf y81)) Ae ?_
   intro w109 hw109
   have hs110:=hw109
   refine⟨_,_,rfl,hs110,.inr (fun c hc=>hs110.all c (by first | exact hc | exact Dt (is:=[0,1,2,3,4,5,6,7,8,9,10]) rfl c hc)), ?_⟩
   refine DV [5,6,11,12,68,69,70,92,93,94,98,100,108,110,106] [(BH z),(Cc z),(FO c b74 o75 cp56),(12,Ad k),(ES la b60 o61),(Ec la),(70,Ad k),(Mc y67 b97 o98),(Iw y67),(94,Ad j),(98,.func (.func 34) #[] #[pt (z+3)]),(100,i6 y104.At),(108,i6 y104.Partition),(110,i6 y104.Port),(106,i6 (portOf y81))] ?_
   refine CX 13 ?_
   refine FZ [] [] 34 #[i6 y104.At,i6 (portOf y81),i6 8,i6 y104.Partition,i6 y104.Port,pt (z+3)] (some 111) (by as_aux_lemma=>kernel_rfl) rfl rfl Ae ?_
   intro w111 hw111
   refine BV (args:=[i6 y104.At,i6 (portOf y81),i6 8,i6 y104.Partition,i6 y104.Port,pt (z+3)]) 21 ⟨w,n107,[(Ak w),(BR z c),(BU z la),(Jj z c i k y81 j aR3 cR3),(JP z c i k y81 j aR3 cR3),(mid n2 w54),(EM y67 n58),(Gf k y67 n58),(Gp y81 n71),(IU k y81 y67 n84),(KO y104 n95),(NI y81 n95)]⟩ Try.func34 rfl (by kernel_rfl) (by kernel_rfl) hw111 ?_
   refine q_c 1 9 [] [[(a1 4),o0,o0,o0,o0,o0,o0,o0,o0]] [Qb (z+3)] [(BH z),(11,.slice aR3 ((Dy c i++DW c k++[(⟨Bc c k,2,(⟨6,(k:Int),0⟩:A7)⟩:Ap)]++[(⟨Bc c k+2,AB y81,(⟨7,(k:Int),0⟩:A7)⟩:Ap)]++N8 c k j).length) cR3),(19,.slice (some ⟨n107,0,none⟩) 1 1)] ⟨w,n107+1,[(Ak w),(BR z c),(BU z la),(Jj z c i k y81 j aR3 cR3),(JP z c i k y81 j aR3 cR3),(mid n2 w54),(EM y67 n58),(Gf k y67 n58),(Gp y81 n71),(IU k y81 y67 n84),(KO y104 n95),(NI y81 n95),(QG y81 y104 n107)]⟩ rfl ⟨rfl,Ae⟩ ?_
   refine Fe z 3 12 (Dy c i++DW c k++[(⟨Bc c k,2,(⟨6,(k:Int),0⟩:A7)⟩:Ap)]++[(⟨Bc c k+2,AB y81,(⟨7,(k:Int),0⟩:A7)⟩:Ap)]++N8 c k j) [(⟨y104.At,portOf y81,(⟨8,y104.Partition,y104.Port⟩:A7)⟩:Ap)] Ap.cells 81 5 40 (.slice aR3 ((Dy c i++DW c k++[(⟨Bc c k,2,(⟨6,(k:Int),0⟩:A7)⟩:Ap)]++[(⟨Bc c k+2,AB y81,(⟨7,(k:Int),0⟩:A7)⟩:Ap)]++N8 c k j).length) cR3) n107 1 1 #[i6 y104.At,i6 (portOf y81),i6 8,i6 y104.Partition,i6 y104.Port] 81 (0,0) true (some 20) (by simp only[List.length_cons,List.length_nil,List.length_append];omega) (show z≤n107+1 by omega) (fun ax112 cp113 n114 (hn115:n107+1≤n114) => ?_)
   refine Hu 1 0 [] [[(a1 4)]] [Qb (z+3)] [] ⟨w,n114,[(Ak w),(BR z c),(BU z la),(P9 z ax112 c i k y81 j y104 cp113),(Rt z ax112 c i k y81 j y104 cp113),(mid n2 w54),(EM y67 n58),(Gf k y67 n58),(Gp y81 n71),(IU k y81 y67 n84),(KO y104 n95),(NI y81 n95),(QG y81 y104 n107)]⟩ rfl ⟨rfl,Ae⟩ ?_
   -- the function's end
   refine RI [] [] (.tuple #[]) Ae ?_
   intro w116 hw116
   refine⟨_,_,rfl,hw116,.inl rfl, ?_⟩
   refine DV [5,6,11,12,68,69,70,92,93,94] [(BH z),(Cc z),(FO c b74 o75 cp56),(12,Ad k),(ES la b60 o61),(Ec la),(70,Ad k),(Mc y67 b97 o98),(Iw y67),(94,Ad j)] ?_
   refine IA 14 [0,1,2,3,4,5,6,7,8,9,10,11,12] [(Ak w),(BR z c),(BU z la),(P9 z ax112 c i k y81 j y104 cp113),(Rt z ax112 c i k y81 j y104 cp113),(mid n2 w54),(EM y67 n58),(Gf k y67 n58),(Gp y81 n71),(IU k y81 y67 n84),(KO y104 n95),(NI y81 n95),(QG y81 y104 n107)] rfl rfl ?_
   refine D9 ?_
   refine Ja 4 0 [] [[(ov (i6 ((j+1:Nat):Int))),o0]] [Wr ((j:Int)+1) (((j+1:Nat):Int))] [(BH z),(Cc z),(FO c b74 o75 cp56),(12,Ad k),(ES la b60 o61),(Ec la),(70,Ad k),(Mc y67 b97 o98),(Iw y67),(94,i6 ((j+1:Nat):Int))] rfl ⟨Be,Ae⟩ ?_
   refine BO [0,1,2,3,4,5,6,7,8,9] [(Ak w),(BR z c),(BU z la),(P9 z ax112 c i k y81 j y104 cp113),(Rt z ax112 c i k y81 j y104 cp113),(mid n2 w54),(EM y67 n58),(Gf k y67 n58),(Gp y81 n71),(IU k y81 y67 n84)] rfl rfl ?_
   refine EP [5,6,11,12,68,69,70,92,93,94] [(BH z),(Cc z),(FO c b74 o75 cp56),(12,Ad k),(ES la b60 o61),(Ec la),(70,Ad k),(KR y67),(Iw y67),(94,i6 ((j+1:Nat):Int))] (by(try dsimp only[Rt,JP,QG,IU,Ik,Gf,ED,EZ,FC,H7,J4,FW,NI,Ep,EM,KO,BU,Gp,BR,P9,Jj,H6,Jt,FY,EE,ES,FX,Mc,J3,FO,Cc,G8,KR,DN,Ec,FP,Iw,Iu,DJ,BH,Hy]);simp only[ha99];rfl) ?_
   refine Bz (fun a w' hs=>⟨y67.AX.xs.length - (j+1),by omega,n114,(j+1),ax112,cp113,rfl,by omega,by omega,by(try dsimp only[Rt,JP,QG,IU,Ik,Gf,ED,EZ,FC,H7,J4,FW,NI,Ep,EM,KO,BU,Gp,BR,P9,Jj,H6,Jt,FY,EE,ES,FX,Mc,J3,FO,Cc,G8,KR,DN,Ec,FP,Iw,Iu,DJ,BH,Hy]at hs ⊢);rw[ZT,←List.append_assoc,dest_is hDy104 hhy81];exact hs⟩)
  refine A8 13 0 [0] [[oF],[(ov (i6 ((k+1:Nat):Int))),o0]] [BF ((j:Int)<(y67.AX.xs.length:Int)),Wr ((k:Int)+1) (((k+1:Nat):Int))] [(BH z),(Cc z),(FO c b74 o75 cp56),(ES la b60 o61),(Ec la),(70,i6 ((k+1:Nat):Int))] rfl ⟨bf,Be,Ae⟩ ?_
  refine BO [0,1,2,3,4,5] [(Ak w),(BR z c),(BU z la),(Jj z c i k y81 j aR3 cR3),(JP z c i k y81 j aR3 cR3),(mid n2 w54)] rfl rfl ?_
  refine EP [5,6,11,68,69,70] [(BH z),(Cc z),(Iu c cp56 ax55),(J3 la),(Ec la),(70,i6 ((k+1:Nat):Int))] (by(try dsimp only[Rt,JP,QG,IU,Ik,Gf,ED,EZ,FC,H7,J4,FW,NI,Ep,EM,KO,BU,Gp,BR,P9,Jj,H6,Jt,FY,EE,ES,FX,Mc,J3,FO,Cc,G8,KR,DN,Ec,FP,Iw,Iu,DJ,BH,Hy]);simp only[ha76,ha62];rfl) ?_
  refine Bz (fun a w' hs=>⟨la.Ac.xs.length - (k+1),by omega,n95,(k+1),aR3,cR3,rfl,by omega,by omega,by(try dsimp only[Rt,JP,QG,IU,Ik,Gf,ED,EZ,FC,H7,J4,FW,NI,Ep,EM,KO,BU,Gp,BR,P9,Jj,H6,Jt,FY,EE,ES,FX,Mc,J3,FO,Cc,G8,KR,DN,Ec,FP,Iw,Iu,DJ,BH,Hy]at hs ⊢);rw[pcC_dj (n:=j) (by omega),←hhy81];exact hs⟩)
 refine A8 15 0 [0] [[oF],[(a1 4),o0]] [BF ((k:Int)<(la.Ac.xs.length:Int)),Qb (z+3)] [(4,.slice aR2 ((Dy c i++DW c k).length) cR2)] rfl ⟨bf,rfl,Ae⟩ ?_
 refine AZ [] [] (.slice aR2 ((Dy c i++DW c k).length) cR2) Ae ?_
 intro w117 hw117
 have hpo:Dy c i++DW c k=E8 c:=by rw[hie,show k=c.Ac.xs.length by omega];rfl
 have hrow:=hw117.at (i:=3) rfl
 (try dsimp only[JP,IU,Ik,Gf,ED,EZ,FC,H7,J4,FW,Ep,EM,BU,Gp,BR,Jj,Vj,H6,Jt,FY,EE,ES,FX,J3,FO,Cc,G8,KR,DN,Ec,FP,Iw,Iu,DJ,BH,MZ,SH,Hy]at hrow)
 rw[hpo]at hrow ⊢
 exact⟨_,_,rfl,hz ▸ JF (fun _=>rfl) hrow (by have:=VM hfine;omega),Bg hw117⟩
def KL(c:Af)(at_:Int):A7:=match(AU c).find? (hit at_)with
 | some y=>y.Au
 | none=>match Hw c (at_ / 16)with
  | some p=>⟨1,(p:Int),0⟩
  | none=>⟨0,0,0⟩
def Gv(c:Af)(at_:Int):Prop:=at_<0∨c.Frames≤at_ / 16∨1024≤at_ / 16
theorem RV{α:Type}[Inhabited α]{p:α→Bool}:∀ {xs:List α} {m:Nat},m<xs.length→(∀ q,q<m→p (gd xs q)=false)→p (gd xs m)=true→xs.find? p=some (gd xs m)
 | x :: xs,0,_,_,h=>by
  have h':p x=true:=h
  rw[List.find?_cons_of_pos h'];rfl
 | x :: xs,m+1,hm,h0,h=>by
  have h':p x=false:=h0 0 (by omega)
  rw[List.find?_cons_of_neg (by simp[h'])]
  exact RV (xs:=xs) (m:=m) (by simpa using hm) (fun q hq=>h0 (q+1) (by omega)) h
theorem Qj{α:Type}[Inhabited α]{p:α→Bool}{xs:List α}(h:∀ q,q<xs.length→p (gd xs q)=false):xs.find? p=none:=by
 rw[List.find?_eq_none]
 intro x hx
 obtain⟨i,hi,rfl⟩:=List.getElem_of_mem hx
 have:=h i hi
 rw[DC hi]at this
 simp[this]
def OwnIs(e:Ending)(o:A7)(er:Int):Prop:=e = .returned (.tuple #[.agg (A7.arr o),.int .i64 er])
theorem ZX(w:World)(c:Af)(at_:Int)(hc:Af.ok Any w c)(hok:BZ c=false):Calls Try.prog 6 #[.agg (Af.arr c),.int .i64 at_] w fun e w'=>e = .returned (.tuple #[.agg (A7.arr ⟨0,0,0⟩),.int .i64 150])∧BN (fun _=>False) w w':=by
 obtain⟨z,hz⟩:∃ z,z=w.heap.size:=⟨_,rfl⟩
 refine BV (args:=[.agg (Af.arr c),i6 at_]) 120 ⟨w,z,[(Ak w)]⟩ Try.func6 rfl (by kernel_rfl) (by kernel_rfl) (Fv hz) ?_
 refine Eb [0,1] [(0,.agg (Af.arr c)),(1,i6 at_)] ?_
 refine q_c 7 1 [] [[o0,o0,o0],[(an 7 1)]] [Qb z,Qb z,Qb z,Qb z,Qb z,Qb z,Qb z] [(1,i6 at_),(2,pt z),(4,pt (z+1)),(11,.agg (Af.arr c))] ⟨w,z+2,[(Ak w),(bk z (Af.arr c) 26),(bk (z+1) #[i6 0,i6 0,i6 0] 36)]⟩ rfl ⟨rfl,rfl,rfl,rfl,rfl,rfl,rfl,Ae⟩ ?_
 refine H5 15 #[.agg (Af.arr c)] (some 12) (.bool false) (fun w1 hw1=>Zf w1 c (hc.ext (hw1.ext rfl) (fun _ h=>h)) hok) (fun n2 (hn3:z+2≤n2) => ?_)
 refine Di 8 0 [1] [[o0],[o0,(an 3 2),o0]] [Qb (z+1),Qb (z+1),Qb (z+1)] [(4,pt (z+1)),(5,i6 150)] rfl ⟨rfl,rfl,rfl,Ae⟩ ?_
 refine AZ [.at 2,.at 2,.at 2] [Qb (z+1),Qb (z+1),Qb (z+1)] (.tuple #[.agg #[i6 0,i6 0,i6 0],i6 150]) ⟨rfl,rfl,rfl,Ae⟩ ?_
 intro w4 hw4
 exact⟨rfl,Bg hw4⟩
section
variable (z:Nat)(c:Af)(b15 o16 cp11:Nat)(y36:Ah)(ax10:Option Addr)(j:Nat)
abbrev Jl:=bk (z+1) #[i6 0,i6 0,i6 0] 36
abbrev IJ:=bk z (Af.arr c) 26
abbrev Po:Dq:=(6,.slice (some ⟨b15,o16,none⟩) ((AU c).length) cp11)
abbrev Jq:=(67,Ad c.Aa.xs.length)
abbrev MF:=(77,Ad y36.Ag.xs.length)
abbrev Kz:=(33,i6 (((AU c).length:Nat):Int))
abbrev Pm:Dq:=(6,.slice ax10 ((AU c).length) cp11)
abbrev DX:=(4,pt (z+1))
abbrev Qg:=(78,i6 ((j+1:Nat):Int))
end
theorem Z8(w:World)(c:Af)(at_:Int)(hat:Fb .i64 at_)(hc:Af.ok Any w c)(hok:BZ c=true):Calls Try.prog 6 #[.agg (Af.arr c),.int .i64 at_] w fun e w'=>(e = .returned (.tuple #[.agg (A7.arr ⟨0,0,0⟩),.int .i64 151])∧Gv c at_∧BN (fun _=>False) w w')∨(OwnIs e (KL c at_) 0∧¬ Gv c at_∧BN (fun _=>False) w w'):=by
 obtain⟨z,hz⟩:∃ z,z=w.heap.size:=⟨_,rfl⟩
 refine BV (args:=[.agg (Af.arr c),i6 at_]) 120 ⟨w,z,[(Ak w)]⟩ Try.func6 rfl (by kernel_rfl) (by kernel_rfl) (Fv hz) ?_
 have hfine:=MW hok;have hkn:=hfine.kn;have hpn:=hfine.pn;have hcn:=hfine.cn;have hpln:=pieces_len hfine;have hatl : -9223372036854775808≤at_∧at_≤9223372036854775807:=hat
 refine Eb [0,1] [(0,.agg (Af.arr c)),(1,i6 at_)] ?_
 refine q_c 7 1 [] [[o0,o0,o0],[(an 7 1)]] [Qb z,Qb z,Qb z,Qb z,Qb z,Qb z,Qb z] [(1,i6 at_),(2,pt z),(DX z),(11,.agg (Af.arr c))] ⟨w,z+2,[(Ak w),(IJ z c),(Jl z)]⟩ rfl ⟨rfl,rfl,rfl,rfl,rfl,rfl,rfl,Ae⟩ ?_
 refine H5 15 #[.agg (Af.arr c)] (some 12) (.bool true) (fun w1 hw1=>Yd w1 c (hc.ext (hw1.ext rfl) (fun _ h=>h)) hok) (fun n2 (hn3:z+2≤n2) => ?_)
 refine Di 7 0 [0] [[o0]] [] [(1,i6 at_),(2,pt z),(DX z),(13,.bool false)] rfl Ae ?_
 by_cases h4:(at_:Int)<0
 ·refine A8 9 0 [1] [[o0,oT,o0,o0,o0,o0],[o0,(an 3 2),o0]] [BT ((at_:Int)<0),Qb (z+1),Qb (z+1),Qb (z+1)] [(DX z),(5,i6 151)] rfl ⟨bt,rfl,rfl,rfl,Ae⟩ ?_
  refine AZ [.at 2,.at 2,.at 2] [Qb (z+1),Qb (z+1),Qb (z+1)] (.tuple #[.agg #[i6 0,i6 0,i6 0],i6 151]) ⟨rfl,rfl,rfl,Ae⟩ ?_
  intro w5 hw5
  exact .inl ⟨rfl,show Gv c at_ from(by unfold Gv;omega),Bg hw5⟩
 by_cases h6:(at_ / 16:Int)<c.Frames
 ·by_cases h7:(at_ / 16:Int)<1024
  ·refine A8 8 1 [0] [[o0,oF,o0,o0,(ov (i6 (at_ / 16))),o0,(a1 1),oF,o0,o0,o0,(ov (i6 (at_ / 16))),oF,o0],[(an 7 1)]] [BF ((at_:Int)<0),Wr (Int.tdiv (at_) 16) (at_ / 16),Qb z,BF ((at_ / 16:Int)≥c.Frames),Wr (Int.tdiv (at_) 16) (at_ / 16),BF ((at_ / 16:Int)≥1024),Qb z,Qb z,Qb z,Qb z,Qb z,Qb z,Qb z] [(1,i6 at_),(2,pt z),(DX z),(30,.agg (Af.arr c))] rfl ⟨bf,congrArg (Value.int .i64) (I5 (by omega) (by omega) (by omega)),rfl,bf,congrArg (Value.int .i64) (I5 (by omega) (by omega) (by omega)),bf,rfl,rfl,rfl,rfl,rfl,rfl,rfl,Ae⟩ ?_
   refine l_call [] [] 17 #[.agg (Af.arr c)] (some 31) Ae ?_
   intro w8 hw8
   refine(Ud w8 c (hc.ext (hw8.ext rfl) (fun _ h=>h)) hok).mono ?_
   rintro e w9 ⟨ax10,cp11,rfl,hSw9,hkw9⟩
   have hnw9:n2≤w9.heap.size:=Dx hw8 hkw9
   rw[hw8.size]at hSw9
   refine⟨_,_,rfl,hw8.Lc hkw9, ?_⟩
   refine Di 8 0 [] [[o0],[o0,o0,o0]] [] [(1,i6 at_),(2,pt z),(DX z),(Pm c cp11 ax10),(Kz c),(34,i6 0)] rfl Ae ?_
   refine Ce (fun m a w'=>∃ (n13:Nat) (mm:Nat),m=(AU c).length - mm∧w9.heap.size≤n13∧(mm≤(AU c).length)∧(∀ q,q<mm→hit at_ (gd (AU c) q)=false)∧St 120 [(1,i6 at_),(2,pt z),(DX z),(Pm c cp11 ax10),(Kz c),(34,Ad mm)] [] ⟨w,n13,[(Ak w),(IJ z c),(Jl z),(mid n2 w9)]⟩ a w') ((AU c).length - 0) ?_ ?_
   ·intro a w' hs;exact⟨w9.heap.size,0,rfl,Nat.le_refl _,Nat.zero_le _,fun q hq=>absurd hq (Nat.not_lt_zero q),hs⟩
   rintro m a w' ⟨n13,mm,rfl,hn12,hkmm,hm0,hs⟩
   refine(?_:G Try.prog 120 [(1,i6 at_),(2,pt z),(DX z),(Pm c cp11 ax10),(Kz c),(34,Ad mm)] [] ⟨w,n13,[(Ak w),(IJ z c),(Jl z),(mid n2 w9)]⟩ _ _ _) a w' hs
   clear hs a w'
   refine CP ?_
   by_cases h14:(mm:Int)<(((AU c).length:Nat):Int)
   ·refine A8 14 0 [1] [[oT],[o0,o0]] [BT ((mm:Int)<(((AU c).length:Nat):Int))] [(1,i6 at_),(2,pt z),(DX z),(Pm c cp11 ax10),(Kz c),(34,Ad mm),(7,Ad mm)] rfl ⟨bt,Ae⟩ ?_
    obtain⟨b15,o16,ha17,hF19,hc18⟩:=((⟨hSw9,WA hfine⟩:F8 Ap.cells 5 Ap.ok _ _ _)).1.all (show 0<(AU c).length by omega)
    replace ha17:ax10=some ⟨b15,o16,none⟩:=ha17
    refine IZ [(1,i6 at_),(2,pt z),(DX z),(Po c b15 o16 cp11),(Kz c),(34,Ad mm),(7,Ad mm)] (by(try dsimp only[Jl,IJ,Po,Kz,Pm,DX]);simp only[ha17]) ?_
    have hc20:=hc18 mm (show mm<(AU c).length by omega)
    have he21:=((⟨hSw9,WA hfine⟩:F8 Ap.cells 5 Ap.ok _ _ _)).2 mm (show mm<(AU c).length by omega)
    obtain⟨y22,hy22⟩:∃ y_,y_=gd (⟨ax10,cp11,AU c⟩:Sl Ap).xs mm:=⟨_,rfl⟩
    rw[←hy22]at he21 hc20
    have hPc:=Wj hfine (show mm<(AU c).length by omega);rw[←hy22]at hPc;unfold Rq at hPc
    by_cases h23:(at_:Int)<y22.At
    ·refine Fp 22 [0,1,2,3] [(Ak w),(IJ z c),(Jl z),(mid n2 w9)] rfl rfl ?_
     refine CU [(0,o0),(1,o0),(2,(oi mm)),(3,o0),(4,(oa [.via 3 (i6 y22.At)])),(5,o0),(6,oF),(7,o0),(8,o0),(9,o0),(10,o0),(11,o0),(12,o0),(13,o0),(14,o0),(15,o0),(16,o0),(17,o0),(18,o0),(19,o0),(20,o0),(21,o0)] [1,2,4,6,33,34,7,58] [BI mm,mm<(AU c).length,Bq,∀ w',Ch.holds (mid n2 w9) w'→w'.cell? ⟨b15,o16+mm*5,none⟩=some (i6 y22.At),BF ((y22.At:Int)≤at_)] (Ed 22 0) [(1,i6 at_),(2,pt z),(DX z),(Po c b15 o16 cp11),(Kz c),(34,Ad mm),(7,Ad mm),(58,.bool false)] ⟨rfl,(by omega),rfl,EH hF19 (hc20 0 _ rfl),bf,Ae⟩ ?_
     refine D9 ?_
     refine Ja 7 0 [0] [[(ov (i6 ((mm+1:Nat):Int))),o0]] [Wr ((mm:Int)+1) (((mm+1:Nat):Int))] [(1,i6 at_),(2,pt z),(DX z),(Po c b15 o16 cp11),(Kz c),(34,i6 ((mm+1:Nat):Int))] rfl ⟨Be,Ae⟩ ?_
     refine EP [1,2,4,6,33,34] [(1,i6 at_),(2,pt z),(DX z),(Pm c cp11 ax10),(Kz c),(34,i6 ((mm+1:Nat):Int))] (by(try dsimp only[Jl,IJ,Po,Kz,Pm,DX]);simp only[ha17];rfl) ?_
     refine Bz (fun a w' hs=>⟨(AU c).length - (mm+1),by omega,n13,(mm+1),rfl,by omega,by omega,upto hm0 (by rw[←hy22];exact decide_eq_false (by omega)),hs⟩)
    by_cases h24:(at_:Int)<y22.At+y22.Size
    ·refine Fp 22 [0,1,2,3] [(Ak w),(IJ z c),(Jl z),(mid n2 w9)] rfl rfl ?_
     refine CU [(0,o0),(1,o0),(2,(oi mm)),(3,o0),(4,(oa [.via 3 (i6 y22.At)])),(5,o0),(6,oT),(7,o0),(8,o0),(9,o0),(10,o0),(11,(oi mm)),(12,o0),(13,(oa [.via 3 (i6 y22.At)])),(14,o0),(15,o0),(16,(oi mm)),(17,o0),(18,(oa [.via 3 (i6 y22.Size)])),(19,(ov (i6 (y22.At+y22.Size)))),(20,oT),(21,o0)] [1,2,4,6,33,34,7,58] [BI mm,mm<(AU c).length,Bq,∀ w',Ch.holds (mid n2 w9) w'→w'.cell? ⟨b15,o16+mm*5,none⟩=some (i6 y22.At),BT ((y22.At:Int)≤at_),BI mm,mm<(AU c).length,Bq,∀ w',Ch.holds (mid n2 w9) w'→w'.cell? ⟨b15,o16+mm*5,none⟩=some (i6 y22.At),BI mm,mm<(AU c).length,Bq,∀ w',Ch.holds (mid n2 w9) w'→w'.cell? ⟨b15,o16+mm*5+1,none⟩=some (i6 y22.Size),Wr ((y22.At:Int)+y22.Size) (y22.At+y22.Size),BT ((at_:Int)<(y22.At+y22.Size))] (Ed 22 0) [(1,i6 at_),(2,pt z),(DX z),(Po c b15 o16 cp11),(Kz c),(34,Ad mm),(7,Ad mm),(58,.bool true)] ⟨rfl,(by omega),rfl,EH hF19 (hc20 0 _ rfl),bt,rfl,(by omega),rfl,EH hF19 (hc20 0 _ rfl),rfl,(by omega),rfl,EH hF19 (hc20 1 _ rfl),Be,bt,Ae⟩ ?_
     refine D9 ?_
     refine q_o 7 0 [1] [[o0,o0,(oi mm),o0,(oa [.via 3 (i6 y22.Au.Kind),.via 3 (i6 y22.Au.Index),.via 3 (i6 y22.Au.Port)]),(an 3 2),o0]] [BI mm,mm<(AU c).length,Bq,∀ w',Ch.holds (mid n2 w9) w'→w'.cell? ⟨b15,o16+mm*5+2,none⟩=some (i6 y22.Au.Kind),∀ w',Ch.holds (mid n2 w9) w'→w'.cell? ⟨b15,o16+mm*5+2+1,none⟩=some (i6 y22.Au.Index),∀ w',Ch.holds (mid n2 w9) w'→w'.cell? ⟨b15,o16+mm*5+2+2,none⟩=some (i6 y22.Au.Port),Qb (z+1),Qb (z+1),Qb (z+1)] [(DX z),(5,i6 0)] ⟨w,n13,[(Ak w),(IJ z c),(bk (z+1) #[i6 y22.Au.Kind,i6 y22.Au.Index,i6 y22.Au.Port] 36),(mid n2 w9)]⟩ rfl ⟨rfl,(by omega),rfl,EH hF19 (hc20 2 _ rfl),EH hF19 (hc20 3 _ rfl),EH hF19 (hc20 4 _ rfl),rfl,rfl,rfl,Ae⟩ ?_
     refine AZ [.at 2,.at 2,.at 2] [Qb (z+1),Qb (z+1),Qb (z+1)] (.tuple #[.agg #[i6 y22.Au.Kind,i6 y22.Au.Index,i6 y22.Au.Port],i6 0]) ⟨rfl,rfl,rfl,Ae⟩ ?_
     intro w25 hw25
     have hF:KL c at_=y22.Au:=by unfold KL;rw[RV (p:=hit at_) (m:=mm) (by omega) hm0 (by rw[←hy22];exact decide_eq_true ⟨by omega,by omega⟩),←hy22]
     exact .inr ⟨by rw[hF];rfl,show ¬ Gv c at_ from(by unfold Gv;omega),Bg hw25⟩
    refine Fp 22 [0,1,2,3] [(Ak w),(IJ z c),(Jl z),(mid n2 w9)] rfl rfl ?_
    refine CU [(0,o0),(1,o0),(2,(oi mm)),(3,o0),(4,(oa [.via 3 (i6 y22.At)])),(5,o0),(6,oT),(7,o0),(8,o0),(9,o0),(10,o0),(11,(oi mm)),(12,o0),(13,(oa [.via 3 (i6 y22.At)])),(14,o0),(15,o0),(16,(oi mm)),(17,o0),(18,(oa [.via 3 (i6 y22.Size)])),(19,(ov (i6 (y22.At+y22.Size)))),(20,oF),(21,o0)] [1,2,4,6,33,34,7,58] [BI mm,mm<(AU c).length,Bq,∀ w',Ch.holds (mid n2 w9) w'→w'.cell? ⟨b15,o16+mm*5,none⟩=some (i6 y22.At),BT ((y22.At:Int)≤at_),BI mm,mm<(AU c).length,Bq,∀ w',Ch.holds (mid n2 w9) w'→w'.cell? ⟨b15,o16+mm*5,none⟩=some (i6 y22.At),BI mm,mm<(AU c).length,Bq,∀ w',Ch.holds (mid n2 w9) w'→w'.cell? ⟨b15,o16+mm*5+1,none⟩=some (i6 y22.Size),Wr ((y22.At:Int)+y22.Size) (y22.At+y22.Size),BF ((at_:Int)<(y22.At+y22.Size))] (Ed 22 0) [(1,i6 at_),(2,pt z),(DX z),(Po c b15 o16 cp11),(Kz c),(34,Ad mm),(7,Ad mm),(58,.bool false)] ⟨rfl,(by omega),rfl,EH hF19 (hc20 0 _ rfl),bt,rfl,(by omega),rfl,EH hF19 (hc20 0 _ rfl),rfl,(by omega),rfl,EH hF19 (hc20 1 _ rfl),Be,bf,Ae⟩ ?_
    refine D9 ?_
    refine Ja 7 0 [0] [[(ov (i6 ((mm+1:Nat):Int))),o0]] [Wr ((mm:Int)+1) (((mm+1:Nat):Int))] [(1,i6 at_),(2,pt z),(DX z),(Po c b15 o16 cp11),(Kz c),(34,i6 ((mm+1:Nat):Int))] rfl ⟨Be,Ae⟩ ?_
    refine EP [1,2,4,6,33,34] [(1,i6 at_),(2,pt z),(DX z),(Pm c cp11 ax10),(Kz c),(34,i6 ((mm+1:Nat):Int))] (by(try dsimp only[Jl,IJ,Po,Kz,Pm,DX]);simp only[ha17];rfl) ?_
    refine Bz (fun a w' hs=>⟨(AU c).length - (mm+1),by omega,n13,(mm+1),rfl,by omega,by omega,upto hm0 (by rw[←hy22];exact decide_eq_false (by omega)),hs⟩)
   refine A8 16 0 [0] [[oF],[o0,(a1 1),o0,o0]] [BF ((mm:Int)<(((AU c).length:Nat):Int)),Qb z] [(1,i6 at_),(2,pt z),(DX z),(Jq c),(68,i6 0)] rfl ⟨bf,rfl,Ae⟩ ?_
   refine Ce (fun m a w'=>∃ (n27:Nat) (i:Nat),m=c.Aa.xs.length - i∧n13≤n27∧(i≤c.Aa.xs.length)∧(∀ p,p<i→TC (at_ / 16) (gd c.Aa.xs p)=false)∧St 120 [(1,i6 at_),(2,pt z),(DX z),(Jq c),(68,Ad i)] [] ⟨w,n27,[(Ak w),(IJ z c),(Jl z),(mid n2 w9)]⟩ a w') (c.Aa.xs.length - 0) ?_ ?_
   ·intro a w' hs;exact⟨n13,0,rfl,Nat.le_refl _,Nat.zero_le _,fun q hq=>absurd hq (Nat.not_lt_zero q),hs⟩
   rintro m a w' ⟨n27,i,rfl,hn26,hki,hi0,hs⟩
   refine(?_:G Try.prog 120 [(1,i6 at_),(2,pt z),(DX z),(Jq c),(68,Ad i)] [] ⟨w,n27,[(Ak w),(IJ z c),(Jl z),(mid n2 w9)]⟩ _ _ _) a w' hs
   clear hs a w'
   refine CP ?_
   by_cases h28:(i:Int)<(c.Aa.xs.length:Int)
   ·refine A8 14 0 [1] [[oT],[o0,o0]] [BT ((i:Int)<(c.Aa.xs.length:Int))] [(1,i6 at_),(2,pt z),(DX z),(Jq c),(68,Ad i),(8,Ad i)] rfl ⟨bt,Ae⟩ ?_
    obtain⟨b29,o30,ha31,hF33,hc32⟩:=(hc.Aa).1.all (show 0<c.Aa.xs.length by omega)
    replace ha31:c.Aa.a=some ⟨b29,o30,none⟩:=ha31
    have hc34:=hc32 i (show i<c.Aa.xs.length by omega)
    have he35:=(hc.Aa).2 i (show i<c.Aa.xs.length by omega)
    obtain⟨y36,hy36⟩:∃ y_,y_=gd c.Aa.xs i:=⟨_,rfl⟩
    rw[←hy36]at he35 hc34
    have hpt:=hfine.parts i (by omega);rw[←hy36]at hpt;have hrr:=TA hpt;have hlr:=he35.Ag.1.len
    refine A8 4 0 [] [[o0,(Du 1 b29 o30 c.Aa),o0,(oi i),o0,(oa [.via 0 (.slice y36.Ag.a y36.Ag.xs.length y36.Ag.cap)]),o0,o0]] [Qb z,Df b29 o30 c.Aa,BI i,i<c.Aa.xs.length,Bq,Old w b29 (o30+i*8+6) (.slice y36.Ag.a y36.Ag.xs.length y36.Ag.cap)] [(1,i6 at_),(2,pt z),(DX z),(8,Ad i),(Jq c),(68,Ad i),(MF y36),(78,i6 0)] rfl ⟨rfl,Dh ha31,rfl,(by omega),rfl,BA (hc34 6 _ rfl),Ae⟩ ?_
    refine Ce (fun m a w'=>∃ (n38:Nat) (j:Nat),m=y36.Ag.xs.length - j∧n27≤n38∧(j≤y36.Ag.xs.length)∧(∀ q,q<j→hasF (at_ / 16) (gd y36.Ag.xs q)=false)∧St 120 [(1,i6 at_),(2,pt z),(DX z),(8,Ad i),(Jq c),(68,Ad i),(MF y36),(78,Ad j)] [] ⟨w,n38,[(Ak w),(IJ z c),(Jl z),(mid n2 w9)]⟩ a w') (y36.Ag.xs.length - 0) ?_ ?_
    ·intro a w' hs;exact⟨n27,0,rfl,Nat.le_refl _,Nat.zero_le _,fun q hq=>absurd hq (Nat.not_lt_zero q),hs⟩
    rintro m a w' ⟨n38,j,rfl,hn37,hkj,hj0,hs⟩
    refine(?_:G Try.prog 120 [(1,i6 at_),(2,pt z),(DX z),(8,Ad i),(Jq c),(68,Ad i),(MF y36),(78,Ad j)] [] ⟨w,n38,[(Ak w),(IJ z c),(Jl z),(mid n2 w9)]⟩ _ _ _) a w' hs
    clear hs a w'
    refine CP ?_
    by_cases h39:(j:Int)<(y36.Ag.xs.length:Int)
    ·refine A8 14 0 [1] [[oT],[o0,o0]] [BT ((j:Int)<(y36.Ag.xs.length:Int))] [(1,i6 at_),(2,pt z),(DX z),(8,Ad i),(Jq c),(68,Ad i),(MF y36),(78,Ad j),(9,Ad j)] rfl ⟨bt,Ae⟩ ?_
     obtain⟨b40,o41,ha42,hF44,hc43⟩:=(he35.Ag).1.all (show 0<y36.Ag.xs.length by omega)
     replace ha42:y36.Ag.a=some ⟨b40,o41,none⟩:=ha42
     have hc45:=hc43 j (show j<y36.Ag.xs.length by omega)
     have he46:=(he35.Ag).2 j (show j<y36.Ag.xs.length by omega)
     obtain⟨y47,hy47⟩:∃ y_,y_=gd y36.Ag.xs j:=⟨_,rfl⟩
     rw[←hy47]at he46 hc45
     have hrg:=hrr j (by omega);rw[←hy47]at hrg;unfold I7 at hrg;rw[decide_eq_true_eq]at hrg
     refine q_c 4 0 [] [[o0,(Du 1 b29 o30 c.Aa),o0,(oi i),o0,⟨.auto [.via 0 (.slice y36.Ag.a y36.Ag.xs.length y36.Ag.cap)],some (.slice (some ⟨b40,o41,none⟩) y36.Ag.xs.length y36.Ag.cap)⟩,o0,(oi j),(ol 0 (Ar.arr y47)),o0,(an 4 4)]] [Qb z,Df b29 o30 c.Aa,BI i,i<c.Aa.xs.length,Bq,Old w b29 (o30+i*8+6) (.slice y36.Ag.a y36.Ag.xs.length y36.Ag.cap),Df b40 o41 y36.Ag,BI j,j<y36.Ag.xs.length,Bq,Eh w b40 (o41+j*4) (Ar.arr y47),Qb n38,Qb n38,Qb n38,Qb n38] [(1,i6 at_),(2,pt z),(DX z),(8,Ad i),(Jq c),(68,Ad i),(MF y36),(78,Ad j),(10,pt n38)] ⟨w,n38+1,[(Ak w),(IJ z c),(Jl z),(mid n2 w9),(bk n38 (Ar.arr y47) 54)]⟩ rfl ⟨rfl,Dh ha31,rfl,(by omega),rfl,BA (hc34 6 _ rfl),Dh ha42,rfl,(by omega),rfl,CB hc45,rfl,rfl,rfl,rfl,Ae⟩ ?_
     by_cases h48:(y47.Frame:Int)<0
     ·refine A8 9 0 [0] [[o0,(a1 4),oF,o0,o0,o0,o0,o0,o0],[(ov (i6 ((j+1:Nat):Int))),o0]] [Qb n38,BF ((y47.Frame:Int)≥0),Wr ((j:Int)+1) (((j+1:Nat):Int))] [(1,i6 at_),(2,pt z),(DX z),(8,Ad i),(Jq c),(68,Ad i),(MF y36),(Qg j)] rfl ⟨rfl,bf,Be,Ae⟩ ?_
      refine BO [0,1,2,3] [(Ak w),(IJ z c),(Jl z),(mid n2 w9)] rfl rfl ?_
      refine Dp [1,2,4,8,67,68,77,78] [(1,i6 at_),(2,pt z),(DX z),(8,Ad i),(Jq c),(68,Ad i),(MF y36),(Qg j)] ?_
      refine Bz (fun a w' hs=>⟨y36.Ag.xs.length - (j+1),by omega,(n38+1),(j+1),rfl,by omega,by omega,upto hj0 (by rw[←hy47];exact decide_eq_false (by omega)),hs⟩)
     by_cases h49:(1024:Int)<y47.Frame
     ·refine A8 9 0 [0] [[o0,(a1 4),oT,o0,o0,(a1 4),oF,o0,o0,o0,o0,o0],[(ov (i6 ((j+1:Nat):Int))),o0]] [Qb n38,BT ((y47.Frame:Int)≥0),Qb n38,BF ((y47.Frame:Int)≤1024),Wr ((j:Int)+1) (((j+1:Nat):Int))] [(1,i6 at_),(2,pt z),(DX z),(8,Ad i),(Jq c),(68,Ad i),(MF y36),(Qg j)] rfl ⟨rfl,bt,rfl,bf,Be,Ae⟩ ?_
      refine BO [0,1,2,3] [(Ak w),(IJ z c),(Jl z),(mid n2 w9)] rfl rfl ?_
      refine Dp [1,2,4,8,67,68,77,78] [(1,i6 at_),(2,pt z),(DX z),(8,Ad i),(Jq c),(68,Ad i),(MF y36),(Qg j)] ?_
      refine Bz (fun a w' hs=>⟨y36.Ag.xs.length - (j+1),by omega,(n38+1),(j+1),rfl,by omega,by omega,upto hj0 (by rw[←hy47];exact decide_eq_false (by omega)),hs⟩)
     by_cases h50:(at_ / 16:Int)<y47.Frame
     ·refine A8 9 0 [0] [[o0,(a1 4),oT,o0,o0,(a1 4),oT,o0,o0,o0,(a1 4),o0,(ov (i6 (at_ / 16))),oF,o0,o0,o0],[(ov (i6 ((j+1:Nat):Int))),o0]] [Qb n38,BT ((y47.Frame:Int)≥0),Qb n38,BT ((y47.Frame:Int)≤1024),Qb n38,Wr (Int.tdiv (at_) 16) (at_ / 16),BF ((y47.Frame:Int)≤(at_ / 16)),Wr ((j:Int)+1) (((j+1:Nat):Int))] [(1,i6 at_),(2,pt z),(DX z),(8,Ad i),(Jq c),(68,Ad i),(MF y36),(Qg j)] rfl ⟨rfl,bt,rfl,bt,rfl,congrArg (Value.int .i64) (I5 (by omega) (by omega) (by omega)),bf,Be,Ae⟩ ?_
      refine BO [0,1,2,3] [(Ak w),(IJ z c),(Jl z),(mid n2 w9)] rfl rfl ?_
      refine Dp [1,2,4,8,67,68,77,78] [(1,i6 at_),(2,pt z),(DX z),(8,Ad i),(Jq c),(68,Ad i),(MF y36),(Qg j)] ?_
      refine Bz (fun a w' hs=>⟨y36.Ag.xs.length - (j+1),by omega,(n38+1),(j+1),rfl,by omega,by omega,upto hj0 (by rw[←hy47];exact decide_eq_false (by omega)),hs⟩)
     by_cases h51:(at_ / 16:Int)<y47.Frame+y47.CE
     ·refine q_c 9 0 [1] [[o0,(a1 4),oT,o0,o0,(a1 4),oT,o0,o0,o0,(a1 4),o0,(ov (i6 (at_ / 16))),oT,o0,o0,o0,(ov (i6 (at_ / 16))),o0,(a1 4),o0,(a1 4),(ov (i6 (y47.Frame+y47.CE))),oT,o0],[o0,o0,(an 3 2),o0]] [Qb n38,BT ((y47.Frame:Int)≥0),Qb n38,BT ((y47.Frame:Int)≤1024),Qb n38,Wr (Int.tdiv (at_) 16) (at_ / 16),BT ((y47.Frame:Int)≤(at_ / 16)),Wr (Int.tdiv (at_) 16) (at_ / 16),Qb n38,Qb n38,Wr ((y47.Frame:Int)+y47.CE) (y47.Frame+y47.CE),BT ((at_ / 16:Int)<(y47.Frame+y47.CE)),Qb (z+1),Qb (z+1),Qb (z+1)] [(DX z),(5,i6 0)] ⟨w,n38+1,[(Ak w),(IJ z c),(bk (z+1) #[i6 1,Ad i,i6 0] 36),(mid n2 w9),(bk n38 (Ar.arr y47) 54)]⟩ rfl ⟨rfl,bt,rfl,bt,rfl,congrArg (Value.int .i64) (I5 (by omega) (by omega) (by omega)),bt,congrArg (Value.int .i64) (I5 (by omega) (by omega) (by omega)),rfl,rfl,Be,bt,rfl,rfl,rfl,Ae⟩ ?_
      refine AZ [.at 2,.at 2,.at 2] [Qb (z+1),Qb (z+1),Qb (z+1)] (.tuple #[.agg #[i6 1,Ad i,i6 0],i6 0]) ⟨rfl,rfl,rfl,Ae⟩ ?_
      intro w52 hw52
      have hN:(AU c).find? (hit at_)=none:=Qj (fun q hq=>hm0 q (by omega))
      have hR:Hw c (at_ / 16)=some i:=VY (by omega) hi0 (by rw[←hy36];exact WY (k:=j) (by omega) (by rw[←hy47];exact decide_eq_true ⟨by omega,by omega,by omega,by omega⟩))
      have hF:KL c at_=⟨1,(i:Int),0⟩:=by unfold KL;rw[hN,hR]
      exact .inr ⟨by rw[hF];rfl,show ¬ Gv c at_ from(by unfold Gv;omega),Bg hw52⟩
     refine A8 9 0 [0] [[o0,(a1 4),oT,o0,o0,(a1 4),oT,o0,o0,o0,(a1 4),o0,(ov (i6 (at_ / 16))),oT,o0,o0,o0,(ov (i6 (at_ / 16))),o0,(a1 4),o0,(a1 4),(ov (i6 (y47.Frame+y47.CE))),oF,o0],[(ov (i6 ((j+1:Nat):Int))),o0]] [Qb n38,BT ((y47.Frame:Int)≥0),Qb n38,BT ((y47.Frame:Int)≤1024),Qb n38,Wr (Int.tdiv (at_) 16) (at_ / 16),BT ((y47.Frame:Int)≤(at_ / 16)),Wr (Int.tdiv (at_) 16) (at_ / 16),Qb n38,Qb n38,Wr ((y47.Frame:Int)+y47.CE) (y47.Frame+y47.CE),BF ((at_ / 16:Int)<(y47.Frame+y47.CE)),Wr ((j:Int)+1) (((j+1:Nat):Int))] [(1,i6 at_),(2,pt z),(DX z),(8,Ad i),(Jq c),(68,Ad i),(MF y36),(Qg j)] rfl ⟨rfl,bt,rfl,bt,rfl,congrArg (Value.int .i64) (I5 (by omega) (by omega) (by omega)),bt,congrArg (Value.int .i64) (I5 (by omega) (by omega) (by omega)),rfl,rfl,Be,bf,Be,Ae⟩ ?_
     refine BO [0,1,2,3] [(Ak w),(IJ z c),(Jl z),(mid n2 w9)] rfl rfl ?_
     refine Dp [1,2,4,8,67,68,77,78] [(1,i6 at_),(2,pt z),(DX z),(8,Ad i),(Jq c),(68,Ad i),(MF y36),(Qg j)] ?_
     refine Bz (fun a w' hs=>⟨y36.Ag.xs.length - (j+1),by omega,(n38+1),(j+1),rfl,by omega,by omega,upto hj0 (by rw[←hy47];exact decide_eq_false (by omega)),hs⟩)
    refine A8 13 0 [0] [[oF],[(ov (i6 ((i+1:Nat):Int))),o0]] [BF ((j:Int)<(y36.Ag.xs.length:Int)),Wr ((i:Int)+1) (((i+1:Nat):Int))] [(1,i6 at_),(2,pt z),(DX z),(Jq c),(68,i6 ((i+1:Nat):Int))] rfl ⟨bf,Be,Ae⟩ ?_
    refine Bz (fun a w' hs=>⟨c.Aa.xs.length - (i+1),by omega,n38,(i+1),rfl,by omega,by omega,upto hi0 (by rw[←hy36];exact YH (fun q hq=>hj0 q (by omega))),hs⟩)
   refine A8 15 0 [0] [[oF],[o0,(an 3 2),o0]] [BF ((i:Int)<(c.Aa.xs.length:Int)),Qb (z+1),Qb (z+1),Qb (z+1)] [(DX z),(5,i6 0)] rfl ⟨bf,rfl,rfl,rfl,Ae⟩ ?_
   refine AZ [.at 2,.at 2,.at 2] [Qb (z+1),Qb (z+1),Qb (z+1)] (.tuple #[.agg #[i6 0,i6 0,i6 0],i6 0]) ⟨rfl,rfl,rfl,Ae⟩ ?_
   intro w53 hw53
   have hN:(AU c).find? (hit at_)=none:=Qj (fun q hq=>hm0 q (by omega))
   have hR:Hw c (at_ / 16)=none:=RD (fun p hp=>hi0 p (by omega))
   have hF:KL c at_=⟨0,0,0⟩:=by unfold KL;rw[hN,hR]
   exact .inr ⟨by rw[hF];rfl,show ¬ Gv c at_ from(by unfold Gv;omega),Bg hw53⟩
  refine A8 9 0 [1] [[o0,oF,o0,o0,(ov (i6 (at_ / 16))),o0,(a1 1),oF,o0,o0,o0,(ov (i6 (at_ / 16))),oT,o0],[o0,(an 3 2),o0]] [BF ((at_:Int)<0),Wr (Int.tdiv (at_) 16) (at_ / 16),Qb z,BF ((at_ / 16:Int)≥c.Frames),Wr (Int.tdiv (at_) 16) (at_ / 16),BT ((at_ / 16:Int)≥1024),Qb (z+1),Qb (z+1),Qb (z+1)] [(DX z),(5,i6 151)] rfl ⟨bf,congrArg (Value.int .i64) (I5 (by omega) (by omega) (by omega)),rfl,bf,congrArg (Value.int .i64) (I5 (by omega) (by omega) (by omega)),bt,rfl,rfl,rfl,Ae⟩ ?_
  refine AZ [.at 2,.at 2,.at 2] [Qb (z+1),Qb (z+1),Qb (z+1)] (.tuple #[.agg #[i6 0,i6 0,i6 0],i6 151]) ⟨rfl,rfl,rfl,Ae⟩ ?_
  intro w54 hw54
  exact .inl ⟨rfl,show Gv c at_ from(by unfold Gv;omega),Bg hw54⟩
 refine A8 9 0 [1] [[o0,oF,o0,o0,(ov (i6 (at_ / 16))),o0,(a1 1),oT,o0,o0,o0],[o0,(an 3 2),o0]] [BF ((at_:Int)<0),Wr (Int.tdiv (at_) 16) (at_ / 16),Qb z,BT ((at_ / 16:Int)≥c.Frames),Qb (z+1),Qb (z+1),Qb (z+1)] [(DX z),(5,i6 151)] rfl ⟨bf,congrArg (Value.int .i64) (I5 (by omega) (by omega) (by omega)),rfl,bt,rfl,rfl,rfl,Ae⟩ ?_
 refine AZ [.at 2,.at 2,.at 2] [Qb (z+1),Qb (z+1),Qb (z+1)] (.tuple #[.agg #[i6 0,i6 0,i6 0],i6 151]) ⟨rfl,rfl,rfl,Ae⟩ ?_
 intro w55 hw55
 exact .inl ⟨rfl,show Gv c at_ from(by unfold Gv;omega),Bg hw55⟩
end Go.Proofs.Ytlhjneaafhoipaa.Ly
